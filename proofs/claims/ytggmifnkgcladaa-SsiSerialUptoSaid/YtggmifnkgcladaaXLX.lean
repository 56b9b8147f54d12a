/- SsiSerial: its walk. No condition. -/
import Derived.Test.YtggmifnkgcladaaXSQ
set_option maxRecDepth 20000
namespace Go.Proofs.Ytggmifnkgcladaa
open Go Go.Vc
open Go.Si Go.Vl
theorem c_law20_SsiSerial (ops : List OpA) (hops : ScB ops) : CallL Try.prog f_law20_SsiSerial [] [] [.rep (ScR ops)] (fun _ : Unit => True) (fun _ => []) (fun _ => .is (.bool true)) :=
CallL.of (fn := Try.f4) Try.func4 (n := 216) rfl rfl rfl (fun _ _ => by kernel_rfl) fun E W hb0 => by
  refine J.openSc (s := 0) rfl (fun a cap b0 o0 ha => ?_)
  have hlen := hops.len
  repeat refine J.seq ?_
  refine J.plain ?_
  refine JO.t (ob_assign rfl) rfl ?_
  refine JO.nil ?_
  repeat (first | refine JX.next ?_ | refine JX.normal_block ?_)
  refine J.sel [0] (.cons rfl .nil) ?_
  repeat refine J.seq ?_
  refine J.plain ?_
  refine JO.callK (Lr := []) (c_law20_awake) rfl (.refl _) none_in .nil ?_
  rintro - -
  try dsimp only
  refine JO.t (ob_not rfl) rfl ?_
  refine JO.nil ?_
  repeat (first | refine JX.next ?_ | refine JX.normal_block ?_)
  refine J.sel [0, 10] (.cons rfl (.cons rfl .nil)) ?_
  repeat refine J.seq ?_
  refine J.cond rfl (fun ht10 => ?_) (fun ht10 => ?_)
  ·
    try simp only [decide_eq_true_eq, decide_eq_false_iff_not] at ht10
    exfalso
    cases ht10
  ·
    try simp only [decide_eq_true_eq, decide_eq_false_iff_not] at ht10
    refine J.skip ?_
    repeat (first | refine JX.next ?_ | refine JX.normal_block ?_)
    repeat refine J.seq ?_
    refine J.plain ?_
    refine JO.callK (Lr := []) (k_New) rfl (.refl _) none_in .nil ?_
    rintro ⟨b, ba⟩ -
    try dsimp only
    refine JO.t (ob_assign rfl) rfl ?_
    refine JO.nil ?_
    repeat (first | refine JX.next ?_ | refine JX.normal_block ?_)
    refine J.sel [0, 3] (.cons rfl (.cons rfl .nil)) ?_
    refine J.fact (WrF []) (fun E0 w0 _ _ => fun w1 hk v hv => by cases hv) ?_
    repeat refine J.seq ?_
    refine J.plain ?_
    refine JO.t (ob_build (cs := [_, _]) sh_cadastreref20_Set .nil rfl rfl) rfl ?_
    refine JO.box rfl rfl fun b13 => ?_
    refine JO.t (ob_assign rfl) rfl ?_
    refine JO.nil ?_
    repeat (first | refine JX.next ?_ | refine JX.normal_block ?_)
    refine J.sel [0, 3, 4] (.cons rfl (.cons rfl (.cons rfl .nil))) ?_
    repeat refine J.seq ?_
    refine J.plain ?_
    refine JO.t (ob_assign rfl) rfl ?_
    refine JO.nil ?_
    repeat (first | refine JX.next ?_ | refine JX.normal_block ?_)
    refine J.sel [0, 3, 4, 5] (.cons rfl (.cons rfl (.cons rfl (.cons rfl .nil)))) ?_
    repeat refine J.seq ?_
    refine J.block ?_
    repeat refine J.seq ?_
    have hP0 : (RS.L ⟨0, none, 0, []⟩ b13 ++ SS.L ⟨0, 0, 0, []⟩ b ba).Perm (RS.L ⟨0, none, 0, []⟩ b13 ++ (SS.L ⟨0, 0, 0, []⟩ b ba ++ [])) := .of_eq (by rw [List.append_nil])
    refine J.subP hP0 ?_
    refine J.loopH (α := LT × List AT) (fun s => [(0, _), (3, .is (.pointer (some ⟨b, 0, none⟩))), (4, .is (.pointer (some ⟨b13, 0, none⟩))), (5, .is (.int .i64 (s.1.i : Nat)))]) (fun s => s.1.p.L b13 ++ s.1.q.L b ba) (fun s => WrF s.1.U) (fun s => s.1.i ≤ ops.length ∧ SRel s.1.q s.1.A s.1.n s.1.U ∧ RRl s.1.p s.2 s.1.n (wsO ops) ∧ SerR s.2 s.1.A ∧ Bd s.1.A 40 s.1.i ∧ Bd s.2 40 s.1.i ∧ s.1.n ≤ s.1.i) (fun s => ops.length - s.1.i) ⟨⟨0, ⟨0, 0, 0, []⟩, ⟨0, none, 0, []⟩, [], 0, []⟩, []⟩ [0, 3, 4, 5] (.cons rfl (.cons rfl (.cons rfl (.cons rfl .nil)))) rfl (fun E0 w0 hG => hG _ (by repeat (first | exact List.mem_cons_self | apply List.mem_cons_of_mem))) ⟨Nat.zero_le _, SRel.new, RRl.new, SerR.nil, Bd.nil.mono (by omega) (Nat.le_refl _), Bd.nil.mono (by omega) (Nat.le_refl _), Nat.le_refl _⟩ fun ⟨⟨i, q, p, A, n, U⟩, B⟩ ⟨hi, hS, hT, hSR, hBA, hBB, hn⟩ => ?_
    try dsimp only
    try dsimp only at q
    try dsimp only at p
    try dsimp only at A
    try dsimp only at n
    try dsimp only at U
    try dsimp only at B
    try dsimp only at hi
    try dsimp only at hS
    try dsimp only at hT
    try dsimp only at hSR
    try dsimp only at hBA
    try dsimp only at hBB
    try dsimp only at hn
    repeat refine J.seq ?_
    refine J.plain ?_
    refine JO.t (ob_move rfl) rfl ?_
    refine JO.t (ob_move rfl) rfl ?_
    refine JO.t (ob_len un_sl_cadastrelaw20_Op rfl) rfl ?_
    refine JO.t (ob_lss rfl rfl) rfl ?_
    refine JO.nil ?_
    repeat (first | refine JX.next ?_ | refine JX.normal_block ?_)
    refine J.sel [0, 3, 4, 5, 17] (.cons rfl (.cons rfl (.cons rfl (.cons rfl (.cons rfl .nil))))) ?_
    repeat refine J.seq ?_
    refine J.cond rfl (fun ht17 => ?_) (fun ht17 => ?_)
    ·
      try simp only [decide_eq_true_eq, decide_eq_false_iff_not] at ht17
      refine J.skip ?_
      repeat (first | refine JX.next ?_ | refine JX.normal_block ?_)
      repeat refine J.seq ?_
      refine J.block ?_
      have hlt : i < ops.length := by omega
      have hTl := hT.len
      have hSl := hSR.len
      have hAl := hBA.len
      have hsp := hT.sp
      repeat refine J.seq ?_
      refine J.plain ?_
      refine JO.t (ob_move rfl) rfl ?_
      refine JO.t (ob_move rfl) rfl ?_
      refine JO.t (ob_indexAddr el_sl_cadastrelaw20_Op rfl (ha (by omega)) rfl (by omega) (by omega)) rfl ?_
      refine JO.t (ob_loadG (enc := OpA.cells) (sz := 13) (i := i) (y := (opAt ops i)) (cs := OpA.cells (opAt ops i)) sz_cadastrelaw20_Op rfl (by repeat (first | exact List.mem_cons_self | apply List.mem_cons_of_mem)) (ha (by omega)) (opAt_get (by omega)) (by omega) rfl) rfl ?_
      refine JO.alloc zo_cadastrelaw20_Op rfl fun b6 => ?_
      refine JO.m (obm_store rfl rfl (by repeat (first | exact .here | apply Upd.there)) (by first | exact cnt_is rfl rfl | exact cnt_ex) (by first | exact cnt_is rfl rfl | exact cnt_ex | exact cnt_aggO) ss_cadastrelaw20_Op) (by rfl) ?_
      refine JO.nil ?_
      repeat (first | refine JX.next ?_ | refine JX.normal_block ?_)
      refine J.sel [0, 3, 4, 5, 6] (.cons rfl (.cons rfl (.cons rfl (.cons rfl (.cons rfl .nil))))) ?_
      repeat refine J.seq ?_
      refine J.reg0 hmx (by kernel_rfl) (by kernel_rfl) ?_
      refine RT.t (ob_fieldAddr fo_cadastrelaw20_Op_1 rfl) ?_
      refine RT.t (ob_ld1 sz_int rfl rfl) ?_
      refine RT.t (ob_geq rfl rfl) ?_
      refine RT.t (ob_move rfl) ?_
      refine RT.g rfl rfl rfl (fun hg => ob_fieldAddr fo_cadastrelaw20_Op_1 (.inl rfl)) ?_
      refine RT.g rfl rfl rfl (fun hg => ob_ld1 sz_int (.inr ⟨_, rfl, fun h => h⟩) rfl) ?_
      refine RT.g rfl rfl rfl (fun hg => ob_move (.inl rfl)) ?_
      refine RT.g rfl rfl rfl (fun hg => ob_nilCheck (.inr ⟨_, rfl, fun h => h⟩)) ?_
      refine RT.g rfl rfl rfl (fun hg => ob_fieldAddr fo_cadastreref20_Set_0 (.inr ⟨_, rfl, fun h => h⟩)) ?_
      refine RT.g rfl rfl rfl (fun hg => ob_ld1 sz_sl_cadastreref20_Tx (.inr ⟨_, rfl, fun h => h⟩) (hm := ⟨List.mem_cons_of_mem _ (List.mem_append_left _ List.mem_cons_self)⟩) rfl) ?_
      refine RT.g rfl rfl rfl (fun hg => ob_lenO un_sl_cadastreref20_Tx (.inr ⟨_, rfl, fun h => h⟩) (grows_none hT.wf.g)) ?_
      refine RT.g rfl rfl rfl (fun hg => ob_leq (.inr ⟨_, rfl, fun h => h⟩) (.inr ⟨_, rfl, fun h => h⟩)) ?_
      refine RT.t (ob_pickAnd rfl rfl rfl id) ?_
      refine RT.t (ob_move rfl) ?_
      refine RT.g rfl rfl rfl (fun hg => ob_move (.inl rfl)) ?_
      refine RT.g rfl rfl rfl (fun hg => ob_nilCheck (.inr ⟨_, rfl, fun h => h⟩)) ?_
      refine RT.g rfl rfl rfl (fun hg => ob_fieldAddr fo_cadastreref20_Set_0 (.inr ⟨_, rfl, fun h => h⟩)) ?_
      refine RT.g rfl rfl rfl (fun hg => ob_ld1 sz_sl_cadastreref20_Tx (.inr ⟨_, rfl, fun h => h⟩) (hm := ⟨List.mem_cons_of_mem _ (List.mem_append_left _ List.mem_cons_self)⟩) rfl) ?_
      refine RT.g rfl rfl rfl (fun hg => ob_fieldAddr fo_cadastrelaw20_Op_1 (.inl rfl)) ?_
      refine RT.g rfl rfl rfl (fun hg => ob_ld1 sz_int (.inr ⟨_, rfl, fun h => h⟩) rfl) ?_
      refine RT.g rfl rfl rfl (fun hg => ob_subc (cc := (opAt ops i).t - 1) (.inr ⟨_, rfl, fun h => h⟩) (.inl rfl) rfl (by simp at hg; omega) (by simp at hg; omega)) ?_
      refine RT.g rfl rfl rfl (fun hg => ob_idxO el_sl_cadastreref20_Tx (.inr ⟨_, rfl, fun h => h⟩) hT.wf.g (.inr ⟨_, rfl, fun h => h⟩) (by simp at hg; omega) (by simp at hg; omega)) ?_
      refine RT.g rfl rfl rfl (fun hg => ob_fieldAddr fo_cadastreref20_Tx_0 (.inr ⟨_, rfl, fun h => h⟩)) ?_
      refine RT.g rfl rfl rfl (fun hg => ob_ldO1 (e := ty_cadastreref20_Tx) RX.len sz_int (.inr ⟨_, rfl, fun h => h⟩) (fun q0 h => List.mem_cons_of_mem _ (List.mem_append_left _ (rmem_l h))) hT.wf.g (rAt_get (xs := p.xs) (i := (opAt ops i).t - 1) (by simp at hg; omega) (by simp at hg; omega)) rfl rfl) ?_
      refine RT.g rfl rfl rfl (fun hg => ob_eql (.inr ⟨_, rfl, fun h => h⟩) (.inl rfl)) ?_
      refine RT.t (ob_pickAnd rfl rfl rfl id) ?_
      refine RT.t (ob_assign rfl) ?_
      refine RT.nil ?_
      refine FinS.nil0 ?_
      repeat (first | refine JX.next ?_ | refine JX.normal_block ?_)
      refine J.sel [0, 3, 4, 5, 6, 7] (.cons rfl (.cons rfl (.cons rfl (.cons rfl (.cons rfl (.cons rfl .nil)))))) ?_
      rw [live_val, hT.ab, hSR.live]
      repeat refine J.seq ?_
      refine J.plain ?_
      refine JO.t (ob_assign rfl) rfl ?_
      refine JO.nil ?_
      repeat (first | refine JX.next ?_ | refine JX.normal_block ?_)
      refine J.sel [0, 3, 4, 5, 6, 7, 8] (.cons rfl (.cons rfl (.cons rfl (.cons rfl (.cons rfl (.cons rfl (.cons rfl .nil))))))) ?_
      repeat refine J.seq ?_
      refine J.plain ?_
      refine JO.t (ob_fieldAddr fo_cadastrelaw20_Op_0 rfl) rfl ?_
      refine JO.t (ob_ld1 sz_int rfl rfl) rfl ?_
      refine JO.nil ?_
      repeat (first | refine JX.next ?_ | refine JX.normal_block ?_)
      refine J.sel [0, 3, 4, 5, 6, 7, 8, 51] (.cons rfl (.cons rfl (.cons rfl (.cons rfl (.cons rfl (.cons rfl (.cons rfl (.cons rfl .nil)))))))) ?_
      repeat refine J.seq ?_
      refine J.block ?_
      repeat refine J.seq ?_
      refine J.plain ?_
      refine JO.t (ob_eql rfl rfl) rfl ?_
      refine JO.t (ob_assign rfl) rfl ?_
      refine JO.nil ?_
      repeat (first | refine JX.next ?_ | refine JX.normal_block ?_)
      refine J.sel [0, 3, 4, 5, 6, 7, 8, 51, 52] (.cons rfl (.cons rfl (.cons rfl (.cons rfl (.cons rfl (.cons rfl (.cons rfl (.cons rfl (.cons rfl .nil))))))))) ?_
      repeat refine J.seq ?_
      refine J.cond rfl (fun ht52 => ?_) (fun ht52 => ?_)
      ·
        try simp only [decide_eq_true_eq, decide_eq_false_iff_not] at ht52
        repeat refine J.seq ?_
        refine J.plain ?_
        refine JO.t (ob_move rfl) rfl ?_
        refine JO.t (ob_nilCheck rfl) rfl ?_
        refine JO.t (ob_fieldAddr fo_cadastreref20_Set_0 rfl) rfl ?_
        refine JO.t (ob_ld1 sz_sl_cadastreref20_Tx rfl (hm := ⟨List.mem_cons_of_mem _ (List.mem_append_left _ List.mem_cons_self)⟩) rfl) rfl ?_
        refine JO.t (ob_lenO un_sl_cadastreref20_Tx rfl (grows_none hT.wf.g)) rfl ?_
        refine JO.t (ob_lss rfl rfl) rfl ?_
        refine JO.nil ?_
        repeat (first | refine JX.next ?_ | refine JX.normal_block ?_)
        refine J.sel [0, 3, 4, 5, 6, 7, 8, 59] (.cons rfl (.cons rfl (.cons rfl (.cons rfl (.cons rfl (.cons rfl (.cons rfl (.cons rfl .nil)))))))) ?_
        repeat refine J.seq ?_
        refine J.cond rfl (fun ht59 => ?_) (fun ht59 => ?_)
        ·
          try simp only [decide_eq_true_eq, decide_eq_false_iff_not] at ht59
          repeat refine J.seq ?_
          refine J.plain ?_
          refine JO.t (ob_move rfl) rfl ?_
          refine JO.callK (Lr := (⟨b6, ty_cadastrelaw20_Op, .is (.agg (OpA.cells (opAt ops i)).toArray)⟩ : Own) :: p.L b13) (k_Begin hS (hBA.rm (by omega) (by omega)) (by omega)) rfl (List.perm_append_comm (l₁ := (⟨b6, ty_cadastrelaw20_Op, .is (.agg (OpA.cells (opAt ops i)).toArray)⟩ : Own) :: p.L b13)) none_in (.one rfl .nil) ?_
          intro q1 hq1
          try dsimp only
          refine JO.subL (L' := (⟨b6, ty_cadastrelaw20_Op, .is (.agg (OpA.cells (opAt ops i)).toArray)⟩ : Own) :: (p.L b13 ++ q1.L b ba)) (List.perm_append_comm (l₁ := (⟨b6, ty_cadastrelaw20_Op, .is (.agg (OpA.cells (opAt ops i)).toArray)⟩ : Own) :: p.L b13)) ?_
          refine JO.nil ?_
          repeat (first | refine JX.next ?_ | refine JX.normal_block ?_)
          refine J.sel [0, 3, 4, 5, 6, 7, 8] (.cons rfl (.cons rfl (.cons rfl (.cons rfl (.cons rfl (.cons rfl (.cons rfl .nil))))))) ?_
          repeat refine J.seq ?_
          refine J.plain ?_
          refine JO.t (ob_move rfl) rfl ?_
          refine JO.callK (Lr := (⟨b6, ty_cadastrelaw20_Op, .is (.agg (OpA.cells (opAt ops i)).toArray)⟩ : Own) :: q1.L b ba) (r_Begin hT (hBB.rm (by omega) (by omega)) (by omega)) rfl List.perm_middle.symm none_in (.one rfl .nil) ?_
          intro p1 hp1
          try dsimp only
          refine JO.subL (L' := (⟨b6, ty_cadastrelaw20_Op, .is (.agg (OpA.cells (opAt ops i)).toArray)⟩ : Own) :: (p1.L b13 ++ q1.L b ba)) List.perm_middle.symm ?_
          refine JO.nil ?_
          repeat (first | refine JX.next ?_ | refine JX.normal_block ?_)
          refine J.sel [0, 3, 4, 5, 6, 7, 8] (.cons rfl (.cons rfl (.cons rfl (.cons rfl (.cons rfl (.cons rfl (.cons rfl .nil))))))) ?_
          repeat refine J.seq ?_
          refine J.reg0 hmx (by kernel_rfl) (by kernel_rfl) ?_
          refine RT.t (ob_move rfl) ?_
          refine RT.t (ob_move rfl) ?_
          refine RT.g rfl rfl rfl (fun hg => ob_move (.inl rfl)) ?_
          refine RT.g rfl rfl rfl (fun hg => ob_neq (.inr ⟨_, rfl, fun h => h⟩) (.inl rfl)) ?_
          refine RT.t (ob_pickAnd rfl rfl rfl id) ?_
          refine RT.nil ?_
          refine FinS.nil0 ?_
          repeat (first | refine JX.next ?_ | refine JX.normal_block ?_)
          refine J.sel [0, 3, 4, 5, 6, 7, 8, 188] (.cons rfl (.cons rfl (.cons rfl (.cons rfl (.cons rfl (.cons rfl (.cons rfl (.cons rfl .nil)))))))) ?_
          repeat refine J.seq ?_
          refine J.cond rfl (fun ht188 => ?_) (fun ht188 => ?_)
          ·
            try simp only [decide_eq_true_eq, decide_eq_false_iff_not] at ht188
            exfalso
            simp at ht188
          ·
            try simp only [decide_eq_true_eq, decide_eq_false_iff_not] at ht188
            refine J.skip ?_
            repeat (first | refine JX.next ?_ | refine JX.normal_block ?_)
            repeat refine J.seq ?_
            refine J.reg0 hmx (by kernel_rfl) (by kernel_rfl) ?_
            refine RT.t (ob_fieldAddr fo_cadastrelaw20_Op_0 rfl) ?_
            refine RT.t (ob_ld1 sz_int rfl rfl) ?_
            refine RT.t (ob_geq rfl rfl) ?_
            refine RT.t (ob_move rfl) ?_
            refine RT.g rfl rfl rfl (fun hg => ob_fieldAddr fo_cadastrelaw20_Op_0 (.inl rfl)) ?_
            refine RT.g rfl rfl rfl (fun hg => ob_ld1 sz_int (.inr ⟨_, rfl, fun h => h⟩) rfl) ?_
            refine RT.g rfl rfl rfl (fun hg => ob_leq (.inr ⟨_, rfl, fun h => h⟩) (.inl rfl)) ?_
            refine RT.t (ob_pickAnd rfl rfl rfl id) ?_
            refine RT.t (ob_move rfl) ?_
            refine RT.g rfl rfl rfl (fun hg => ob_move (.inl rfl)) ?_
            refine RT.g rfl rfl rfl (fun hg => ob_not (.inr ⟨_, rfl, fun h => h⟩)) ?_
            refine RT.t (ob_pickAnd rfl rfl rfl id) ?_
            refine RT.t (ob_move rfl) ?_
            refine RT.g rfl rfl rfl (fun hg => ob_move (.inl rfl)) ?_
            refine RT.g rfl rfl rfl (fun hg => ob_neq (.inr ⟨_, rfl, fun h => h⟩) (.inl rfl)) ?_
            refine RT.t (ob_pickAnd rfl rfl rfl id) ?_
            refine RT.nil ?_
            refine FinS.nil0 ?_
            repeat (first | refine JX.next ?_ | refine JX.normal_block ?_)
            refine J.sel [0, 3, 4, 5, 213] (.cons rfl (.cons rfl (.cons rfl (.cons rfl (.cons rfl .nil))))) ?_
            repeat refine J.seq ?_
            refine J.cond rfl (fun ht213 => ?_) (fun ht213 => ?_)
            ·
              try simp only [decide_eq_true_eq, decide_eq_false_iff_not] at ht213
              exfalso
              simp only [Bool.and_eq_true, decide_eq_true_eq, Bool.not_eq_true', bne_iff_ne, ne_eq] at ht213
              obtain ⟨⟨⟨h2x, h5x⟩, hlx⟩, hex⟩ := ht213
              first
              | (have hk52 : (opAt ops i).k = 1 := by simpa using ht52
                 omega)
              | (rw [hlv] at hlx; cases hlx)
              | exact hex (read_dead hlx he).2
              | exact hex (write_dead hlx he).2
              | exact hex (commit_dead hlx he).2.2
              | exact hex (abort_dead hlx he).2
              | (simp at ht64 ht96 ht128 ht168
                 omega)
            ·
              try simp only [decide_eq_true_eq, decide_eq_false_iff_not] at ht213
              refine J.skip ?_
              repeat (first | refine JX.next ?_ | refine JX.normal_block ?_)
              refine J.subS (List.sublist_cons_self _ _) ?_
              repeat refine J.seq ?_
              refine J.plain ?_
              refine JO.t (ob_move rfl) rfl ?_
              refine JO.t (ob_addc (cc := ((i + 1 : Nat) : Int)) rfl rfl (by omega) (by omega) (by omega)) rfl ?_
              refine JO.t (ob_assign rfl) rfl ?_
              refine JO.nil ?_
              repeat refine JX.normal_block ?_
              refine JX.roundG (x := (⟨⟨i, q, p, A, n, U⟩, B⟩ : LT × List AT)) (⟨⟨i + 1, q1, p1, beginA A n, n + 1, U⟩, beginA B n⟩ : LT × List AT) ?_ ?_ [0, 3, 4, 5] ?_ ?_ ?_ ?_
              · exact (⟨by simp only; omega, hq1, hp1, hSR.begin n, (bd_begin (hBA.mono (Nat.le_refl _) (Nat.le_succ _)) (by omega) n), (bd_begin (hBB.mono (Nat.le_refl _) (Nat.le_succ _)) (by omega) n), by simp only; omega⟩)
              · exact (by simp only; omega)
              · exact (.cons rfl (.cons rfl (.cons rfl (.cons rfl .nil))))
              · repeat (first | exact .all | exact .nil | refine Has.own (by repeat (first | exact .here | apply Tl.past | apply Tl.there)) ?_ | refine Has.cons (by repeat (first | exact .here | apply Pk.past | apply Pk.there)) ?_)
              · exact fun G hG => by repeat (first | exact hG | refine List.mem_cons_of_mem _ ?_)
              · exact (fun E0 w0 hG => hG _ (by repeat (first | exact List.mem_cons_self | apply List.mem_cons_of_mem)))
        ·
          try simp only [decide_eq_true_eq, decide_eq_false_iff_not] at ht59
          refine J.skip ?_
          repeat (first | refine JX.next ?_ | refine JX.normal_block ?_)
          repeat refine J.seq ?_
          refine J.reg0 hmx (by kernel_rfl) (by kernel_rfl) ?_
          refine RT.t (ob_move rfl) ?_
          refine RT.t (ob_move rfl) ?_
          refine RT.g rfl rfl rfl (fun hg => ob_move (.inl rfl)) ?_
          refine RT.g rfl rfl rfl (fun hg => ob_neq (.inr ⟨_, rfl, fun h => h⟩) (.inl rfl)) ?_
          refine RT.t (ob_pickAnd rfl rfl rfl id) ?_
          refine RT.nil ?_
          refine FinS.nil0 ?_
          repeat (first | refine JX.next ?_ | refine JX.normal_block ?_)
          refine J.sel [0, 3, 4, 5, 6, 7, 8, 188] (.cons rfl (.cons rfl (.cons rfl (.cons rfl (.cons rfl (.cons rfl (.cons rfl (.cons rfl .nil)))))))) ?_
          repeat refine J.seq ?_
          refine J.cond rfl (fun ht188 => ?_) (fun ht188 => ?_)
          ·
            try simp only [decide_eq_true_eq, decide_eq_false_iff_not] at ht188
            exfalso
            simp at ht188
          ·
            try simp only [decide_eq_true_eq, decide_eq_false_iff_not] at ht188
            refine J.skip ?_
            repeat (first | refine JX.next ?_ | refine JX.normal_block ?_)
            repeat refine J.seq ?_
            refine J.reg0 hmx (by kernel_rfl) (by kernel_rfl) ?_
            refine RT.t (ob_fieldAddr fo_cadastrelaw20_Op_0 rfl) ?_
            refine RT.t (ob_ld1 sz_int rfl rfl) ?_
            refine RT.t (ob_geq rfl rfl) ?_
            refine RT.t (ob_move rfl) ?_
            refine RT.g rfl rfl rfl (fun hg => ob_fieldAddr fo_cadastrelaw20_Op_0 (.inl rfl)) ?_
            refine RT.g rfl rfl rfl (fun hg => ob_ld1 sz_int (.inr ⟨_, rfl, fun h => h⟩) rfl) ?_
            refine RT.g rfl rfl rfl (fun hg => ob_leq (.inr ⟨_, rfl, fun h => h⟩) (.inl rfl)) ?_
            refine RT.t (ob_pickAnd rfl rfl rfl id) ?_
            refine RT.t (ob_move rfl) ?_
            refine RT.g rfl rfl rfl (fun hg => ob_move (.inl rfl)) ?_
            refine RT.g rfl rfl rfl (fun hg => ob_not (.inr ⟨_, rfl, fun h => h⟩)) ?_
            refine RT.t (ob_pickAnd rfl rfl rfl id) ?_
            refine RT.t (ob_move rfl) ?_
            refine RT.g rfl rfl rfl (fun hg => ob_move (.inl rfl)) ?_
            refine RT.g rfl rfl rfl (fun hg => ob_neq (.inr ⟨_, rfl, fun h => h⟩) (.inl rfl)) ?_
            refine RT.t (ob_pickAnd rfl rfl rfl id) ?_
            refine RT.nil ?_
            refine FinS.nil0 ?_
            repeat (first | refine JX.next ?_ | refine JX.normal_block ?_)
            refine J.sel [0, 3, 4, 5, 213] (.cons rfl (.cons rfl (.cons rfl (.cons rfl (.cons rfl .nil))))) ?_
            repeat refine J.seq ?_
            refine J.cond rfl (fun ht213 => ?_) (fun ht213 => ?_)
            ·
              try simp only [decide_eq_true_eq, decide_eq_false_iff_not] at ht213
              exfalso
              simp only [Bool.and_eq_true, decide_eq_true_eq, Bool.not_eq_true', bne_iff_ne, ne_eq] at ht213
              obtain ⟨⟨⟨h2x, h5x⟩, hlx⟩, hex⟩ := ht213
              first
              | (have hk52 : (opAt ops i).k = 1 := by simpa using ht52
                 omega)
              | (rw [hlv] at hlx; cases hlx)
              | exact hex (read_dead hlx he).2
              | exact hex (write_dead hlx he).2
              | exact hex (commit_dead hlx he).2.2
              | exact hex (abort_dead hlx he).2
              | (simp at ht64 ht96 ht128 ht168
                 omega)
            ·
              try simp only [decide_eq_true_eq, decide_eq_false_iff_not] at ht213
              refine J.skip ?_
              repeat (first | refine JX.next ?_ | refine JX.normal_block ?_)
              refine J.subS (List.sublist_cons_self _ _) ?_
              repeat refine J.seq ?_
              refine J.plain ?_
              refine JO.t (ob_move rfl) rfl ?_
              refine JO.t (ob_addc (cc := ((i + 1 : Nat) : Int)) rfl rfl (by omega) (by omega) (by omega)) rfl ?_
              refine JO.t (ob_assign rfl) rfl ?_
              refine JO.nil ?_
              repeat refine JX.normal_block ?_
              refine JX.roundG (x := (⟨⟨i, q, p, A, n, U⟩, B⟩ : LT × List AT)) (⟨⟨i + 1, q, p, A, n, U⟩, B⟩ : LT × List AT) ?_ ?_ [0, 3, 4, 5] ?_ ?_ ?_ ?_
              · exact (⟨by simp only; omega, hS, hT, hSR, (hBA.mono (Nat.le_refl _) (Nat.le_succ _)), (hBB.mono (Nat.le_refl _) (Nat.le_succ _)), by simp only; omega⟩)
              · exact (by simp only; omega)
              · exact (.cons rfl (.cons rfl (.cons rfl (.cons rfl .nil))))
              · repeat (first | exact .all | exact .nil | refine Has.own (by repeat (first | exact .here | apply Tl.past | apply Tl.there)) ?_ | refine Has.cons (by repeat (first | exact .here | apply Pk.past | apply Pk.there)) ?_)
              · exact fun G hG => by repeat (first | exact hG | refine List.mem_cons_of_mem _ ?_)
              · exact (fun E0 w0 hG => hG _ (by repeat (first | exact List.mem_cons_self | apply List.mem_cons_of_mem)))
      ·
        try simp only [decide_eq_true_eq, decide_eq_false_iff_not] at ht52
        repeat refine J.seq ?_
        refine J.plain ?_
        refine JO.t (ob_eql rfl rfl) rfl ?_
        refine JO.t (ob_assign rfl) rfl ?_
        refine JO.nil ?_
        repeat (first | refine JX.next ?_ | refine JX.normal_block ?_)
        refine J.sel [0, 3, 4, 5, 6, 7, 8, 51, 64] (.cons rfl (.cons rfl (.cons rfl (.cons rfl (.cons rfl (.cons rfl (.cons rfl (.cons rfl (.cons rfl .nil))))))))) ?_
        repeat refine J.seq ?_
        refine J.cond rfl (fun ht64 => ?_) (fun ht64 => ?_)
        ·
          try simp only [decide_eq_true_eq, decide_eq_false_iff_not] at ht64
          obtain ⟨A1, e1, he⟩ : ∃ A1 e1, readA A (opAt ops i).t (opAt ops i).r = (A1, e1) := ⟨_, _, rfl⟩
          have hBA1 := hBA.read (opAt ops i).t (opAt ops i).r
          rw [he] at hBA1
          repeat refine J.seq ?_
          refine J.plain ?_
          refine JO.t (ob_move rfl) rfl ?_
          refine JO.t (ob_fieldAddr fo_cadastrelaw20_Op_1 rfl) rfl ?_
          refine JO.t (ob_ld1 sz_int rfl rfl) rfl ?_
          refine JO.t (ob_fieldAddr fo_cadastrelaw20_Op_2 rfl) rfl ?_
          refine JO.t (ob_ldN (cs := [_, _, _, _, _, _, _, _]) sz_api_Read rfl rfl rfl) rfl ?_
          refine JO.callK (Lr := (⟨b6, ty_cadastrelaw20_Op, .is (.agg (OpA.cells (opAt ops i)).toArray)⟩ : Own) :: p.L b13) (k_Read hS (hBA.rm (by omega) (by omega)) _ (opAt ops i).r he) rfl (List.perm_append_comm (l₁ := (⟨b6, ty_cadastrelaw20_Op, .is (.agg (OpA.cells (opAt ops i)).toArray)⟩ : Own) :: p.L b13)) (one_in (by repeat (first | exact List.mem_cons_self | apply List.mem_cons_of_mem))) (.one rfl (.one rfl (.one rfl .nil))) ?_
          intro q1 hq1
          try dsimp only
          refine JO.subL (L' := (⟨b6, ty_cadastrelaw20_Op, .is (.agg (OpA.cells (opAt ops i)).toArray)⟩ : Own) :: (p.L b13 ++ q1.L b ba)) (List.perm_append_comm (l₁ := (⟨b6, ty_cadastrelaw20_Op, .is (.agg (OpA.cells (opAt ops i)).toArray)⟩ : Own) :: p.L b13)) ?_
          refine JO.t (ob_assign rfl) rfl ?_
          refine JO.nil ?_
          repeat (first | refine JX.next ?_ | refine JX.normal_block ?_)
          refine J.sel [0, 3, 4, 5, 6, 7, 8] (.cons rfl (.cons rfl (.cons rfl (.cons rfl (.cons rfl (.cons rfl (.cons rfl .nil))))))) ?_
          repeat refine J.seq ?_
          refine J.plain ?_
          refine JO.t (ob_move rfl) rfl ?_
          refine JO.nil ?_
          repeat (first | refine JX.next ?_ | refine JX.normal_block ?_)
          refine J.sel [0, 3, 4, 5, 6, 7, 8, 72] (.cons rfl (.cons rfl (.cons rfl (.cons rfl (.cons rfl (.cons rfl (.cons rfl (.cons rfl .nil)))))))) ?_
          repeat refine J.seq ?_
          refine J.cond rfl (fun ht72 => ?_) (fun ht72 => ?_)
          ·
            try simp only [decide_eq_true_eq, decide_eq_false_iff_not] at ht72
            have hlv : liveA A (opAt ops i).t = true := ht72
            obtain ⟨hk0, hk1⟩ := live_rng (xs := p.xs) (k := (opAt ops i).t) (by rw [hT.ab, hSR.live]; exact hlv)
            have hxm := rr_m hT hk0 hk1
            have hg0 := hT.wf.get hk0 hk1
            have hso := st_some hT.wf.g (by omega)
            have hrx := (rr_rl hT hBB hxm).1
            refine J.subP (ser_fr hg0 (⟨b6, ty_cadastrelaw20_Op, .is (.agg (OpA.cells (opAt ops i)).toArray)⟩ : Own) (q1.L b ba)).symm ?_
            repeat refine J.seq ?_
            refine J.regBm (G := GrG Rd.cells 8 ((p.x (opAt ops i).t).reads ++ [(opAt ops i).r])) (Tg := fun g => .is (sliceO g.1.1 ((p.x (opAt ops i).t).reads ++ [(opAt ops i).r]).length g.1.2)) (Lg := fun g => ownO g.1.1 ty_api_Read (FrR (⟨b6, ty_cadastrelaw20_Op, .is (.agg (OpA.cells (opAt ops i)).toArray)⟩ : Own) b13 p.sp p.cap p.xs.length p.st (rsR p.xs ((opAt ops i).t - 1).toNat (p.x (opAt ops i).t)) ++ q1.L b ba)) 20 21 (FrR (⟨b6, ty_cadastrelaw20_Op, .is (.agg (OpA.cells (opAt ops i)).toArray)⟩ : Own) b13 p.sp p.cap p.xs.length p.st (rsR p.xs ((opAt ops i).t - 1).toNat (p.x (opAt ops i).t)) ++ q1.L b ba) rfl rfl rfl rfl hmx (by kernel_rfl) rfl (by kernel_rfl) (fun o1 ho => Go.Vc.mem_ownO ho) (fun g o1 ho => Go.Vc.mem_ownO ho) ?_
            refine RT.t (ob_move rfl) ?_
            refine RT.t (ob_nilCheck rfl) ?_
            refine RT.t (ob_fieldAddr fo_cadastreref20_Set_0 rfl) ?_
            refine RT.t (ob_ld1 sz_sl_cadastreref20_Tx rfl (hm := ⟨List.mem_append_left _ (List.mem_cons_of_mem _ List.mem_cons_self)⟩) rfl) ?_
            refine RT.t (ob_fieldAddr fo_cadastrelaw20_Op_1 rfl) ?_
            refine RT.t (ob_ld1 sz_int rfl (hm := ⟨List.mem_append_left _ List.mem_cons_self⟩) rfl) ?_
            refine RT.t (ob_subc (cc := (opAt ops i).t - 1) rfl rfl rfl (by omega) (by omega)) ?_
            refine RT.t (ob_move rfl) ?_
            refine RT.t (ob_nilCheck rfl) ?_
            refine RT.t (ob_fieldAddr fo_cadastreref20_Set_0 rfl) ?_
            refine RT.t (ob_ld1 sz_sl_cadastreref20_Tx rfl (hm := ⟨List.mem_append_left _ (List.mem_cons_of_mem _ List.mem_cons_self)⟩) rfl) ?_
            refine RT.t (ob_fieldAddr fo_cadastrelaw20_Op_1 rfl) ?_
            refine RT.t (ob_ld1 sz_int rfl (hm := ⟨List.mem_append_left _ List.mem_cons_self⟩) rfl) ?_
            refine RT.t (ob_subc (cc := (opAt ops i).t - 1) rfl rfl rfl (by omega) (by omega)) ?_
            refine RT.t (ob_idxO el_sl_cadastreref20_Tx rfl hT.wf.g rfl (by omega) (by omega)) ?_
            refine RT.t (ob_fieldAddr fo_cadastreref20_Tx_3 rfl) ?_
            refine RT.t (ob_ldO1 (e := ty_cadastreref20_Tx) RX.len sz_sl_api_Read rfl (fun q0 h => List.mem_append_left _ (List.mem_cons_of_mem _ (List.mem_cons_of_mem _ (by rw [h]; exact List.mem_cons_self)))) hT.wf.g hg0 rfl rfl) ?_
            refine RT.t (ob_fieldAddr fo_cadastrelaw20_Op_2 rfl) ?_
            refine RT.t (ob_ldN (cs := [_, _, _, _, _, _, _, _]) sz_api_Read rfl (hm := ⟨List.mem_append_left _ List.mem_cons_self⟩) rfl rfl) ?_
            refine RT.t (ob_buildSlice (cs := [_, _, _, _, _, _, _, _]) sl_sl_api_Read (by omega) (by omega) (.cons rfl .nil) rfl rfl rfl) ?_
            refine RT.big (big_ap (en := Rd.cells) (xs := (p.x (opAt ops i).t).reads) (e := ty_api_Read) [(opAt ops i).r] ap_sl_api_Read .here (hT.wf.rs _ hxm) rfl rfl (fun L => src_new un_sl_api_Read rfl rfl) (by simp) (by simp only [List.length_cons, List.length_nil]; omega) (by simp only [List.length_cons, List.length_nil]; omega)) ?_
            refine RT.nil ?_
            intro g
            obtain ⟨⟨st1, cp1⟩, hG1⟩ := g
            try dsimp only
            refine JO.t (ob_idxO el_sl_cadastreref20_Tx rfl hT.wf.g rfl (by omega) (by omega)) rfl ?_
            refine JO.t (ob_fieldAddr fo_cadastreref20_Tx_3 rfl) rfl ?_
            refine JO.m (obm_storeO1 RX.len (v' := (p.vR (opAt ops i).t (opAt ops i).r (st1, cp1))) (j := 3) (sliceO_cells _ _ _) (sliceO_one _ _ _) ss_sl_api_Read rfl rfl hT.wf.g hg0 rfl (by omega) rfl (upd_ownO (upd_appL (fr_upd (A := []) (v := (p.vR (opAt ops i).t (opAt ops i).r (st1, cp1))) hso)))) (Upd.same (upd_ownO (upd_appL (fr_upd (A := []) (v := (p.vR (opAt ops i).t (opAt ops i).r (st1, cp1))) hso))) rfl) ?_
            refine JO.subL (L' := (⟨b6, ty_cadastrelaw20_Op, .is (.agg (OpA.cells (opAt ops i)).toArray)⟩ : Own) :: ((p.ad (opAt ops i).t (opAt ops i).r (st1, cp1)).L b13 ++ q1.L b ba)) (ser_fr_back (v := (p.vR (opAt ops i).t (opAt ops i).r (st1, cp1))) hg0 rfl _ _) ?_
            obtain ⟨p1, hp1⟩ : ∃ z : RS, z = p.ad (opAt ops i).t (opAt ops i).r (st1, cp1) := ⟨_, rfl⟩
            refine JO.subL (L' := (⟨b6, ty_cadastrelaw20_Op, .is (.agg (OpA.cells (opAt ops i)).toArray)⟩ : Own) :: (p1.L b13 ++ q1.L b ba)) (.of_eq (by rw [hp1]; first | done | rfl)) ?_
            have hT1 : RRl p1 (upA B ((opAt ops i).t - 1).toNat (aAR (opAt ops i).r)) n (wsO ops) := by rw [hp1]; exact rr_ad hT hk0 hk1 hG1
            have hl1 : p1.xs.length = p.xs.length := by rw [hp1]; exact List.length_set
            refine JO.nil ?_
            repeat (first | refine JX.next ?_ | refine JX.normal_block ?_)
            refine J.sel [0, 3, 4, 5, 6, 7, 8] (.cons rfl (.cons rfl (.cons rfl (.cons rfl (.cons rfl (.cons rfl (.cons rfl .nil))))))) ?_
            repeat refine J.seq ?_
            refine J.reg0 hmx (by kernel_rfl) (by kernel_rfl) ?_
            refine RT.t (ob_move rfl) ?_
            refine RT.t (ob_move rfl) ?_
            refine RT.g rfl rfl rfl (fun hg => ob_move (.inl rfl)) ?_
            refine RT.g rfl rfl rfl (fun hg => ob_neq (.inr ⟨_, rfl, fun h => h⟩) (.inl rfl)) ?_
            refine RT.t (ob_pickAnd rfl rfl rfl id) ?_
            refine RT.nil ?_
            refine FinS.nil0 ?_
            repeat (first | refine JX.next ?_ | refine JX.normal_block ?_)
            refine J.sel [0, 3, 4, 5, 6, 7, 8, 188] (.cons rfl (.cons rfl (.cons rfl (.cons rfl (.cons rfl (.cons rfl (.cons rfl (.cons rfl .nil)))))))) ?_
            repeat refine J.seq ?_
            refine J.cond rfl (fun ht188 => ?_) (fun ht188 => ?_)
            ·
              try simp only [decide_eq_true_eq, decide_eq_false_iff_not] at ht188
              first
              | (have hTx := hT1)
              | (have hlv : liveA A (opAt ops i).t = true := (by rw [Bool.and_eq_true] at ht188; exact ht188.1)
                 obtain ⟨hk0, hk1⟩ := live_rng (xs := p.xs) (k := (opAt ops i).t) (by rw [hT.ab, hSR.live]; exact hlv)
                 have hxm := rr_m hT hk0 hk1
                 have hg0 := hT.wf.get hk0 hk1
                 have hso := st_some hT.wf.g (by omega)
                 have hcx := ((ser_commit hSR hlv he).resolve_left fun h => absurd h.1 (by rw [Bool.and_eq_true] at ht188; simpa using ht188.2)).2
                 obtain ⟨p1, hp1⟩ : ∃ z : RS, z = p := ⟨_, rfl⟩
                 refine J.subP (L' := (⟨b6, ty_cadastrelaw20_Op, .is (.agg (OpA.cells (opAt ops i)).toArray)⟩ : Own) :: (p1.L b13 ++ q1.L b ba)) (.of_eq (by rw [hp1]; first | done | rfl)) ?_
                 have hT1 : RRl p1 B n (wsO ops) := by rw [hp1]; exact hT
                 have hl1 : p1.xs.length = p.xs.length := by rw [hp1])
              have hl1x : p1.xs.length = p.xs.length := hl1
              have hg1 := hT1.wf.get hk0 (by omega)
              repeat refine J.seq ?_
              refine J.regS 7 hmx (by kernel_rfl) (by kernel_rfl) ?_
              refine RT.t (ob_move rfl) ?_
              refine RT.t (ob_nilCheck rfl) ?_
              refine RT.t (ob_fieldAddr fo_cadastreref20_Set_0 rfl) ?_
              refine RT.t (ob_ld1 sz_sl_cadastreref20_Tx rfl (hm := ⟨List.mem_cons_of_mem _ (List.mem_append_left _ List.mem_cons_self)⟩) rfl) ?_
              refine RT.t (ob_fieldAddr fo_cadastrelaw20_Op_1 rfl) ?_
              refine RT.t (ob_ld1 sz_int rfl rfl) ?_
              refine RT.t (ob_subc (cc := (opAt ops i).t - 1) rfl rfl rfl (by omega) (by omega)) ?_
              refine RT.nil ?_
              refine FinS.tail0 ?_
              refine JO.t (ob_idxO el_sl_cadastreref20_Tx rfl hT1.wf.g rfl (by omega) (by omega)) rfl ?_
              refine JO.t (ob_fieldAddr fo_cadastreref20_Tx_0 rfl) rfl ?_
              refine JO.m (obm_storeO1 RX.len (v := p1.x (opAt ops i).t) (v' := mk3 (p1.x (opAt ops i).t)) (j := 0) rfl rfl ss_int rfl rfl hT1.wf.g hg1 rfl (by omega) rfl (.there (upd_appL (upd_rl (v' := mk3 (p1.x (opAt ops i).t)) hT1.wf.g hg1 rfl)))) (Upd.same (.there (upd_appL (upd_rl (v' := mk3 (p1.x (opAt ops i).t)) hT1.wf.g hg1 rfl))) rfl) ?_
              refine JO.nil ?_
              repeat (first | refine JX.next ?_ | refine JX.normal_block ?_)
              refine J.sel [0, 3, 4, 5, 6, 7, 8] (.cons rfl (.cons rfl (.cons rfl (.cons rfl (.cons rfl (.cons rfl (.cons rfl .nil))))))) ?_
              repeat refine J.seq ?_
              refine J.reg0 hmx (by kernel_rfl) (by kernel_rfl) ?_
              refine RT.t (ob_fieldAddr fo_cadastrelaw20_Op_0 rfl) ?_
              refine RT.t (ob_ld1 sz_int rfl rfl) ?_
              refine RT.t (ob_geq rfl rfl) ?_
              refine RT.t (ob_move rfl) ?_
              refine RT.g rfl rfl rfl (fun hg => ob_fieldAddr fo_cadastrelaw20_Op_0 (.inl rfl)) ?_
              refine RT.g rfl rfl rfl (fun hg => ob_ld1 sz_int (.inr ⟨_, rfl, fun h => h⟩) rfl) ?_
              refine RT.g rfl rfl rfl (fun hg => ob_leq (.inr ⟨_, rfl, fun h => h⟩) (.inl rfl)) ?_
              refine RT.t (ob_pickAnd rfl rfl rfl id) ?_
              refine RT.t (ob_move rfl) ?_
              refine RT.g rfl rfl rfl (fun hg => ob_move (.inl rfl)) ?_
              refine RT.g rfl rfl rfl (fun hg => ob_not (.inr ⟨_, rfl, fun h => h⟩)) ?_
              refine RT.t (ob_pickAnd rfl rfl rfl id) ?_
              refine RT.t (ob_move rfl) ?_
              refine RT.g rfl rfl rfl (fun hg => ob_move (.inl rfl)) ?_
              refine RT.g rfl rfl rfl (fun hg => ob_neq (.inr ⟨_, rfl, fun h => h⟩) (.inl rfl)) ?_
              refine RT.t (ob_pickAnd rfl rfl rfl id) ?_
              refine RT.nil ?_
              refine FinS.nil0 ?_
              repeat (first | refine JX.next ?_ | refine JX.normal_block ?_)
              refine J.sel [0, 3, 4, 5, 213] (.cons rfl (.cons rfl (.cons rfl (.cons rfl (.cons rfl .nil))))) ?_
              repeat refine J.seq ?_
              refine J.cond rfl (fun ht213 => ?_) (fun ht213 => ?_)
              ·
                try simp only [decide_eq_true_eq, decide_eq_false_iff_not] at ht213
                exfalso
                simp only [Bool.and_eq_true, decide_eq_true_eq, Bool.not_eq_true', bne_iff_ne, ne_eq] at ht213
                obtain ⟨⟨⟨h2x, h5x⟩, hlx⟩, hex⟩ := ht213
                first
                | (have hk52 : (opAt ops i).k = 1 := by simpa using ht52
                   omega)
                | (rw [hlv] at hlx; cases hlx)
                | exact hex (read_dead hlx he).2
                | exact hex (write_dead hlx he).2
                | exact hex (commit_dead hlx he).2.2
                | exact hex (abort_dead hlx he).2
                | (simp at ht64 ht96 ht128 ht168
                   omega)
              ·
                try simp only [decide_eq_true_eq, decide_eq_false_iff_not] at ht213
                refine J.skip ?_
                repeat (first | refine JX.next ?_ | refine JX.normal_block ?_)
                refine J.subS (List.sublist_cons_self _ _) ?_
                repeat refine J.seq ?_
                refine J.plain ?_
                refine JO.t (ob_move rfl) rfl ?_
                refine JO.t (ob_addc (cc := ((i + 1 : Nat) : Int)) rfl rfl (by omega) (by omega) (by omega)) rfl ?_
                refine JO.t (ob_assign rfl) rfl ?_
                refine JO.nil ?_
                repeat refine JX.normal_block ?_
                refine JX.roundG (x := (⟨⟨i, q, p, A, n, U⟩, B⟩ : LT × List AT)) (⟨⟨i + 1, q1, p1.st3 (opAt ops i).t, A1, n, U⟩, abA (upA B ((opAt ops i).t - 1).toNat (aAR (opAt ops i).r)) ((opAt ops i).t - 1).toNat⟩ : LT × List AT) ?_ ?_ [0, 3, 4, 5] ?_ ?_ ?_ ?_
                · exact (⟨by simp only; omega, hq1, (rr_st3 hT1 hk0 (by omega)), ((ser_read hSR hlv he).resolve_left fun h => absurd h.1 (by rw [Bool.and_eq_true] at ht188; simpa using ht188.2)).2, hBA1, ((bd_ad hBB _ _).ab _), by simp only; omega⟩)
                · exact (by simp only; omega)
                · exact (.cons rfl (.cons rfl (.cons rfl (.cons rfl .nil))))
                · repeat (first | exact .all | exact .nil | refine Has.own (by repeat (first | exact .here | apply Tl.past | apply Tl.there)) ?_ | refine Has.cons (by repeat (first | exact .here | apply Pk.past | apply Pk.there)) ?_)
                · exact fun G hG => by repeat (first | exact hG | refine List.mem_cons_of_mem _ ?_)
                · exact (fun E0 w0 hG => hG _ (by repeat (first | exact List.mem_cons_self | apply List.mem_cons_of_mem)))
            ·
              try simp only [decide_eq_true_eq, decide_eq_false_iff_not] at ht188
              refine J.skip ?_
              repeat (first | refine JX.next ?_ | refine JX.normal_block ?_)
              repeat refine J.seq ?_
              refine J.reg0 hmx (by kernel_rfl) (by kernel_rfl) ?_
              refine RT.t (ob_fieldAddr fo_cadastrelaw20_Op_0 rfl) ?_
              refine RT.t (ob_ld1 sz_int rfl rfl) ?_
              refine RT.t (ob_geq rfl rfl) ?_
              refine RT.t (ob_move rfl) ?_
              refine RT.g rfl rfl rfl (fun hg => ob_fieldAddr fo_cadastrelaw20_Op_0 (.inl rfl)) ?_
              refine RT.g rfl rfl rfl (fun hg => ob_ld1 sz_int (.inr ⟨_, rfl, fun h => h⟩) rfl) ?_
              refine RT.g rfl rfl rfl (fun hg => ob_leq (.inr ⟨_, rfl, fun h => h⟩) (.inl rfl)) ?_
              refine RT.t (ob_pickAnd rfl rfl rfl id) ?_
              refine RT.t (ob_move rfl) ?_
              refine RT.g rfl rfl rfl (fun hg => ob_move (.inl rfl)) ?_
              refine RT.g rfl rfl rfl (fun hg => ob_not (.inr ⟨_, rfl, fun h => h⟩)) ?_
              refine RT.t (ob_pickAnd rfl rfl rfl id) ?_
              refine RT.t (ob_move rfl) ?_
              refine RT.g rfl rfl rfl (fun hg => ob_move (.inl rfl)) ?_
              refine RT.g rfl rfl rfl (fun hg => ob_neq (.inr ⟨_, rfl, fun h => h⟩) (.inl rfl)) ?_
              refine RT.t (ob_pickAnd rfl rfl rfl id) ?_
              refine RT.nil ?_
              refine FinS.nil0 ?_
              repeat (first | refine JX.next ?_ | refine JX.normal_block ?_)
              refine J.sel [0, 3, 4, 5, 213] (.cons rfl (.cons rfl (.cons rfl (.cons rfl (.cons rfl .nil))))) ?_
              repeat refine J.seq ?_
              refine J.cond rfl (fun ht213 => ?_) (fun ht213 => ?_)
              ·
                try simp only [decide_eq_true_eq, decide_eq_false_iff_not] at ht213
                exfalso
                simp only [Bool.and_eq_true, decide_eq_true_eq, Bool.not_eq_true', bne_iff_ne, ne_eq] at ht213
                obtain ⟨⟨⟨h2x, h5x⟩, hlx⟩, hex⟩ := ht213
                first
                | (have hk52 : (opAt ops i).k = 1 := by simpa using ht52
                   omega)
                | (rw [hlv] at hlx; cases hlx)
                | exact hex (read_dead hlx he).2
                | exact hex (write_dead hlx he).2
                | exact hex (commit_dead hlx he).2.2
                | exact hex (abort_dead hlx he).2
                | (simp at ht64 ht96 ht128 ht168
                   omega)
              ·
                try simp only [decide_eq_true_eq, decide_eq_false_iff_not] at ht213
                refine J.skip ?_
                repeat (first | refine JX.next ?_ | refine JX.normal_block ?_)
                refine J.subS (List.sublist_cons_self _ _) ?_
                repeat refine J.seq ?_
                refine J.plain ?_
                refine JO.t (ob_move rfl) rfl ?_
                refine JO.t (ob_addc (cc := ((i + 1 : Nat) : Int)) rfl rfl (by omega) (by omega) (by omega)) rfl ?_
                refine JO.t (ob_assign rfl) rfl ?_
                refine JO.nil ?_
                repeat refine JX.normal_block ?_
                refine JX.roundG (x := (⟨⟨i, q, p, A, n, U⟩, B⟩ : LT × List AT)) (⟨⟨i + 1, q1, p1, A1, n, U⟩, upA B ((opAt ops i).t - 1).toNat (aAR (opAt ops i).r)⟩ : LT × List AT) ?_ ?_ [0, 3, 4, 5] ?_ ?_ ?_ ?_
                · exact (⟨by simp only; omega, hq1, hT1, ((ser_read hSR hlv he).resolve_right fun h => h.1 (by rw [ht72, Bool.true_and] at ht188; simpa using ht188)).2, hBA1, (bd_ad hBB _ _), by simp only; omega⟩)
                · exact (by simp only; omega)
                · exact (.cons rfl (.cons rfl (.cons rfl (.cons rfl .nil))))
                · repeat (first | exact .all | exact .nil | refine Has.own (by repeat (first | exact .here | apply Tl.past | apply Tl.there)) ?_ | refine Has.cons (by repeat (first | exact .here | apply Pk.past | apply Pk.there)) ?_)
                · exact fun G hG => by repeat (first | exact hG | refine List.mem_cons_of_mem _ ?_)
                · exact (fun E0 w0 hG => hG _ (by repeat (first | exact List.mem_cons_self | apply List.mem_cons_of_mem)))
          ·
            try simp only [decide_eq_true_eq, decide_eq_false_iff_not] at ht72
            refine J.skip ?_
            repeat (first | refine JX.next ?_ | refine JX.normal_block ?_)
            repeat refine J.seq ?_
            refine J.reg0 hmx (by kernel_rfl) (by kernel_rfl) ?_
            refine RT.t (ob_move rfl) ?_
            refine RT.t (ob_move rfl) ?_
            refine RT.g rfl rfl rfl (fun hg => ob_move (.inl rfl)) ?_
            refine RT.g rfl rfl rfl (fun hg => ob_neq (.inr ⟨_, rfl, fun h => h⟩) (.inl rfl)) ?_
            refine RT.t (ob_pickAnd rfl rfl rfl id) ?_
            refine RT.nil ?_
            refine FinS.nil0 ?_
            repeat (first | refine JX.next ?_ | refine JX.normal_block ?_)
            refine J.sel [0, 3, 4, 5, 6, 7, 8, 188] (.cons rfl (.cons rfl (.cons rfl (.cons rfl (.cons rfl (.cons rfl (.cons rfl (.cons rfl .nil)))))))) ?_
            repeat refine J.seq ?_
            refine J.cond rfl (fun ht188 => ?_) (fun ht188 => ?_)
            ·
              try simp only [decide_eq_true_eq, decide_eq_false_iff_not] at ht188
              exfalso
              rw [ht72] at ht188; simp at ht188
            ·
              try simp only [decide_eq_true_eq, decide_eq_false_iff_not] at ht188
              refine J.skip ?_
              repeat (first | refine JX.next ?_ | refine JX.normal_block ?_)
              repeat refine J.seq ?_
              refine J.reg0 hmx (by kernel_rfl) (by kernel_rfl) ?_
              refine RT.t (ob_fieldAddr fo_cadastrelaw20_Op_0 rfl) ?_
              refine RT.t (ob_ld1 sz_int rfl rfl) ?_
              refine RT.t (ob_geq rfl rfl) ?_
              refine RT.t (ob_move rfl) ?_
              refine RT.g rfl rfl rfl (fun hg => ob_fieldAddr fo_cadastrelaw20_Op_0 (.inl rfl)) ?_
              refine RT.g rfl rfl rfl (fun hg => ob_ld1 sz_int (.inr ⟨_, rfl, fun h => h⟩) rfl) ?_
              refine RT.g rfl rfl rfl (fun hg => ob_leq (.inr ⟨_, rfl, fun h => h⟩) (.inl rfl)) ?_
              refine RT.t (ob_pickAnd rfl rfl rfl id) ?_
              refine RT.t (ob_move rfl) ?_
              refine RT.g rfl rfl rfl (fun hg => ob_move (.inl rfl)) ?_
              refine RT.g rfl rfl rfl (fun hg => ob_not (.inr ⟨_, rfl, fun h => h⟩)) ?_
              refine RT.t (ob_pickAnd rfl rfl rfl id) ?_
              refine RT.t (ob_move rfl) ?_
              refine RT.g rfl rfl rfl (fun hg => ob_move (.inl rfl)) ?_
              refine RT.g rfl rfl rfl (fun hg => ob_neq (.inr ⟨_, rfl, fun h => h⟩) (.inl rfl)) ?_
              refine RT.t (ob_pickAnd rfl rfl rfl id) ?_
              refine RT.nil ?_
              refine FinS.nil0 ?_
              repeat (first | refine JX.next ?_ | refine JX.normal_block ?_)
              refine J.sel [0, 3, 4, 5, 213] (.cons rfl (.cons rfl (.cons rfl (.cons rfl (.cons rfl .nil))))) ?_
              repeat refine J.seq ?_
              refine J.cond rfl (fun ht213 => ?_) (fun ht213 => ?_)
              ·
                try simp only [decide_eq_true_eq, decide_eq_false_iff_not] at ht213
                exfalso
                simp only [Bool.and_eq_true, decide_eq_true_eq, Bool.not_eq_true', bne_iff_ne, ne_eq] at ht213
                obtain ⟨⟨⟨h2x, h5x⟩, hlx⟩, hex⟩ := ht213
                first
                | (have hk52 : (opAt ops i).k = 1 := by simpa using ht52
                   omega)
                | (rw [hlv] at hlx; cases hlx)
                | exact hex (read_dead hlx he).2
                | exact hex (write_dead hlx he).2
                | exact hex (commit_dead hlx he).2.2
                | exact hex (abort_dead hlx he).2
                | (simp at ht64 ht96 ht128 ht168
                   omega)
              ·
                try simp only [decide_eq_true_eq, decide_eq_false_iff_not] at ht213
                refine J.skip ?_
                repeat (first | refine JX.next ?_ | refine JX.normal_block ?_)
                refine J.subS (List.sublist_cons_self _ _) ?_
                repeat refine J.seq ?_
                refine J.plain ?_
                refine JO.t (ob_move rfl) rfl ?_
                refine JO.t (ob_addc (cc := ((i + 1 : Nat) : Int)) rfl rfl (by omega) (by omega) (by omega)) rfl ?_
                refine JO.t (ob_assign rfl) rfl ?_
                refine JO.nil ?_
                repeat refine JX.normal_block ?_
                refine JX.roundG (x := (⟨⟨i, q, p, A, n, U⟩, B⟩ : LT × List AT)) (⟨⟨i + 1, q1, p, A1, n, U⟩, B⟩ : LT × List AT) ?_ ?_ [0, 3, 4, 5] ?_ ?_ ?_ ?_
                · exact (⟨by simp only; omega, hq1, hT, by rw [(read_dead ht72 he).1]; exact hSR, hBA1, (hBB.mono (Nat.le_refl _) (Nat.le_succ _)), by simp only; omega⟩)
                · exact (by simp only; omega)
                · exact (.cons rfl (.cons rfl (.cons rfl (.cons rfl .nil))))
                · repeat (first | exact .all | exact .nil | refine Has.own (by repeat (first | exact .here | apply Tl.past | apply Tl.there)) ?_ | refine Has.cons (by repeat (first | exact .here | apply Pk.past | apply Pk.there)) ?_)
                · exact fun G hG => by repeat (first | exact hG | refine List.mem_cons_of_mem _ ?_)
                · exact (fun E0 w0 hG => hG _ (by repeat (first | exact List.mem_cons_self | apply List.mem_cons_of_mem)))
        ·
          try simp only [decide_eq_true_eq, decide_eq_false_iff_not] at ht64
          repeat refine J.seq ?_
          refine J.plain ?_
          refine JO.t (ob_eql rfl rfl) rfl ?_
          refine JO.t (ob_assign rfl) rfl ?_
          refine JO.nil ?_
          repeat (first | refine JX.next ?_ | refine JX.normal_block ?_)
          refine J.sel [0, 3, 4, 5, 6, 7, 8, 51, 96] (.cons rfl (.cons rfl (.cons rfl (.cons rfl (.cons rfl (.cons rfl (.cons rfl (.cons rfl (.cons rfl .nil))))))))) ?_
          repeat refine J.seq ?_
          refine J.cond rfl (fun ht96 => ?_) (fun ht96 => ?_)
          ·
            try simp only [decide_eq_true_eq, decide_eq_false_iff_not] at ht96
            obtain ⟨A1, e1, he⟩ : ∃ A1 e1, writeA A (opAt ops i).t (opAt ops i).w.abs = (A1, e1) := ⟨_, _, rfl⟩
            have hBA1 := hBA.write (opAt ops i).t (opAt ops i).w.abs
            rw [he] at hBA1
            repeat refine J.seq ?_
            refine J.plain ?_
            refine JO.t (ob_move rfl) rfl ?_
            refine JO.t (ob_fieldAddr fo_cadastrelaw20_Op_1 rfl) rfl ?_
            refine JO.t (ob_ld1 sz_int rfl rfl) rfl ?_
            refine JO.t (ob_fieldAddr fo_cadastrelaw20_Op_3 rfl) rfl ?_
            refine JO.t (ob_ldN (cs := [_, _, _]) sz_api_Write rfl rfl rfl) rfl ?_
            refine JO.callK (Lr := (⟨b6, ty_cadastrelaw20_Op, .is (.agg (OpA.cells (opAt ops i)).toArray)⟩ : Own) :: p.L b13) (k_WriteF (Us := wsO ops) hS (hBA.rm (by omega) (by omega)) _ (opAt ops i).w (opAt_w (by omega)) (hops.o _ (opAt_mem (by omega))) (hops.n _ (opAt_mem (by omega))) he) rfl (List.perm_append_comm (l₁ := (⟨b6, ty_cadastrelaw20_Op, .is (.agg (OpA.cells (opAt ops i)).toArray)⟩ : Own) :: p.L b13)) (two_in (by repeat (first | exact List.mem_cons_self | apply List.mem_cons_of_mem)) (by repeat (first | exact List.mem_cons_self | apply List.mem_cons_of_mem))) (.one rfl (.one rfl (.one rfl .nil))) ?_
            rintro ⟨q1, x1⟩ hq1
            try dsimp only
            refine JO.subL (L' := (⟨b6, ty_cadastrelaw20_Op, .is (.agg (OpA.cells (opAt ops i)).toArray)⟩ : Own) :: (p.L b13 ++ q1.L b ba)) (List.perm_append_comm (l₁ := (⟨b6, ty_cadastrelaw20_Op, .is (.agg (OpA.cells (opAt ops i)).toArray)⟩ : Own) :: p.L b13)) ?_
            refine JO.open_ (s := 103) (R := WrR' (e1) x1) rfl ?_
            rintro _ ⟨_, rfl, _⟩
            refine JO.fact (WrF (x1 :: U)) (fun E0 w0 hG _ => wr_more (e := e1) hG List.mem_cons_self (by repeat (first | exact List.mem_cons_self | apply List.mem_cons_of_mem))) ?_
            refine JO.t (ob_assign rfl) rfl ?_
            refine JO.nil ?_
            repeat (first | refine JX.next ?_ | refine JX.normal_block ?_)
            refine J.sel [0, 3, 4, 5, 6, 7, 8] (.cons rfl (.cons rfl (.cons rfl (.cons rfl (.cons rfl (.cons rfl (.cons rfl .nil))))))) ?_
            repeat refine J.seq ?_
            refine J.plain ?_
            refine JO.t (ob_move rfl) rfl ?_
            refine JO.nil ?_
            repeat (first | refine JX.next ?_ | refine JX.normal_block ?_)
            refine J.sel [0, 3, 4, 5, 6, 7, 8, 104] (.cons rfl (.cons rfl (.cons rfl (.cons rfl (.cons rfl (.cons rfl (.cons rfl (.cons rfl .nil)))))))) ?_
            repeat refine J.seq ?_
            refine J.cond rfl (fun ht104 => ?_) (fun ht104 => ?_)
            ·
              try simp only [decide_eq_true_eq, decide_eq_false_iff_not] at ht104
              have hlv : liveA A (opAt ops i).t = true := ht104
              obtain ⟨hk0, hk1⟩ := live_rng (xs := p.xs) (k := (opAt ops i).t) (by rw [hT.ab, hSR.live]; exact hlv)
              have hxm := rr_m hT hk0 hk1
              have hg0 := hT.wf.get hk0 hk1
              have hso := st_some hT.wf.g (by omega)
              have hrx := (rr_rl hT hBB hxm).2
              refine J.subP (ser_fw hg0 (⟨b6, ty_cadastrelaw20_Op, .is (.agg (OpA.cells (opAt ops i)).toArray)⟩ : Own) (q1.L b ba)).symm ?_
              repeat refine J.seq ?_
              refine J.regBm (G := GrG WrA.cells 3 ((p.x (opAt ops i).t).writes ++ [(opAt ops i).w])) (Tg := fun g => .is (sliceO g.1.1 ((p.x (opAt ops i).t).writes ++ [(opAt ops i).w]).length g.1.2)) (Lg := fun g => ownO g.1.1 ty_api_Write (FrR (⟨b6, ty_cadastrelaw20_Op, .is (.agg (OpA.cells (opAt ops i)).toArray)⟩ : Own) b13 p.sp p.cap p.xs.length p.st (rsW p.xs ((opAt ops i).t - 1).toNat (p.x (opAt ops i).t)) ++ q1.L b ba)) 20 21 (FrR (⟨b6, ty_cadastrelaw20_Op, .is (.agg (OpA.cells (opAt ops i)).toArray)⟩ : Own) b13 p.sp p.cap p.xs.length p.st (rsW p.xs ((opAt ops i).t - 1).toNat (p.x (opAt ops i).t)) ++ q1.L b ba) rfl rfl rfl rfl hmx (by kernel_rfl) rfl (by kernel_rfl) (fun o1 ho => Go.Vc.mem_ownO ho) (fun g o1 ho => Go.Vc.mem_ownO ho) ?_
              refine RT.t (ob_move rfl) ?_
              refine RT.t (ob_nilCheck rfl) ?_
              refine RT.t (ob_fieldAddr fo_cadastreref20_Set_0 rfl) ?_
              refine RT.t (ob_ld1 sz_sl_cadastreref20_Tx rfl (hm := ⟨List.mem_append_left _ (List.mem_cons_of_mem _ List.mem_cons_self)⟩) rfl) ?_
              refine RT.t (ob_fieldAddr fo_cadastrelaw20_Op_1 rfl) ?_
              refine RT.t (ob_ld1 sz_int rfl (hm := ⟨List.mem_append_left _ List.mem_cons_self⟩) rfl) ?_
              refine RT.t (ob_subc (cc := (opAt ops i).t - 1) rfl rfl rfl (by omega) (by omega)) ?_
              refine RT.t (ob_move rfl) ?_
              refine RT.t (ob_nilCheck rfl) ?_
              refine RT.t (ob_fieldAddr fo_cadastreref20_Set_0 rfl) ?_
              refine RT.t (ob_ld1 sz_sl_cadastreref20_Tx rfl (hm := ⟨List.mem_append_left _ (List.mem_cons_of_mem _ List.mem_cons_self)⟩) rfl) ?_
              refine RT.t (ob_fieldAddr fo_cadastrelaw20_Op_1 rfl) ?_
              refine RT.t (ob_ld1 sz_int rfl (hm := ⟨List.mem_append_left _ List.mem_cons_self⟩) rfl) ?_
              refine RT.t (ob_subc (cc := (opAt ops i).t - 1) rfl rfl rfl (by omega) (by omega)) ?_
              refine RT.t (ob_idxO el_sl_cadastreref20_Tx rfl hT.wf.g rfl (by omega) (by omega)) ?_
              refine RT.t (ob_fieldAddr fo_cadastreref20_Tx_4 rfl) ?_
              refine RT.t (ob_ldO1 (e := ty_cadastreref20_Tx) RX.len sz_sl_api_Write rfl (fun q0 h => List.mem_append_left _ (List.mem_cons_of_mem _ (List.mem_cons_of_mem _ (by rw [h]; exact List.mem_cons_self)))) hT.wf.g hg0 rfl rfl) ?_
              refine RT.t (ob_fieldAddr fo_cadastrelaw20_Op_3 rfl) ?_
              refine RT.t (ob_ldN (cs := [_, _, _]) sz_api_Write rfl (hm := ⟨List.mem_append_left _ List.mem_cons_self⟩) rfl rfl) ?_
              refine RT.t (ob_buildSlice (cs := [_, _, _]) sl_sl_api_Write (by omega) (by omega) (.cons rfl .nil) rfl rfl rfl) ?_
              refine RT.big (big_ap (en := WrA.cells) (xs := (p.x (opAt ops i).t).writes) (e := ty_api_Write) [(opAt ops i).w] ap_sl_api_Write .here (hT.wf.ws _ hxm) rfl rfl (fun L => src_new un_sl_api_Write rfl rfl) (by simp) (by simp only [List.length_cons, List.length_nil]; omega) (by simp only [List.length_cons, List.length_nil]; omega)) ?_
              refine RT.nil ?_
              intro g
              obtain ⟨⟨st1, cp1⟩, hG1⟩ := g
              try dsimp only
              refine JO.t (ob_idxO el_sl_cadastreref20_Tx rfl hT.wf.g rfl (by omega) (by omega)) rfl ?_
              refine JO.t (ob_fieldAddr fo_cadastreref20_Tx_4 rfl) rfl ?_
              refine JO.m (obm_storeO1 RX.len (v' := (p.vW (opAt ops i).t (opAt ops i).w (st1, cp1))) (j := 4) (sliceO_cells _ _ _) (sliceO_one _ _ _) ss_sl_api_Write rfl rfl hT.wf.g hg0 rfl (by omega) rfl (upd_ownO (upd_appL (fr_upd (A := []) (v := (p.vW (opAt ops i).t (opAt ops i).w (st1, cp1))) hso)))) (Upd.same (upd_ownO (upd_appL (fr_upd (A := []) (v := (p.vW (opAt ops i).t (opAt ops i).w (st1, cp1))) hso))) rfl) ?_
              refine JO.subL (L' := (⟨b6, ty_cadastrelaw20_Op, .is (.agg (OpA.cells (opAt ops i)).toArray)⟩ : Own) :: ((p.aw (opAt ops i).t (opAt ops i).w (st1, cp1)).L b13 ++ q1.L b ba)) (ser_fw_back (v := (p.vW (opAt ops i).t (opAt ops i).w (st1, cp1))) hg0 rfl _ _) ?_
              obtain ⟨p1, hp1⟩ : ∃ z : RS, z = p.aw (opAt ops i).t (opAt ops i).w (st1, cp1) := ⟨_, rfl⟩
              refine JO.subL (L' := (⟨b6, ty_cadastrelaw20_Op, .is (.agg (OpA.cells (opAt ops i)).toArray)⟩ : Own) :: (p1.L b13 ++ q1.L b ba)) (.of_eq (by rw [hp1]; first | done | rfl)) ?_
              have hT1 : RRl p1 (upA B ((opAt ops i).t - 1).toNat (aWr (opAt ops i).w.abs)) n (wsO ops) := by rw [hp1]; exact rr_aw hT hk0 hk1 (opAt_w (by omega)) hG1
              have hl1 : p1.xs.length = p.xs.length := by rw [hp1]; exact List.length_set
              refine JO.nil ?_
              repeat (first | refine JX.next ?_ | refine JX.normal_block ?_)
              refine J.sel [0, 3, 4, 5, 6, 7, 8] (.cons rfl (.cons rfl (.cons rfl (.cons rfl (.cons rfl (.cons rfl (.cons rfl .nil))))))) ?_
              repeat refine J.seq ?_
              refine J.reg0 hmx (by kernel_rfl) (by kernel_rfl) ?_
              refine RT.t (ob_move rfl) ?_
              refine RT.t (ob_move rfl) ?_
              refine RT.g rfl rfl rfl (fun hg => ob_move (.inl rfl)) ?_
              refine RT.g rfl rfl rfl (fun hg => ob_neq (.inr ⟨_, rfl, fun h => h⟩) (.inl rfl)) ?_
              refine RT.t (ob_pickAnd rfl rfl rfl id) ?_
              refine RT.nil ?_
              refine FinS.nil0 ?_
              repeat (first | refine JX.next ?_ | refine JX.normal_block ?_)
              refine J.sel [0, 3, 4, 5, 6, 7, 8, 188] (.cons rfl (.cons rfl (.cons rfl (.cons rfl (.cons rfl (.cons rfl (.cons rfl (.cons rfl .nil)))))))) ?_
              repeat refine J.seq ?_
              refine J.cond rfl (fun ht188 => ?_) (fun ht188 => ?_)
              ·
                try simp only [decide_eq_true_eq, decide_eq_false_iff_not] at ht188
                first
                | (have hTx := hT1)
                | (have hlv : liveA A (opAt ops i).t = true := (by rw [Bool.and_eq_true] at ht188; exact ht188.1)
                   obtain ⟨hk0, hk1⟩ := live_rng (xs := p.xs) (k := (opAt ops i).t) (by rw [hT.ab, hSR.live]; exact hlv)
                   have hxm := rr_m hT hk0 hk1
                   have hg0 := hT.wf.get hk0 hk1
                   have hso := st_some hT.wf.g (by omega)
                   have hcx := ((ser_commit hSR hlv he).resolve_left fun h => absurd h.1 (by rw [Bool.and_eq_true] at ht188; simpa using ht188.2)).2
                   obtain ⟨p1, hp1⟩ : ∃ z : RS, z = p := ⟨_, rfl⟩
                   refine J.subP (L' := (⟨b6, ty_cadastrelaw20_Op, .is (.agg (OpA.cells (opAt ops i)).toArray)⟩ : Own) :: (p1.L b13 ++ q1.L b ba)) (.of_eq (by rw [hp1]; first | done | rfl)) ?_
                   have hT1 : RRl p1 B n (wsO ops) := by rw [hp1]; exact hT
                   have hl1 : p1.xs.length = p.xs.length := by rw [hp1])
                have hl1x : p1.xs.length = p.xs.length := hl1
                have hg1 := hT1.wf.get hk0 (by omega)
                repeat refine J.seq ?_
                refine J.regS 7 hmx (by kernel_rfl) (by kernel_rfl) ?_
                refine RT.t (ob_move rfl) ?_
                refine RT.t (ob_nilCheck rfl) ?_
                refine RT.t (ob_fieldAddr fo_cadastreref20_Set_0 rfl) ?_
                refine RT.t (ob_ld1 sz_sl_cadastreref20_Tx rfl (hm := ⟨List.mem_cons_of_mem _ (List.mem_append_left _ List.mem_cons_self)⟩) rfl) ?_
                refine RT.t (ob_fieldAddr fo_cadastrelaw20_Op_1 rfl) ?_
                refine RT.t (ob_ld1 sz_int rfl rfl) ?_
                refine RT.t (ob_subc (cc := (opAt ops i).t - 1) rfl rfl rfl (by omega) (by omega)) ?_
                refine RT.nil ?_
                refine FinS.tail0 ?_
                refine JO.t (ob_idxO el_sl_cadastreref20_Tx rfl hT1.wf.g rfl (by omega) (by omega)) rfl ?_
                refine JO.t (ob_fieldAddr fo_cadastreref20_Tx_0 rfl) rfl ?_
                refine JO.m (obm_storeO1 RX.len (v := p1.x (opAt ops i).t) (v' := mk3 (p1.x (opAt ops i).t)) (j := 0) rfl rfl ss_int rfl rfl hT1.wf.g hg1 rfl (by omega) rfl (.there (upd_appL (upd_rl (v' := mk3 (p1.x (opAt ops i).t)) hT1.wf.g hg1 rfl)))) (Upd.same (.there (upd_appL (upd_rl (v' := mk3 (p1.x (opAt ops i).t)) hT1.wf.g hg1 rfl))) rfl) ?_
                refine JO.nil ?_
                repeat (first | refine JX.next ?_ | refine JX.normal_block ?_)
                refine J.sel [0, 3, 4, 5, 6, 7, 8] (.cons rfl (.cons rfl (.cons rfl (.cons rfl (.cons rfl (.cons rfl (.cons rfl .nil))))))) ?_
                repeat refine J.seq ?_
                refine J.reg0 hmx (by kernel_rfl) (by kernel_rfl) ?_
                refine RT.t (ob_fieldAddr fo_cadastrelaw20_Op_0 rfl) ?_
                refine RT.t (ob_ld1 sz_int rfl rfl) ?_
                refine RT.t (ob_geq rfl rfl) ?_
                refine RT.t (ob_move rfl) ?_
                refine RT.g rfl rfl rfl (fun hg => ob_fieldAddr fo_cadastrelaw20_Op_0 (.inl rfl)) ?_
                refine RT.g rfl rfl rfl (fun hg => ob_ld1 sz_int (.inr ⟨_, rfl, fun h => h⟩) rfl) ?_
                refine RT.g rfl rfl rfl (fun hg => ob_leq (.inr ⟨_, rfl, fun h => h⟩) (.inl rfl)) ?_
                refine RT.t (ob_pickAnd rfl rfl rfl id) ?_
                refine RT.t (ob_move rfl) ?_
                refine RT.g rfl rfl rfl (fun hg => ob_move (.inl rfl)) ?_
                refine RT.g rfl rfl rfl (fun hg => ob_not (.inr ⟨_, rfl, fun h => h⟩)) ?_
                refine RT.t (ob_pickAnd rfl rfl rfl id) ?_
                refine RT.t (ob_move rfl) ?_
                refine RT.g rfl rfl rfl (fun hg => ob_move (.inl rfl)) ?_
                refine RT.g rfl rfl rfl (fun hg => ob_neq (.inr ⟨_, rfl, fun h => h⟩) (.inl rfl)) ?_
                refine RT.t (ob_pickAnd rfl rfl rfl id) ?_
                refine RT.nil ?_
                refine FinS.nil0 ?_
                repeat (first | refine JX.next ?_ | refine JX.normal_block ?_)
                refine J.sel [0, 3, 4, 5, 213] (.cons rfl (.cons rfl (.cons rfl (.cons rfl (.cons rfl .nil))))) ?_
                repeat refine J.seq ?_
                refine J.cond rfl (fun ht213 => ?_) (fun ht213 => ?_)
                ·
                  try simp only [decide_eq_true_eq, decide_eq_false_iff_not] at ht213
                  exfalso
                  simp only [Bool.and_eq_true, decide_eq_true_eq, Bool.not_eq_true', bne_iff_ne, ne_eq] at ht213
                  obtain ⟨⟨⟨h2x, h5x⟩, hlx⟩, hex⟩ := ht213
                  first
                  | (have hk52 : (opAt ops i).k = 1 := by simpa using ht52
                     omega)
                  | (rw [hlv] at hlx; cases hlx)
                  | exact hex (read_dead hlx he).2
                  | exact hex (write_dead hlx he).2
                  | exact hex (commit_dead hlx he).2.2
                  | exact hex (abort_dead hlx he).2
                  | (simp at ht64 ht96 ht128 ht168
                     omega)
                ·
                  try simp only [decide_eq_true_eq, decide_eq_false_iff_not] at ht213
                  refine J.skip ?_
                  repeat (first | refine JX.next ?_ | refine JX.normal_block ?_)
                  refine J.subS (List.sublist_cons_self _ _) ?_
                  repeat refine J.seq ?_
                  refine J.plain ?_
                  refine JO.t (ob_move rfl) rfl ?_
                  refine JO.t (ob_addc (cc := ((i + 1 : Nat) : Int)) rfl rfl (by omega) (by omega) (by omega)) rfl ?_
                  refine JO.t (ob_assign rfl) rfl ?_
                  refine JO.nil ?_
                  repeat refine JX.normal_block ?_
                  refine JX.roundG (x := (⟨⟨i, q, p, A, n, U⟩, B⟩ : LT × List AT)) (⟨⟨i + 1, q1, p1.st3 (opAt ops i).t, A1, n, x1 :: U⟩, abA (upA B ((opAt ops i).t - 1).toNat (aWr (opAt ops i).w.abs)) ((opAt ops i).t - 1).toNat⟩ : LT × List AT) ?_ ?_ [0, 3, 4, 5] ?_ ?_ ?_ ?_
                  · exact (⟨by simp only; omega, hq1, (rr_st3 hT1 hk0 (by omega)), ((ser_write hSR hlv he).resolve_left fun h => absurd h.1 (by rw [Bool.and_eq_true] at ht188; simpa using ht188.2)).2, hBA1, ((bd_aw hBB _ _).ab _), by simp only; omega⟩)
                  · exact (by simp only; omega)
                  · exact (.cons rfl (.cons rfl (.cons rfl (.cons rfl .nil))))
                  · repeat (first | exact .all | exact .nil | refine Has.own (by repeat (first | exact .here | apply Tl.past | apply Tl.there)) ?_ | refine Has.cons (by repeat (first | exact .here | apply Pk.past | apply Pk.there)) ?_)
                  · exact fun G hG => by repeat (first | exact hG | refine List.mem_cons_of_mem _ ?_)
                  · exact (fun E0 w0 hG => hG _ (by repeat (first | exact List.mem_cons_self | apply List.mem_cons_of_mem)))
              ·
                try simp only [decide_eq_true_eq, decide_eq_false_iff_not] at ht188
                refine J.skip ?_
                repeat (first | refine JX.next ?_ | refine JX.normal_block ?_)
                repeat refine J.seq ?_
                refine J.reg0 hmx (by kernel_rfl) (by kernel_rfl) ?_
                refine RT.t (ob_fieldAddr fo_cadastrelaw20_Op_0 rfl) ?_
                refine RT.t (ob_ld1 sz_int rfl rfl) ?_
                refine RT.t (ob_geq rfl rfl) ?_
                refine RT.t (ob_move rfl) ?_
                refine RT.g rfl rfl rfl (fun hg => ob_fieldAddr fo_cadastrelaw20_Op_0 (.inl rfl)) ?_
                refine RT.g rfl rfl rfl (fun hg => ob_ld1 sz_int (.inr ⟨_, rfl, fun h => h⟩) rfl) ?_
                refine RT.g rfl rfl rfl (fun hg => ob_leq (.inr ⟨_, rfl, fun h => h⟩) (.inl rfl)) ?_
                refine RT.t (ob_pickAnd rfl rfl rfl id) ?_
                refine RT.t (ob_move rfl) ?_
                refine RT.g rfl rfl rfl (fun hg => ob_move (.inl rfl)) ?_
                refine RT.g rfl rfl rfl (fun hg => ob_not (.inr ⟨_, rfl, fun h => h⟩)) ?_
                refine RT.t (ob_pickAnd rfl rfl rfl id) ?_
                refine RT.t (ob_move rfl) ?_
                refine RT.g rfl rfl rfl (fun hg => ob_move (.inl rfl)) ?_
                refine RT.g rfl rfl rfl (fun hg => ob_neq (.inr ⟨_, rfl, fun h => h⟩) (.inl rfl)) ?_
                refine RT.t (ob_pickAnd rfl rfl rfl id) ?_
                refine RT.nil ?_
                refine FinS.nil0 ?_
                repeat (first | refine JX.next ?_ | refine JX.normal_block ?_)
                refine J.sel [0, 3, 4, 5, 213] (.cons rfl (.cons rfl (.cons rfl (.cons rfl (.cons rfl .nil))))) ?_
                repeat refine J.seq ?_
                refine J.cond rfl (fun ht213 => ?_) (fun ht213 => ?_)
                ·
                  try simp only [decide_eq_true_eq, decide_eq_false_iff_not] at ht213
                  exfalso
                  simp only [Bool.and_eq_true, decide_eq_true_eq, Bool.not_eq_true', bne_iff_ne, ne_eq] at ht213
                  obtain ⟨⟨⟨h2x, h5x⟩, hlx⟩, hex⟩ := ht213
                  first
                  | (have hk52 : (opAt ops i).k = 1 := by simpa using ht52
                     omega)
                  | (rw [hlv] at hlx; cases hlx)
                  | exact hex (read_dead hlx he).2
                  | exact hex (write_dead hlx he).2
                  | exact hex (commit_dead hlx he).2.2
                  | exact hex (abort_dead hlx he).2
                  | (simp at ht64 ht96 ht128 ht168
                     omega)
                ·
                  try simp only [decide_eq_true_eq, decide_eq_false_iff_not] at ht213
                  refine J.skip ?_
                  repeat (first | refine JX.next ?_ | refine JX.normal_block ?_)
                  refine J.subS (List.sublist_cons_self _ _) ?_
                  repeat refine J.seq ?_
                  refine J.plain ?_
                  refine JO.t (ob_move rfl) rfl ?_
                  refine JO.t (ob_addc (cc := ((i + 1 : Nat) : Int)) rfl rfl (by omega) (by omega) (by omega)) rfl ?_
                  refine JO.t (ob_assign rfl) rfl ?_
                  refine JO.nil ?_
                  repeat refine JX.normal_block ?_
                  refine JX.roundG (x := (⟨⟨i, q, p, A, n, U⟩, B⟩ : LT × List AT)) (⟨⟨i + 1, q1, p1, A1, n, x1 :: U⟩, upA B ((opAt ops i).t - 1).toNat (aWr (opAt ops i).w.abs)⟩ : LT × List AT) ?_ ?_ [0, 3, 4, 5] ?_ ?_ ?_ ?_
                  · exact (⟨by simp only; omega, hq1, hT1, ((ser_write hSR hlv he).resolve_right fun h => h.1 (by rw [ht104, Bool.true_and] at ht188; simpa using ht188)).2, hBA1, (bd_aw hBB _ _), by simp only; omega⟩)
                  · exact (by simp only; omega)
                  · exact (.cons rfl (.cons rfl (.cons rfl (.cons rfl .nil))))
                  · repeat (first | exact .all | exact .nil | refine Has.own (by repeat (first | exact .here | apply Tl.past | apply Tl.there)) ?_ | refine Has.cons (by repeat (first | exact .here | apply Pk.past | apply Pk.there)) ?_)
                  · exact fun G hG => by repeat (first | exact hG | refine List.mem_cons_of_mem _ ?_)
                  · exact (fun E0 w0 hG => hG _ (by repeat (first | exact List.mem_cons_self | apply List.mem_cons_of_mem)))
            ·
              try simp only [decide_eq_true_eq, decide_eq_false_iff_not] at ht104
              refine J.skip ?_
              repeat (first | refine JX.next ?_ | refine JX.normal_block ?_)
              repeat refine J.seq ?_
              refine J.reg0 hmx (by kernel_rfl) (by kernel_rfl) ?_
              refine RT.t (ob_move rfl) ?_
              refine RT.t (ob_move rfl) ?_
              refine RT.g rfl rfl rfl (fun hg => ob_move (.inl rfl)) ?_
              refine RT.g rfl rfl rfl (fun hg => ob_neq (.inr ⟨_, rfl, fun h => h⟩) (.inl rfl)) ?_
              refine RT.t (ob_pickAnd rfl rfl rfl id) ?_
              refine RT.nil ?_
              refine FinS.nil0 ?_
              repeat (first | refine JX.next ?_ | refine JX.normal_block ?_)
              refine J.sel [0, 3, 4, 5, 6, 7, 8, 188] (.cons rfl (.cons rfl (.cons rfl (.cons rfl (.cons rfl (.cons rfl (.cons rfl (.cons rfl .nil)))))))) ?_
              repeat refine J.seq ?_
              refine J.cond rfl (fun ht188 => ?_) (fun ht188 => ?_)
              ·
                try simp only [decide_eq_true_eq, decide_eq_false_iff_not] at ht188
                exfalso
                rw [ht104] at ht188; simp at ht188
              ·
                try simp only [decide_eq_true_eq, decide_eq_false_iff_not] at ht188
                refine J.skip ?_
                repeat (first | refine JX.next ?_ | refine JX.normal_block ?_)
                repeat refine J.seq ?_
                refine J.reg0 hmx (by kernel_rfl) (by kernel_rfl) ?_
                refine RT.t (ob_fieldAddr fo_cadastrelaw20_Op_0 rfl) ?_
                refine RT.t (ob_ld1 sz_int rfl rfl) ?_
                refine RT.t (ob_geq rfl rfl) ?_
                refine RT.t (ob_move rfl) ?_
                refine RT.g rfl rfl rfl (fun hg => ob_fieldAddr fo_cadastrelaw20_Op_0 (.inl rfl)) ?_
                refine RT.g rfl rfl rfl (fun hg => ob_ld1 sz_int (.inr ⟨_, rfl, fun h => h⟩) rfl) ?_
                refine RT.g rfl rfl rfl (fun hg => ob_leq (.inr ⟨_, rfl, fun h => h⟩) (.inl rfl)) ?_
                refine RT.t (ob_pickAnd rfl rfl rfl id) ?_
                refine RT.t (ob_move rfl) ?_
                refine RT.g rfl rfl rfl (fun hg => ob_move (.inl rfl)) ?_
                refine RT.g rfl rfl rfl (fun hg => ob_not (.inr ⟨_, rfl, fun h => h⟩)) ?_
                refine RT.t (ob_pickAnd rfl rfl rfl id) ?_
                refine RT.t (ob_move rfl) ?_
                refine RT.g rfl rfl rfl (fun hg => ob_move (.inl rfl)) ?_
                refine RT.g rfl rfl rfl (fun hg => ob_neq (.inr ⟨_, rfl, fun h => h⟩) (.inl rfl)) ?_
                refine RT.t (ob_pickAnd rfl rfl rfl id) ?_
                refine RT.nil ?_
                refine FinS.nil0 ?_
                repeat (first | refine JX.next ?_ | refine JX.normal_block ?_)
                refine J.sel [0, 3, 4, 5, 213] (.cons rfl (.cons rfl (.cons rfl (.cons rfl (.cons rfl .nil))))) ?_
                repeat refine J.seq ?_
                refine J.cond rfl (fun ht213 => ?_) (fun ht213 => ?_)
                ·
                  try simp only [decide_eq_true_eq, decide_eq_false_iff_not] at ht213
                  exfalso
                  simp only [Bool.and_eq_true, decide_eq_true_eq, Bool.not_eq_true', bne_iff_ne, ne_eq] at ht213
                  obtain ⟨⟨⟨h2x, h5x⟩, hlx⟩, hex⟩ := ht213
                  first
                  | (have hk52 : (opAt ops i).k = 1 := by simpa using ht52
                     omega)
                  | (rw [hlv] at hlx; cases hlx)
                  | exact hex (read_dead hlx he).2
                  | exact hex (write_dead hlx he).2
                  | exact hex (commit_dead hlx he).2.2
                  | exact hex (abort_dead hlx he).2
                  | (simp at ht64 ht96 ht128 ht168
                     omega)
                ·
                  try simp only [decide_eq_true_eq, decide_eq_false_iff_not] at ht213
                  refine J.skip ?_
                  repeat (first | refine JX.next ?_ | refine JX.normal_block ?_)
                  refine J.subS (List.sublist_cons_self _ _) ?_
                  repeat refine J.seq ?_
                  refine J.plain ?_
                  refine JO.t (ob_move rfl) rfl ?_
                  refine JO.t (ob_addc (cc := ((i + 1 : Nat) : Int)) rfl rfl (by omega) (by omega) (by omega)) rfl ?_
                  refine JO.t (ob_assign rfl) rfl ?_
                  refine JO.nil ?_
                  repeat refine JX.normal_block ?_
                  refine JX.roundG (x := (⟨⟨i, q, p, A, n, U⟩, B⟩ : LT × List AT)) (⟨⟨i + 1, q1, p, A1, n, x1 :: U⟩, B⟩ : LT × List AT) ?_ ?_ [0, 3, 4, 5] ?_ ?_ ?_ ?_
                  · exact (⟨by simp only; omega, hq1, hT, by rw [(write_dead ht104 he).1]; exact hSR, hBA1, (hBB.mono (Nat.le_refl _) (Nat.le_succ _)), by simp only; omega⟩)
                  · exact (by simp only; omega)
                  · exact (.cons rfl (.cons rfl (.cons rfl (.cons rfl .nil))))
                  · repeat (first | exact .all | exact .nil | refine Has.own (by repeat (first | exact .here | apply Tl.past | apply Tl.there)) ?_ | refine Has.cons (by repeat (first | exact .here | apply Pk.past | apply Pk.there)) ?_)
                  · exact fun G hG => by repeat (first | exact hG | refine List.mem_cons_of_mem _ ?_)
                  · exact (fun E0 w0 hG => hG _ (by repeat (first | exact List.mem_cons_self | apply List.mem_cons_of_mem)))
          ·
            try simp only [decide_eq_true_eq, decide_eq_false_iff_not] at ht96
            repeat refine J.seq ?_
            refine J.plain ?_
            refine JO.t (ob_eql rfl rfl) rfl ?_
            refine JO.t (ob_assign rfl) rfl ?_
            refine JO.nil ?_
            repeat (first | refine JX.next ?_ | refine JX.normal_block ?_)
            refine J.sel [0, 3, 4, 5, 6, 7, 8, 51, 128] (.cons rfl (.cons rfl (.cons rfl (.cons rfl (.cons rfl (.cons rfl (.cons rfl (.cons rfl (.cons rfl .nil))))))))) ?_
            repeat refine J.seq ?_
            refine J.cond rfl (fun ht128 => ?_) (fun ht128 => ?_)
            ·
              try simp only [decide_eq_true_eq, decide_eq_false_iff_not] at ht128
              obtain ⟨A1, n1, e1, he⟩ : ∃ A1 n1 e1, commitA A n (opAt ops i).t = (A1, n1, e1) := ⟨_, _, _, rfl⟩
              have hBA1 := hBA.commit n (opAt ops i).t
              rw [he] at hBA1
              have hn1 : n1 ≤ n + 1 := by
                have := opA_sp (A := A) (n := n) (o := { (opAt ops i) with k := 4 })
                rw [opA_4 rfl] at this
                rw [show (commitA A n (opAt ops i).t).2.1 = n1 by rw [he]] at this; exact this
              repeat refine J.seq ?_
              refine J.plain ?_
              refine JO.t (ob_move rfl) rfl ?_
              refine JO.t (ob_fieldAddr fo_cadastrelaw20_Op_1 rfl) rfl ?_
              refine JO.t (ob_ld1 sz_int rfl rfl) rfl ?_
              refine JO.callK (Lr := (⟨b6, ty_cadastrelaw20_Op, .is (.agg (OpA.cells (opAt ops i)).toArray)⟩ : Own) :: p.L b13) (k_Commit hS (by omega) _ he) rfl (List.perm_append_comm (l₁ := (⟨b6, ty_cadastrelaw20_Op, .is (.agg (OpA.cells (opAt ops i)).toArray)⟩ : Own) :: p.L b13)) none_in (.one rfl (.one rfl .nil)) ?_
              intro q1 hq1
              try dsimp only
              refine JO.subL (L' := (⟨b6, ty_cadastrelaw20_Op, .is (.agg (OpA.cells (opAt ops i)).toArray)⟩ : Own) :: (p.L b13 ++ q1.L b ba)) (List.perm_append_comm (l₁ := (⟨b6, ty_cadastrelaw20_Op, .is (.agg (OpA.cells (opAt ops i)).toArray)⟩ : Own) :: p.L b13)) ?_
              refine JO.t (ob_assign rfl) rfl ?_
              refine JO.nil ?_
              repeat (first | refine JX.next ?_ | refine JX.normal_block ?_)
              refine J.sel [0, 3, 4, 5, 6, 7, 8] (.cons rfl (.cons rfl (.cons rfl (.cons rfl (.cons rfl (.cons rfl (.cons rfl .nil))))))) ?_
              repeat refine J.seq ?_
              refine J.reg0 hmx (by kernel_rfl) (by kernel_rfl) ?_
              refine RT.t (ob_move rfl) ?_
              refine RT.t (ob_move rfl) ?_
              refine RT.g rfl rfl rfl (fun hg => ob_move (.inl rfl)) ?_
              refine RT.g rfl rfl rfl (fun hg => ob_eql (.inr ⟨_, rfl, fun h => h⟩) (.inl rfl)) ?_
              refine RT.t (ob_pickAnd rfl rfl rfl id) ?_
              refine RT.nil ?_
              refine FinS.nil0 ?_
              repeat (first | refine JX.next ?_ | refine JX.normal_block ?_)
              refine J.sel [0, 3, 4, 5, 6, 7, 8, 138] (.cons rfl (.cons rfl (.cons rfl (.cons rfl (.cons rfl (.cons rfl (.cons rfl (.cons rfl .nil)))))))) ?_
              repeat refine J.seq ?_
              refine J.cond rfl (fun ht138 => ?_) (fun ht138 => ?_)
              ·
                try simp only [decide_eq_true_eq, decide_eq_false_iff_not] at ht138
                have hlv : liveA A (opAt ops i).t = true := (by rw [Bool.and_eq_true] at ht138; exact ht138.1)
                obtain ⟨hk0, hk1⟩ := live_rng (xs := p.xs) (k := (opAt ops i).t) (by rw [hT.ab, hSR.live]; exact hlv)
                have hxm := rr_m hT hk0 hk1
                have hg0 := hT.wf.get hk0 hk1
                have hso := st_some hT.wf.g (by omega)
                have hcm := ((ser_commit hSR hlv he).resolve_right fun h => h.1 (by rw [Bool.and_eq_true] at ht138; simpa using ht138.2)).2
                repeat refine J.seq ?_
                refine J.plain ?_
                refine JO.t (ob_move rfl) rfl ?_
                refine JO.t (ob_nilCheck rfl) rfl ?_
                refine JO.t (ob_fieldAddr fo_cadastreref20_Set_1 rfl) rfl ?_
                refine JO.t (ob_ld1 sz_int rfl (hm := ⟨List.mem_cons_of_mem _ (List.mem_append_left _ List.mem_cons_self)⟩) rfl) rfl ?_
                refine JO.t (ob_addc (cc := ((p.sp + 1 : Nat) : Int)) rfl rfl (by omega) (by omega) (by omega)) rfl ?_
                refine JO.t (ob_nilCheck rfl) rfl ?_
                refine JO.t (ob_fieldAddr fo_cadastreref20_Set_1 rfl) rfl ?_
                refine JO.m (obm_storeF (cs' := [_, _]) rfl rfl (show Upd ((⟨b6, ty_cadastrelaw20_Op, .is (.agg (OpA.cells (opAt ops i)).toArray)⟩ : Own) :: (RL b13 p.sp p.st p.cap p.xs ++ q1.L b ba)) _ _ ((⟨b6, ty_cadastrelaw20_Op, .is (.agg (OpA.cells (opAt ops i)).toArray)⟩ : Own) :: (RL b13 (p.sp + 1) p.st p.cap p.xs ++ q1.L b ba)) from .there (upd_appL .here)) rfl rfl rfl rfl ss_int) (by rfl) ?_
                refine JO.nil ?_
                repeat (first | refine JX.next ?_ | refine JX.normal_block ?_)
                refine J.sel [0, 3, 4, 5, 6, 7, 8] (.cons rfl (.cons rfl (.cons rfl (.cons rfl (.cons rfl (.cons rfl (.cons rfl .nil))))))) ?_
                obtain ⟨p27, hp27⟩ : ∃ z : RS, z = p.inc := ⟨_, rfl⟩
                refine J.subP (L' := (⟨b6, ty_cadastrelaw20_Op, .is (.agg (OpA.cells (opAt ops i)).toArray)⟩ : Own) :: (p27.L b13 ++ q1.L b ba)) (.of_eq (by rw [hp27]; first | done | rfl)) ?_
                have hT27 : RRl p27 B (n + 1) (wsO ops) := by rw [hp27]; exact rr_inc hT
                have hl27 : p27.xs.length = p.xs.length := by rw [hp27]; rfl
                have hg27 := hT27.wf.get hk0 (by omega)
                repeat refine J.seq ?_
                refine J.regS 7 hmx (by kernel_rfl) (by kernel_rfl) ?_
                refine RT.t (ob_move rfl) ?_
                refine RT.t (ob_nilCheck rfl) ?_
                refine RT.t (ob_fieldAddr fo_cadastreref20_Set_0 rfl) ?_
                refine RT.t (ob_ld1 sz_sl_cadastreref20_Tx rfl (hm := ⟨List.mem_cons_of_mem _ (List.mem_append_left _ List.mem_cons_self)⟩) rfl) ?_
                refine RT.t (ob_fieldAddr fo_cadastrelaw20_Op_1 rfl) ?_
                refine RT.t (ob_ld1 sz_int rfl rfl) ?_
                refine RT.t (ob_subc (cc := (opAt ops i).t - 1) rfl rfl rfl (by omega) (by omega)) ?_
                refine RT.nil ?_
                refine FinS.tail0 ?_
                refine JO.t (ob_idxO el_sl_cadastreref20_Tx rfl hT27.wf.g rfl (by omega) (by omega)) rfl ?_
                refine JO.t (ob_fieldAddr fo_cadastreref20_Tx_0 rfl) rfl ?_
                refine JO.m (obm_storeO1 RX.len (v := p27.x (opAt ops i).t) (v' := cm2 (p27.x (opAt ops i).t)) (j := 0) rfl rfl ss_int rfl rfl hT27.wf.g hg27 rfl (by omega) rfl (.there (upd_appL (upd_rl (v' := cm2 (p27.x (opAt ops i).t)) hT27.wf.g hg27 rfl)))) (Upd.same (.there (upd_appL (upd_rl (v' := cm2 (p27.x (opAt ops i).t)) hT27.wf.g hg27 rfl))) rfl) ?_
                refine JO.nil ?_
                repeat (first | refine JX.next ?_ | refine JX.normal_block ?_)
                refine J.sel [0, 3, 4, 5, 6, 7, 8] (.cons rfl (.cons rfl (.cons rfl (.cons rfl (.cons rfl (.cons rfl (.cons rfl .nil))))))) ?_
                obtain ⟨p28, hp28⟩ : ∃ z : RS, z = p27.cm1 (opAt ops i).t := ⟨_, rfl⟩
                refine J.subP (L' := (⟨b6, ty_cadastrelaw20_Op, .is (.agg (OpA.cells (opAt ops i)).toArray)⟩ : Own) :: (p28.L b13 ++ q1.L b ba)) (.of_eq (by rw [hp28]; first | done | rfl)) ?_
                have hT28 : RRl p28 (upA B ((opAt ops i).t - 1).toNat fun a => { a with s := 2 }) (n + 1) (wsO ops) := by rw [hp28]; exact rr_cm1 hT27 hk0 (by omega)
                have hl28 : p28.xs.length = p.xs.length := by rw [hp28]; exact (List.length_set).trans hl27
                have hg28 := hT28.wf.get hk0 (by omega)
                repeat refine J.seq ?_
                refine J.regS 11 hmx (by kernel_rfl) (by kernel_rfl) ?_
                refine RT.t (ob_move rfl) ?_
                refine RT.t (ob_nilCheck rfl) ?_
                refine RT.t (ob_fieldAddr fo_cadastreref20_Set_0 rfl) ?_
                refine RT.t (ob_ld1 sz_sl_cadastreref20_Tx rfl (hm := ⟨List.mem_cons_of_mem _ (List.mem_append_left _ List.mem_cons_self)⟩) rfl) ?_
                refine RT.t (ob_fieldAddr fo_cadastrelaw20_Op_1 rfl) ?_
                refine RT.t (ob_ld1 sz_int rfl rfl) ?_
                refine RT.t (ob_subc (cc := (opAt ops i).t - 1) rfl rfl rfl (by omega) (by omega)) ?_
                refine RT.t (ob_move rfl) ?_
                refine RT.t (ob_nilCheck rfl) ?_
                refine RT.t (ob_fieldAddr fo_cadastreref20_Set_1 rfl) ?_
                refine RT.t (ob_ld1 sz_int rfl (hm := ⟨List.mem_cons_of_mem _ (List.mem_append_left _ List.mem_cons_self)⟩) rfl) ?_
                refine RT.nil ?_
                refine FinS.tail0 ?_
                refine JO.t (ob_idxO el_sl_cadastreref20_Tx rfl hT28.wf.g rfl (by omega) (by omega)) rfl ?_
                refine JO.t (ob_fieldAddr fo_cadastreref20_Tx_2 rfl) rfl ?_
                refine JO.m (obm_storeO1 RX.len (v := p28.x (opAt ops i).t) (v' := { p28.x (opAt ops i).t with done := p28.sp }) (j := 2) rfl rfl ss_int rfl rfl hT28.wf.g hg28 rfl (by omega) rfl (.there (upd_appL (upd_rl (v' := { p28.x (opAt ops i).t with done := p28.sp }) hT28.wf.g hg28 rfl)))) (Upd.same (.there (upd_appL (upd_rl (v' := { p28.x (opAt ops i).t with done := p28.sp }) hT28.wf.g hg28 rfl))) rfl) ?_
                obtain ⟨p1, hp1⟩ : ∃ z : RS, z = p28.dn (opAt ops i).t p28.sp := ⟨_, rfl⟩
                refine JO.subL (L' := (⟨b6, ty_cadastrelaw20_Op, .is (.agg (OpA.cells (opAt ops i)).toArray)⟩ : Own) :: (p1.L b13 ++ q1.L b ba)) (.of_eq (by rw [hp1]; first | done | rfl)) ?_
                have hT1 : RRl p1 (upA B ((opAt ops i).t - 1).toNat (aCm (n + 1))) (n + 1) (wsO ops) := by
                  rw [hp1, ← cm_up, show n + 1 = p28.sp from hT28.sp.symm]
                  have := rr_dn hT28 hk0 (by omega) p28.sp
                  rw [hT28.sp] at this ⊢
                  exact this
                refine JO.nil ?_
                repeat (first | refine JX.next ?_ | refine JX.normal_block ?_)
                refine J.sel [0, 3, 4, 5, 6, 7, 8] (.cons rfl (.cons rfl (.cons rfl (.cons rfl (.cons rfl (.cons rfl (.cons rfl .nil))))))) ?_
                repeat refine J.seq ?_
                refine J.reg0 hmx (by kernel_rfl) (by kernel_rfl) ?_
                refine RT.t (ob_move rfl) ?_
                refine RT.t (ob_move rfl) ?_
                refine RT.g rfl rfl rfl (fun hg => ob_move (.inl rfl)) ?_
                refine RT.g rfl rfl rfl (fun hg => ob_neq (.inr ⟨_, rfl, fun h => h⟩) (.inl rfl)) ?_
                refine RT.t (ob_pickAnd rfl rfl rfl id) ?_
                refine RT.nil ?_
                refine FinS.nil0 ?_
                repeat (first | refine JX.next ?_ | refine JX.normal_block ?_)
                refine J.sel [0, 3, 4, 5, 6, 7, 8, 188] (.cons rfl (.cons rfl (.cons rfl (.cons rfl (.cons rfl (.cons rfl (.cons rfl (.cons rfl .nil)))))))) ?_
                repeat refine J.seq ?_
                refine J.cond rfl (fun ht188 => ?_) (fun ht188 => ?_)
                ·
                  try simp only [decide_eq_true_eq, decide_eq_false_iff_not] at ht188
                  exfalso
                  simp at ht138 ht188
                  exact ht188.2 ht138.2
                ·
                  try simp only [decide_eq_true_eq, decide_eq_false_iff_not] at ht188
                  refine J.skip ?_
                  repeat (first | refine JX.next ?_ | refine JX.normal_block ?_)
                  repeat refine J.seq ?_
                  refine J.reg0 hmx (by kernel_rfl) (by kernel_rfl) ?_
                  refine RT.t (ob_fieldAddr fo_cadastrelaw20_Op_0 rfl) ?_
                  refine RT.t (ob_ld1 sz_int rfl rfl) ?_
                  refine RT.t (ob_geq rfl rfl) ?_
                  refine RT.t (ob_move rfl) ?_
                  refine RT.g rfl rfl rfl (fun hg => ob_fieldAddr fo_cadastrelaw20_Op_0 (.inl rfl)) ?_
                  refine RT.g rfl rfl rfl (fun hg => ob_ld1 sz_int (.inr ⟨_, rfl, fun h => h⟩) rfl) ?_
                  refine RT.g rfl rfl rfl (fun hg => ob_leq (.inr ⟨_, rfl, fun h => h⟩) (.inl rfl)) ?_
                  refine RT.t (ob_pickAnd rfl rfl rfl id) ?_
                  refine RT.t (ob_move rfl) ?_
                  refine RT.g rfl rfl rfl (fun hg => ob_move (.inl rfl)) ?_
                  refine RT.g rfl rfl rfl (fun hg => ob_not (.inr ⟨_, rfl, fun h => h⟩)) ?_
                  refine RT.t (ob_pickAnd rfl rfl rfl id) ?_
                  refine RT.t (ob_move rfl) ?_
                  refine RT.g rfl rfl rfl (fun hg => ob_move (.inl rfl)) ?_
                  refine RT.g rfl rfl rfl (fun hg => ob_neq (.inr ⟨_, rfl, fun h => h⟩) (.inl rfl)) ?_
                  refine RT.t (ob_pickAnd rfl rfl rfl id) ?_
                  refine RT.nil ?_
                  refine FinS.nil0 ?_
                  repeat (first | refine JX.next ?_ | refine JX.normal_block ?_)
                  refine J.sel [0, 3, 4, 5, 213] (.cons rfl (.cons rfl (.cons rfl (.cons rfl (.cons rfl .nil))))) ?_
                  repeat refine J.seq ?_
                  refine J.cond rfl (fun ht213 => ?_) (fun ht213 => ?_)
                  ·
                    try simp only [decide_eq_true_eq, decide_eq_false_iff_not] at ht213
                    exfalso
                    simp only [Bool.and_eq_true, decide_eq_true_eq, Bool.not_eq_true', bne_iff_ne, ne_eq] at ht213
                    obtain ⟨⟨⟨h2x, h5x⟩, hlx⟩, hex⟩ := ht213
                    first
                    | (have hk52 : (opAt ops i).k = 1 := by simpa using ht52
                       omega)
                    | (rw [hlv] at hlx; cases hlx)
                    | exact hex (read_dead hlx he).2
                    | exact hex (write_dead hlx he).2
                    | exact hex (commit_dead hlx he).2.2
                    | exact hex (abort_dead hlx he).2
                    | (simp at ht64 ht96 ht128 ht168
                       omega)
                  ·
                    try simp only [decide_eq_true_eq, decide_eq_false_iff_not] at ht213
                    refine J.skip ?_
                    repeat (first | refine JX.next ?_ | refine JX.normal_block ?_)
                    refine J.subS (List.sublist_cons_self _ _) ?_
                    repeat refine J.seq ?_
                    refine J.plain ?_
                    refine JO.t (ob_move rfl) rfl ?_
                    refine JO.t (ob_addc (cc := ((i + 1 : Nat) : Int)) rfl rfl (by omega) (by omega) (by omega)) rfl ?_
                    refine JO.t (ob_assign rfl) rfl ?_
                    refine JO.nil ?_
                    repeat refine JX.normal_block ?_
                    refine JX.roundG (x := (⟨⟨i, q, p, A, n, U⟩, B⟩ : LT × List AT)) (⟨⟨i + 1, q1, p1, A1, n1, U⟩, upA B ((opAt ops i).t - 1).toNat (aCm (n + 1))⟩ : LT × List AT) ?_ ?_ [0, 3, 4, 5] ?_ ?_ ?_ ?_
                    · exact (⟨by simp only; omega, hq1, (by rw [hcm.1]; exact hT1), hcm.2, (hBA1.mono (Nat.le_refl _) (Nat.le_succ _)), (bd_cm (hBB.mono (Nat.le_refl _) (Nat.le_succ _)) _ _), by simp only; omega⟩)
                    · exact (by simp only; omega)
                    · exact (.cons rfl (.cons rfl (.cons rfl (.cons rfl .nil))))
                    · repeat (first | exact .all | exact .nil | refine Has.own (by repeat (first | exact .here | apply Tl.past | apply Tl.there)) ?_ | refine Has.cons (by repeat (first | exact .here | apply Pk.past | apply Pk.there)) ?_)
                    · exact fun G hG => by repeat (first | exact hG | refine List.mem_cons_of_mem _ ?_)
                    · exact (fun E0 w0 hG => hG _ (by repeat (first | exact List.mem_cons_self | apply List.mem_cons_of_mem)))
              ·
                try simp only [decide_eq_true_eq, decide_eq_false_iff_not] at ht138
                refine J.skip ?_
                repeat (first | refine JX.next ?_ | refine JX.normal_block ?_)
                repeat refine J.seq ?_
                refine J.reg0 hmx (by kernel_rfl) (by kernel_rfl) ?_
                refine RT.t (ob_move rfl) ?_
                refine RT.t (ob_move rfl) ?_
                refine RT.g rfl rfl rfl (fun hg => ob_move (.inl rfl)) ?_
                refine RT.g rfl rfl rfl (fun hg => ob_neq (.inr ⟨_, rfl, fun h => h⟩) (.inl rfl)) ?_
                refine RT.t (ob_pickAnd rfl rfl rfl id) ?_
                refine RT.nil ?_
                refine FinS.nil0 ?_
                repeat (first | refine JX.next ?_ | refine JX.normal_block ?_)
                refine J.sel [0, 3, 4, 5, 6, 7, 8, 188] (.cons rfl (.cons rfl (.cons rfl (.cons rfl (.cons rfl (.cons rfl (.cons rfl (.cons rfl .nil)))))))) ?_
                repeat refine J.seq ?_
                refine J.cond rfl (fun ht188 => ?_) (fun ht188 => ?_)
                ·
                  try simp only [decide_eq_true_eq, decide_eq_false_iff_not] at ht188
                  first
                  | (have hTx := hT1)
                  | (have hlv : liveA A (opAt ops i).t = true := (by rw [Bool.and_eq_true] at ht188; exact ht188.1)
                     obtain ⟨hk0, hk1⟩ := live_rng (xs := p.xs) (k := (opAt ops i).t) (by rw [hT.ab, hSR.live]; exact hlv)
                     have hxm := rr_m hT hk0 hk1
                     have hg0 := hT.wf.get hk0 hk1
                     have hso := st_some hT.wf.g (by omega)
                     have hcx := ((ser_commit hSR hlv he).resolve_left fun h => absurd h.1 (by rw [Bool.and_eq_true] at ht188; simpa using ht188.2)).2
                     obtain ⟨p1, hp1⟩ : ∃ z : RS, z = p := ⟨_, rfl⟩
                     refine J.subP (L' := (⟨b6, ty_cadastrelaw20_Op, .is (.agg (OpA.cells (opAt ops i)).toArray)⟩ : Own) :: (p1.L b13 ++ q1.L b ba)) (.of_eq (by rw [hp1]; first | done | rfl)) ?_
                     have hT1 : RRl p1 B n (wsO ops) := by rw [hp1]; exact hT
                     have hl1 : p1.xs.length = p.xs.length := by rw [hp1])
                  have hl1x : p1.xs.length = p.xs.length := hl1
                  have hg1 := hT1.wf.get hk0 (by omega)
                  repeat refine J.seq ?_
                  refine J.regS 7 hmx (by kernel_rfl) (by kernel_rfl) ?_
                  refine RT.t (ob_move rfl) ?_
                  refine RT.t (ob_nilCheck rfl) ?_
                  refine RT.t (ob_fieldAddr fo_cadastreref20_Set_0 rfl) ?_
                  refine RT.t (ob_ld1 sz_sl_cadastreref20_Tx rfl (hm := ⟨List.mem_cons_of_mem _ (List.mem_append_left _ List.mem_cons_self)⟩) rfl) ?_
                  refine RT.t (ob_fieldAddr fo_cadastrelaw20_Op_1 rfl) ?_
                  refine RT.t (ob_ld1 sz_int rfl rfl) ?_
                  refine RT.t (ob_subc (cc := (opAt ops i).t - 1) rfl rfl rfl (by omega) (by omega)) ?_
                  refine RT.nil ?_
                  refine FinS.tail0 ?_
                  refine JO.t (ob_idxO el_sl_cadastreref20_Tx rfl hT1.wf.g rfl (by omega) (by omega)) rfl ?_
                  refine JO.t (ob_fieldAddr fo_cadastreref20_Tx_0 rfl) rfl ?_
                  refine JO.m (obm_storeO1 RX.len (v := p1.x (opAt ops i).t) (v' := mk3 (p1.x (opAt ops i).t)) (j := 0) rfl rfl ss_int rfl rfl hT1.wf.g hg1 rfl (by omega) rfl (.there (upd_appL (upd_rl (v' := mk3 (p1.x (opAt ops i).t)) hT1.wf.g hg1 rfl)))) (Upd.same (.there (upd_appL (upd_rl (v' := mk3 (p1.x (opAt ops i).t)) hT1.wf.g hg1 rfl))) rfl) ?_
                  refine JO.nil ?_
                  repeat (first | refine JX.next ?_ | refine JX.normal_block ?_)
                  refine J.sel [0, 3, 4, 5, 6, 7, 8] (.cons rfl (.cons rfl (.cons rfl (.cons rfl (.cons rfl (.cons rfl (.cons rfl .nil))))))) ?_
                  repeat refine J.seq ?_
                  refine J.reg0 hmx (by kernel_rfl) (by kernel_rfl) ?_
                  refine RT.t (ob_fieldAddr fo_cadastrelaw20_Op_0 rfl) ?_
                  refine RT.t (ob_ld1 sz_int rfl rfl) ?_
                  refine RT.t (ob_geq rfl rfl) ?_
                  refine RT.t (ob_move rfl) ?_
                  refine RT.g rfl rfl rfl (fun hg => ob_fieldAddr fo_cadastrelaw20_Op_0 (.inl rfl)) ?_
                  refine RT.g rfl rfl rfl (fun hg => ob_ld1 sz_int (.inr ⟨_, rfl, fun h => h⟩) rfl) ?_
                  refine RT.g rfl rfl rfl (fun hg => ob_leq (.inr ⟨_, rfl, fun h => h⟩) (.inl rfl)) ?_
                  refine RT.t (ob_pickAnd rfl rfl rfl id) ?_
                  refine RT.t (ob_move rfl) ?_
                  refine RT.g rfl rfl rfl (fun hg => ob_move (.inl rfl)) ?_
                  refine RT.g rfl rfl rfl (fun hg => ob_not (.inr ⟨_, rfl, fun h => h⟩)) ?_
                  refine RT.t (ob_pickAnd rfl rfl rfl id) ?_
                  refine RT.t (ob_move rfl) ?_
                  refine RT.g rfl rfl rfl (fun hg => ob_move (.inl rfl)) ?_
                  refine RT.g rfl rfl rfl (fun hg => ob_neq (.inr ⟨_, rfl, fun h => h⟩) (.inl rfl)) ?_
                  refine RT.t (ob_pickAnd rfl rfl rfl id) ?_
                  refine RT.nil ?_
                  refine FinS.nil0 ?_
                  repeat (first | refine JX.next ?_ | refine JX.normal_block ?_)
                  refine J.sel [0, 3, 4, 5, 213] (.cons rfl (.cons rfl (.cons rfl (.cons rfl (.cons rfl .nil))))) ?_
                  repeat refine J.seq ?_
                  refine J.cond rfl (fun ht213 => ?_) (fun ht213 => ?_)
                  ·
                    try simp only [decide_eq_true_eq, decide_eq_false_iff_not] at ht213
                    exfalso
                    simp only [Bool.and_eq_true, decide_eq_true_eq, Bool.not_eq_true', bne_iff_ne, ne_eq] at ht213
                    obtain ⟨⟨⟨h2x, h5x⟩, hlx⟩, hex⟩ := ht213
                    first
                    | (have hk52 : (opAt ops i).k = 1 := by simpa using ht52
                       omega)
                    | (rw [hlv] at hlx; cases hlx)
                    | exact hex (read_dead hlx he).2
                    | exact hex (write_dead hlx he).2
                    | exact hex (commit_dead hlx he).2.2
                    | exact hex (abort_dead hlx he).2
                    | (simp at ht64 ht96 ht128 ht168
                       omega)
                  ·
                    try simp only [decide_eq_true_eq, decide_eq_false_iff_not] at ht213
                    refine J.skip ?_
                    repeat (first | refine JX.next ?_ | refine JX.normal_block ?_)
                    refine J.subS (List.sublist_cons_self _ _) ?_
                    repeat refine J.seq ?_
                    refine J.plain ?_
                    refine JO.t (ob_move rfl) rfl ?_
                    refine JO.t (ob_addc (cc := ((i + 1 : Nat) : Int)) rfl rfl (by omega) (by omega) (by omega)) rfl ?_
                    refine JO.t (ob_assign rfl) rfl ?_
                    refine JO.nil ?_
                    repeat refine JX.normal_block ?_
                    refine JX.roundG (x := (⟨⟨i, q, p, A, n, U⟩, B⟩ : LT × List AT)) (⟨⟨i + 1, q1, p1.st3 (opAt ops i).t, A1, n1, U⟩, abA B ((opAt ops i).t - 1).toNat⟩ : LT × List AT) ?_ ?_ [0, 3, 4, 5] ?_ ?_ ?_ ?_
                    · exact (⟨by simp only; omega, hq1, (by rw [hcx.1]; exact rr_st3 hT1 hk0 (by omega)), hcx.2, (hBA1.mono (Nat.le_refl _) (Nat.le_succ _)), ((hBB.mono (Nat.le_refl _) (Nat.le_succ _)).ab _), by simp only; omega⟩)
                    · exact (by simp only; omega)
                    · exact (.cons rfl (.cons rfl (.cons rfl (.cons rfl .nil))))
                    · repeat (first | exact .all | exact .nil | refine Has.own (by repeat (first | exact .here | apply Tl.past | apply Tl.there)) ?_ | refine Has.cons (by repeat (first | exact .here | apply Pk.past | apply Pk.there)) ?_)
                    · exact fun G hG => by repeat (first | exact hG | refine List.mem_cons_of_mem _ ?_)
                    · exact (fun E0 w0 hG => hG _ (by repeat (first | exact List.mem_cons_self | apply List.mem_cons_of_mem)))
                ·
                  try simp only [decide_eq_true_eq, decide_eq_false_iff_not] at ht188
                  refine J.skip ?_
                  repeat (first | refine JX.next ?_ | refine JX.normal_block ?_)
                  repeat refine J.seq ?_
                  refine J.reg0 hmx (by kernel_rfl) (by kernel_rfl) ?_
                  refine RT.t (ob_fieldAddr fo_cadastrelaw20_Op_0 rfl) ?_
                  refine RT.t (ob_ld1 sz_int rfl rfl) ?_
                  refine RT.t (ob_geq rfl rfl) ?_
                  refine RT.t (ob_move rfl) ?_
                  refine RT.g rfl rfl rfl (fun hg => ob_fieldAddr fo_cadastrelaw20_Op_0 (.inl rfl)) ?_
                  refine RT.g rfl rfl rfl (fun hg => ob_ld1 sz_int (.inr ⟨_, rfl, fun h => h⟩) rfl) ?_
                  refine RT.g rfl rfl rfl (fun hg => ob_leq (.inr ⟨_, rfl, fun h => h⟩) (.inl rfl)) ?_
                  refine RT.t (ob_pickAnd rfl rfl rfl id) ?_
                  refine RT.t (ob_move rfl) ?_
                  refine RT.g rfl rfl rfl (fun hg => ob_move (.inl rfl)) ?_
                  refine RT.g rfl rfl rfl (fun hg => ob_not (.inr ⟨_, rfl, fun h => h⟩)) ?_
                  refine RT.t (ob_pickAnd rfl rfl rfl id) ?_
                  refine RT.t (ob_move rfl) ?_
                  refine RT.g rfl rfl rfl (fun hg => ob_move (.inl rfl)) ?_
                  refine RT.g rfl rfl rfl (fun hg => ob_neq (.inr ⟨_, rfl, fun h => h⟩) (.inl rfl)) ?_
                  refine RT.t (ob_pickAnd rfl rfl rfl id) ?_
                  refine RT.nil ?_
                  refine FinS.nil0 ?_
                  repeat (first | refine JX.next ?_ | refine JX.normal_block ?_)
                  refine J.sel [0, 3, 4, 5, 213] (.cons rfl (.cons rfl (.cons rfl (.cons rfl (.cons rfl .nil))))) ?_
                  repeat refine J.seq ?_
                  refine J.cond rfl (fun ht213 => ?_) (fun ht213 => ?_)
                  ·
                    try simp only [decide_eq_true_eq, decide_eq_false_iff_not] at ht213
                    exfalso
                    simp only [Bool.and_eq_true, decide_eq_true_eq, Bool.not_eq_true', bne_iff_ne, ne_eq] at ht213
                    obtain ⟨⟨⟨h2x, h5x⟩, hlx⟩, hex⟩ := ht213
                    first
                    | (have hk52 : (opAt ops i).k = 1 := by simpa using ht52
                       omega)
                    | (rw [hlv] at hlx; cases hlx)
                    | exact hex (read_dead hlx he).2
                    | exact hex (write_dead hlx he).2
                    | exact hex (commit_dead hlx he).2.2
                    | exact hex (abort_dead hlx he).2
                    | (simp at ht64 ht96 ht128 ht168
                       omega)
                  ·
                    try simp only [decide_eq_true_eq, decide_eq_false_iff_not] at ht213
                    refine J.skip ?_
                    repeat (first | refine JX.next ?_ | refine JX.normal_block ?_)
                    refine J.subS (List.sublist_cons_self _ _) ?_
                    repeat refine J.seq ?_
                    refine J.plain ?_
                    refine JO.t (ob_move rfl) rfl ?_
                    refine JO.t (ob_addc (cc := ((i + 1 : Nat) : Int)) rfl rfl (by omega) (by omega) (by omega)) rfl ?_
                    refine JO.t (ob_assign rfl) rfl ?_
                    refine JO.nil ?_
                    repeat refine JX.normal_block ?_
                    refine JX.roundG (x := (⟨⟨i, q, p, A, n, U⟩, B⟩ : LT × List AT)) (⟨⟨i + 1, q1, p, A1, n1, U⟩, B⟩ : LT × List AT) ?_ ?_ [0, 3, 4, 5] ?_ ?_ ?_ ?_
                    · exact ((by
  have hd : liveA A (opAt ops i).t = false := by
    cases hl : liveA A (opAt ops i).t with
    | false => rfl
    | true => rw [hl, Bool.true_and] at ht138 ht188; simp at ht138 ht188; exact absurd ht188 ht138
  obtain ⟨e1x, e2x, _⟩ := commit_dead hd he
  exact ⟨by simp only; omega, hq1, (by rw [e2x]; exact hT), by rw [e1x]; exact hSR, (hBA1.mono (Nat.le_refl _) (Nat.le_succ _)), (hBB.mono (Nat.le_refl _) (Nat.le_succ _)), by simp only; omega⟩))
                    · exact (by simp only; omega)
                    · exact (.cons rfl (.cons rfl (.cons rfl (.cons rfl .nil))))
                    · repeat (first | exact .all | exact .nil | refine Has.own (by repeat (first | exact .here | apply Tl.past | apply Tl.there)) ?_ | refine Has.cons (by repeat (first | exact .here | apply Pk.past | apply Pk.there)) ?_)
                    · exact fun G hG => by repeat (first | exact hG | refine List.mem_cons_of_mem _ ?_)
                    · exact (fun E0 w0 hG => hG _ (by repeat (first | exact List.mem_cons_self | apply List.mem_cons_of_mem)))
            ·
              try simp only [decide_eq_true_eq, decide_eq_false_iff_not] at ht128
              repeat refine J.seq ?_
              refine J.plain ?_
              refine JO.t (ob_eql rfl rfl) rfl ?_
              refine JO.t (ob_assign rfl) rfl ?_
              refine JO.nil ?_
              repeat (first | refine JX.next ?_ | refine JX.normal_block ?_)
              refine J.sel [0, 3, 4, 5, 6, 7, 8, 168] (.cons rfl (.cons rfl (.cons rfl (.cons rfl (.cons rfl (.cons rfl (.cons rfl (.cons rfl .nil)))))))) ?_
              repeat refine J.seq ?_
              refine J.cond rfl (fun ht168 => ?_) (fun ht168 => ?_)
              ·
                try simp only [decide_eq_true_eq, decide_eq_false_iff_not] at ht168
                obtain ⟨A1, e1, he⟩ : ∃ A1 e1, abortA A (opAt ops i).t = (A1, e1) := ⟨_, _, rfl⟩
                have hBA1 := hBA.abort (opAt ops i).t
                rw [he] at hBA1
                repeat refine J.seq ?_
                refine J.plain ?_
                refine JO.t (ob_move rfl) rfl ?_
                refine JO.t (ob_fieldAddr fo_cadastrelaw20_Op_1 rfl) rfl ?_
                refine JO.t (ob_ld1 sz_int rfl rfl) rfl ?_
                refine JO.callK (Lr := (⟨b6, ty_cadastrelaw20_Op, .is (.agg (OpA.cells (opAt ops i)).toArray)⟩ : Own) :: p.L b13) (k_Abort hS _ he) rfl (List.perm_append_comm (l₁ := (⟨b6, ty_cadastrelaw20_Op, .is (.agg (OpA.cells (opAt ops i)).toArray)⟩ : Own) :: p.L b13)) none_in (.one rfl (.one rfl .nil)) ?_
                intro q1 hq1
                try dsimp only
                refine JO.subL (L' := (⟨b6, ty_cadastrelaw20_Op, .is (.agg (OpA.cells (opAt ops i)).toArray)⟩ : Own) :: (p.L b13 ++ q1.L b ba)) (List.perm_append_comm (l₁ := (⟨b6, ty_cadastrelaw20_Op, .is (.agg (OpA.cells (opAt ops i)).toArray)⟩ : Own) :: p.L b13)) ?_
                refine JO.t (ob_assign rfl) rfl ?_
                refine JO.nil ?_
                repeat (first | refine JX.next ?_ | refine JX.normal_block ?_)
                refine J.sel [0, 3, 4, 5, 6, 7, 8] (.cons rfl (.cons rfl (.cons rfl (.cons rfl (.cons rfl (.cons rfl (.cons rfl .nil))))))) ?_
                repeat refine J.seq ?_
                refine J.plain ?_
                refine JO.t (ob_move rfl) rfl ?_
                refine JO.nil ?_
                repeat (first | refine JX.next ?_ | refine JX.normal_block ?_)
                refine J.sel [0, 3, 4, 5, 6, 7, 8, 174] (.cons rfl (.cons rfl (.cons rfl (.cons rfl (.cons rfl (.cons rfl (.cons rfl (.cons rfl .nil)))))))) ?_
                repeat refine J.seq ?_
                refine J.cond rfl (fun ht174 => ?_) (fun ht174 => ?_)
                ·
                  try simp only [decide_eq_true_eq, decide_eq_false_iff_not] at ht174
                  have hlv : liveA A (opAt ops i).t = true := ht174
                  obtain ⟨hk0, hk1⟩ := live_rng (xs := p.xs) (k := (opAt ops i).t) (by rw [hT.ab, hSR.live]; exact hlv)
                  have hxm := rr_m hT hk0 hk1
                  have hg0 := hT.wf.get hk0 hk1
                  have hso := st_some hT.wf.g (by omega)
                  repeat refine J.seq ?_
                  refine J.regS 7 hmx (by kernel_rfl) (by kernel_rfl) ?_
                  refine RT.t (ob_move rfl) ?_
                  refine RT.t (ob_nilCheck rfl) ?_
                  refine RT.t (ob_fieldAddr fo_cadastreref20_Set_0 rfl) ?_
                  refine RT.t (ob_ld1 sz_sl_cadastreref20_Tx rfl (hm := ⟨List.mem_cons_of_mem _ (List.mem_append_left _ List.mem_cons_self)⟩) rfl) ?_
                  refine RT.t (ob_fieldAddr fo_cadastrelaw20_Op_1 rfl) ?_
                  refine RT.t (ob_ld1 sz_int rfl rfl) ?_
                  refine RT.t (ob_subc (cc := (opAt ops i).t - 1) rfl rfl rfl (by omega) (by omega)) ?_
                  refine RT.nil ?_
                  refine FinS.tail0 ?_
                  refine JO.t (ob_idxO el_sl_cadastreref20_Tx rfl hT.wf.g rfl (by omega) (by omega)) rfl ?_
                  refine JO.t (ob_fieldAddr fo_cadastreref20_Tx_0 rfl) rfl ?_
                  refine JO.m (obm_storeO1 RX.len (v := p.x (opAt ops i).t) (v' := mk3 (p.x (opAt ops i).t)) (j := 0) rfl rfl ss_int rfl rfl hT.wf.g hg0 rfl (by omega) rfl (.there (upd_appL (upd_rl (v' := mk3 (p.x (opAt ops i).t)) hT.wf.g hg0 rfl)))) (Upd.same (.there (upd_appL (upd_rl (v' := mk3 (p.x (opAt ops i).t)) hT.wf.g hg0 rfl))) rfl) ?_
                  obtain ⟨p1, hp1⟩ : ∃ z : RS, z = p.st3 (opAt ops i).t := ⟨_, rfl⟩
                  refine JO.subL (L' := (⟨b6, ty_cadastrelaw20_Op, .is (.agg (OpA.cells (opAt ops i)).toArray)⟩ : Own) :: (p1.L b13 ++ q1.L b ba)) (.of_eq (by rw [hp1]; first | done | rfl)) ?_
                  have hT1 : RRl p1 (abA B ((opAt ops i).t - 1).toNat) n (wsO ops) := by rw [hp1]; exact rr_st3 hT hk0 hk1
                  refine JO.nil ?_
                  repeat (first | refine JX.next ?_ | refine JX.normal_block ?_)
                  refine J.sel [0, 3, 4, 5, 6, 7, 8] (.cons rfl (.cons rfl (.cons rfl (.cons rfl (.cons rfl (.cons rfl (.cons rfl .nil))))))) ?_
                  repeat refine J.seq ?_
                  refine J.reg0 hmx (by kernel_rfl) (by kernel_rfl) ?_
                  refine RT.t (ob_move rfl) ?_
                  refine RT.t (ob_move rfl) ?_
                  refine RT.g rfl rfl rfl (fun hg => ob_move (.inl rfl)) ?_
                  refine RT.g rfl rfl rfl (fun hg => ob_neq (.inr ⟨_, rfl, fun h => h⟩) (.inl rfl)) ?_
                  refine RT.t (ob_pickAnd rfl rfl rfl id) ?_
                  refine RT.nil ?_
                  refine FinS.nil0 ?_
                  repeat (first | refine JX.next ?_ | refine JX.normal_block ?_)
                  refine J.sel [0, 3, 4, 5, 6, 7, 8, 188] (.cons rfl (.cons rfl (.cons rfl (.cons rfl (.cons rfl (.cons rfl (.cons rfl (.cons rfl .nil)))))))) ?_
                  repeat refine J.seq ?_
                  refine J.cond rfl (fun ht188 => ?_) (fun ht188 => ?_)
                  ·
                    try simp only [decide_eq_true_eq, decide_eq_false_iff_not] at ht188
                    exfalso
                    rw [(ser_abort hSR hlv he).1] at ht188; simp at ht188
                  ·
                    try simp only [decide_eq_true_eq, decide_eq_false_iff_not] at ht188
                    refine J.skip ?_
                    repeat (first | refine JX.next ?_ | refine JX.normal_block ?_)
                    repeat refine J.seq ?_
                    refine J.reg0 hmx (by kernel_rfl) (by kernel_rfl) ?_
                    refine RT.t (ob_fieldAddr fo_cadastrelaw20_Op_0 rfl) ?_
                    refine RT.t (ob_ld1 sz_int rfl rfl) ?_
                    refine RT.t (ob_geq rfl rfl) ?_
                    refine RT.t (ob_move rfl) ?_
                    refine RT.g rfl rfl rfl (fun hg => ob_fieldAddr fo_cadastrelaw20_Op_0 (.inl rfl)) ?_
                    refine RT.g rfl rfl rfl (fun hg => ob_ld1 sz_int (.inr ⟨_, rfl, fun h => h⟩) rfl) ?_
                    refine RT.g rfl rfl rfl (fun hg => ob_leq (.inr ⟨_, rfl, fun h => h⟩) (.inl rfl)) ?_
                    refine RT.t (ob_pickAnd rfl rfl rfl id) ?_
                    refine RT.t (ob_move rfl) ?_
                    refine RT.g rfl rfl rfl (fun hg => ob_move (.inl rfl)) ?_
                    refine RT.g rfl rfl rfl (fun hg => ob_not (.inr ⟨_, rfl, fun h => h⟩)) ?_
                    refine RT.t (ob_pickAnd rfl rfl rfl id) ?_
                    refine RT.t (ob_move rfl) ?_
                    refine RT.g rfl rfl rfl (fun hg => ob_move (.inl rfl)) ?_
                    refine RT.g rfl rfl rfl (fun hg => ob_neq (.inr ⟨_, rfl, fun h => h⟩) (.inl rfl)) ?_
                    refine RT.t (ob_pickAnd rfl rfl rfl id) ?_
                    refine RT.nil ?_
                    refine FinS.nil0 ?_
                    repeat (first | refine JX.next ?_ | refine JX.normal_block ?_)
                    refine J.sel [0, 3, 4, 5, 213] (.cons rfl (.cons rfl (.cons rfl (.cons rfl (.cons rfl .nil))))) ?_
                    repeat refine J.seq ?_
                    refine J.cond rfl (fun ht213 => ?_) (fun ht213 => ?_)
                    ·
                      try simp only [decide_eq_true_eq, decide_eq_false_iff_not] at ht213
                      exfalso
                      simp only [Bool.and_eq_true, decide_eq_true_eq, Bool.not_eq_true', bne_iff_ne, ne_eq] at ht213
                      obtain ⟨⟨⟨h2x, h5x⟩, hlx⟩, hex⟩ := ht213
                      first
                      | (have hk52 : (opAt ops i).k = 1 := by simpa using ht52
                         omega)
                      | (rw [hlv] at hlx; cases hlx)
                      | exact hex (read_dead hlx he).2
                      | exact hex (write_dead hlx he).2
                      | exact hex (commit_dead hlx he).2.2
                      | exact hex (abort_dead hlx he).2
                      | (simp at ht64 ht96 ht128 ht168
                         omega)
                    ·
                      try simp only [decide_eq_true_eq, decide_eq_false_iff_not] at ht213
                      refine J.skip ?_
                      repeat (first | refine JX.next ?_ | refine JX.normal_block ?_)
                      refine J.subS (List.sublist_cons_self _ _) ?_
                      repeat refine J.seq ?_
                      refine J.plain ?_
                      refine JO.t (ob_move rfl) rfl ?_
                      refine JO.t (ob_addc (cc := ((i + 1 : Nat) : Int)) rfl rfl (by omega) (by omega) (by omega)) rfl ?_
                      refine JO.t (ob_assign rfl) rfl ?_
                      refine JO.nil ?_
                      repeat refine JX.normal_block ?_
                      refine JX.roundG (x := (⟨⟨i, q, p, A, n, U⟩, B⟩ : LT × List AT)) (⟨⟨i + 1, q1, p1, A1, n, U⟩, abA B ((opAt ops i).t - 1).toNat⟩ : LT × List AT) ?_ ?_ [0, 3, 4, 5] ?_ ?_ ?_ ?_
                      · exact (⟨by simp only; omega, hq1, hT1, (ser_abort hSR hlv he).2, (hBA1.mono (Nat.le_refl _) (Nat.le_succ _)), ((hBB.mono (Nat.le_refl _) (Nat.le_succ _)).ab _), by simp only; omega⟩)
                      · exact (by simp only; omega)
                      · exact (.cons rfl (.cons rfl (.cons rfl (.cons rfl .nil))))
                      · repeat (first | exact .all | exact .nil | refine Has.own (by repeat (first | exact .here | apply Tl.past | apply Tl.there)) ?_ | refine Has.cons (by repeat (first | exact .here | apply Pk.past | apply Pk.there)) ?_)
                      · exact fun G hG => by repeat (first | exact hG | refine List.mem_cons_of_mem _ ?_)
                      · exact (fun E0 w0 hG => hG _ (by repeat (first | exact List.mem_cons_self | apply List.mem_cons_of_mem)))
                ·
                  try simp only [decide_eq_true_eq, decide_eq_false_iff_not] at ht174
                  refine J.skip ?_
                  repeat (first | refine JX.next ?_ | refine JX.normal_block ?_)
                  repeat refine J.seq ?_
                  refine J.reg0 hmx (by kernel_rfl) (by kernel_rfl) ?_
                  refine RT.t (ob_move rfl) ?_
                  refine RT.t (ob_move rfl) ?_
                  refine RT.g rfl rfl rfl (fun hg => ob_move (.inl rfl)) ?_
                  refine RT.g rfl rfl rfl (fun hg => ob_neq (.inr ⟨_, rfl, fun h => h⟩) (.inl rfl)) ?_
                  refine RT.t (ob_pickAnd rfl rfl rfl id) ?_
                  refine RT.nil ?_
                  refine FinS.nil0 ?_
                  repeat (first | refine JX.next ?_ | refine JX.normal_block ?_)
                  refine J.sel [0, 3, 4, 5, 6, 7, 8, 188] (.cons rfl (.cons rfl (.cons rfl (.cons rfl (.cons rfl (.cons rfl (.cons rfl (.cons rfl .nil)))))))) ?_
                  repeat refine J.seq ?_
                  refine J.cond rfl (fun ht188 => ?_) (fun ht188 => ?_)
                  ·
                    try simp only [decide_eq_true_eq, decide_eq_false_iff_not] at ht188
                    exfalso
                    rw [ht174] at ht188; simp at ht188
                  ·
                    try simp only [decide_eq_true_eq, decide_eq_false_iff_not] at ht188
                    refine J.skip ?_
                    repeat (first | refine JX.next ?_ | refine JX.normal_block ?_)
                    repeat refine J.seq ?_
                    refine J.reg0 hmx (by kernel_rfl) (by kernel_rfl) ?_
                    refine RT.t (ob_fieldAddr fo_cadastrelaw20_Op_0 rfl) ?_
                    refine RT.t (ob_ld1 sz_int rfl rfl) ?_
                    refine RT.t (ob_geq rfl rfl) ?_
                    refine RT.t (ob_move rfl) ?_
                    refine RT.g rfl rfl rfl (fun hg => ob_fieldAddr fo_cadastrelaw20_Op_0 (.inl rfl)) ?_
                    refine RT.g rfl rfl rfl (fun hg => ob_ld1 sz_int (.inr ⟨_, rfl, fun h => h⟩) rfl) ?_
                    refine RT.g rfl rfl rfl (fun hg => ob_leq (.inr ⟨_, rfl, fun h => h⟩) (.inl rfl)) ?_
                    refine RT.t (ob_pickAnd rfl rfl rfl id) ?_
                    refine RT.t (ob_move rfl) ?_
                    refine RT.g rfl rfl rfl (fun hg => ob_move (.inl rfl)) ?_
                    refine RT.g rfl rfl rfl (fun hg => ob_not (.inr ⟨_, rfl, fun h => h⟩)) ?_
                    refine RT.t (ob_pickAnd rfl rfl rfl id) ?_
                    refine RT.t (ob_move rfl) ?_
                    refine RT.g rfl rfl rfl (fun hg => ob_move (.inl rfl)) ?_
                    refine RT.g rfl rfl rfl (fun hg => ob_neq (.inr ⟨_, rfl, fun h => h⟩) (.inl rfl)) ?_
                    refine RT.t (ob_pickAnd rfl rfl rfl id) ?_
                    refine RT.nil ?_
                    refine FinS.nil0 ?_
                    repeat (first | refine JX.next ?_ | refine JX.normal_block ?_)
                    refine J.sel [0, 3, 4, 5, 213] (.cons rfl (.cons rfl (.cons rfl (.cons rfl (.cons rfl .nil))))) ?_
                    repeat refine J.seq ?_
                    refine J.cond rfl (fun ht213 => ?_) (fun ht213 => ?_)
                    ·
                      try simp only [decide_eq_true_eq, decide_eq_false_iff_not] at ht213
                      exfalso
                      simp only [Bool.and_eq_true, decide_eq_true_eq, Bool.not_eq_true', bne_iff_ne, ne_eq] at ht213
                      obtain ⟨⟨⟨h2x, h5x⟩, hlx⟩, hex⟩ := ht213
                      first
                      | (have hk52 : (opAt ops i).k = 1 := by simpa using ht52
                         omega)
                      | (rw [hlv] at hlx; cases hlx)
                      | exact hex (read_dead hlx he).2
                      | exact hex (write_dead hlx he).2
                      | exact hex (commit_dead hlx he).2.2
                      | exact hex (abort_dead hlx he).2
                      | (simp at ht64 ht96 ht128 ht168
                         omega)
                    ·
                      try simp only [decide_eq_true_eq, decide_eq_false_iff_not] at ht213
                      refine J.skip ?_
                      repeat (first | refine JX.next ?_ | refine JX.normal_block ?_)
                      refine J.subS (List.sublist_cons_self _ _) ?_
                      repeat refine J.seq ?_
                      refine J.plain ?_
                      refine JO.t (ob_move rfl) rfl ?_
                      refine JO.t (ob_addc (cc := ((i + 1 : Nat) : Int)) rfl rfl (by omega) (by omega) (by omega)) rfl ?_
                      refine JO.t (ob_assign rfl) rfl ?_
                      refine JO.nil ?_
                      repeat refine JX.normal_block ?_
                      refine JX.roundG (x := (⟨⟨i, q, p, A, n, U⟩, B⟩ : LT × List AT)) (⟨⟨i + 1, q1, p, A1, n, U⟩, B⟩ : LT × List AT) ?_ ?_ [0, 3, 4, 5] ?_ ?_ ?_ ?_
                      · exact (⟨by simp only; omega, hq1, hT, by rw [(abort_dead ht174 he).1]; exact hSR, (hBA1.mono (Nat.le_refl _) (Nat.le_succ _)), (hBB.mono (Nat.le_refl _) (Nat.le_succ _)), by simp only; omega⟩)
                      · exact (by simp only; omega)
                      · exact (.cons rfl (.cons rfl (.cons rfl (.cons rfl .nil))))
                      · repeat (first | exact .all | exact .nil | refine Has.own (by repeat (first | exact .here | apply Tl.past | apply Tl.there)) ?_ | refine Has.cons (by repeat (first | exact .here | apply Pk.past | apply Pk.there)) ?_)
                      · exact fun G hG => by repeat (first | exact hG | refine List.mem_cons_of_mem _ ?_)
                      · exact (fun E0 w0 hG => hG _ (by repeat (first | exact List.mem_cons_self | apply List.mem_cons_of_mem)))
              ·
                try simp only [decide_eq_true_eq, decide_eq_false_iff_not] at ht168
                refine J.skip ?_
                repeat (first | refine JX.next ?_ | refine JX.normal_block ?_)
                repeat refine J.seq ?_
                refine J.reg0 hmx (by kernel_rfl) (by kernel_rfl) ?_
                refine RT.t (ob_move rfl) ?_
                refine RT.t (ob_move rfl) ?_
                refine RT.g rfl rfl rfl (fun hg => ob_move (.inl rfl)) ?_
                refine RT.g rfl rfl rfl (fun hg => ob_neq (.inr ⟨_, rfl, fun h => h⟩) (.inl rfl)) ?_
                refine RT.t (ob_pickAnd rfl rfl rfl id) ?_
                refine RT.nil ?_
                refine FinS.nil0 ?_
                repeat (first | refine JX.next ?_ | refine JX.normal_block ?_)
                refine J.sel [0, 3, 4, 5, 6, 7, 8, 188] (.cons rfl (.cons rfl (.cons rfl (.cons rfl (.cons rfl (.cons rfl (.cons rfl (.cons rfl .nil)))))))) ?_
                repeat refine J.seq ?_
                refine J.cond rfl (fun ht188 => ?_) (fun ht188 => ?_)
                ·
                  try simp only [decide_eq_true_eq, decide_eq_false_iff_not] at ht188
                  exfalso
                  simp at ht188
                ·
                  try simp only [decide_eq_true_eq, decide_eq_false_iff_not] at ht188
                  refine J.skip ?_
                  repeat (first | refine JX.next ?_ | refine JX.normal_block ?_)
                  repeat refine J.seq ?_
                  refine J.reg0 hmx (by kernel_rfl) (by kernel_rfl) ?_
                  refine RT.t (ob_fieldAddr fo_cadastrelaw20_Op_0 rfl) ?_
                  refine RT.t (ob_ld1 sz_int rfl rfl) ?_
                  refine RT.t (ob_geq rfl rfl) ?_
                  refine RT.t (ob_move rfl) ?_
                  refine RT.g rfl rfl rfl (fun hg => ob_fieldAddr fo_cadastrelaw20_Op_0 (.inl rfl)) ?_
                  refine RT.g rfl rfl rfl (fun hg => ob_ld1 sz_int (.inr ⟨_, rfl, fun h => h⟩) rfl) ?_
                  refine RT.g rfl rfl rfl (fun hg => ob_leq (.inr ⟨_, rfl, fun h => h⟩) (.inl rfl)) ?_
                  refine RT.t (ob_pickAnd rfl rfl rfl id) ?_
                  refine RT.t (ob_move rfl) ?_
                  refine RT.g rfl rfl rfl (fun hg => ob_move (.inl rfl)) ?_
                  refine RT.g rfl rfl rfl (fun hg => ob_not (.inr ⟨_, rfl, fun h => h⟩)) ?_
                  refine RT.t (ob_pickAnd rfl rfl rfl id) ?_
                  refine RT.t (ob_move rfl) ?_
                  refine RT.g rfl rfl rfl (fun hg => ob_move (.inl rfl)) ?_
                  refine RT.g rfl rfl rfl (fun hg => ob_neq (.inr ⟨_, rfl, fun h => h⟩) (.inl rfl)) ?_
                  refine RT.t (ob_pickAnd rfl rfl rfl id) ?_
                  refine RT.nil ?_
                  refine FinS.nil0 ?_
                  repeat (first | refine JX.next ?_ | refine JX.normal_block ?_)
                  refine J.sel [0, 3, 4, 5, 213] (.cons rfl (.cons rfl (.cons rfl (.cons rfl (.cons rfl .nil))))) ?_
                  repeat refine J.seq ?_
                  refine J.cond rfl (fun ht213 => ?_) (fun ht213 => ?_)
                  ·
                    try simp only [decide_eq_true_eq, decide_eq_false_iff_not] at ht213
                    exfalso
                    simp only [Bool.and_eq_true, decide_eq_true_eq, Bool.not_eq_true', bne_iff_ne, ne_eq] at ht213
                    obtain ⟨⟨⟨h2x, h5x⟩, hlx⟩, hex⟩ := ht213
                    first
                    | (have hk52 : (opAt ops i).k = 1 := by simpa using ht52
                       omega)
                    | (rw [hlv] at hlx; cases hlx)
                    | exact hex (read_dead hlx he).2
                    | exact hex (write_dead hlx he).2
                    | exact hex (commit_dead hlx he).2.2
                    | exact hex (abort_dead hlx he).2
                    | (simp at ht64 ht96 ht128 ht168
                       omega)
                  ·
                    try simp only [decide_eq_true_eq, decide_eq_false_iff_not] at ht213
                    refine J.skip ?_
                    repeat (first | refine JX.next ?_ | refine JX.normal_block ?_)
                    refine J.subS (List.sublist_cons_self _ _) ?_
                    repeat refine J.seq ?_
                    refine J.plain ?_
                    refine JO.t (ob_move rfl) rfl ?_
                    refine JO.t (ob_addc (cc := ((i + 1 : Nat) : Int)) rfl rfl (by omega) (by omega) (by omega)) rfl ?_
                    refine JO.t (ob_assign rfl) rfl ?_
                    refine JO.nil ?_
                    repeat refine JX.normal_block ?_
                    refine JX.roundG (x := (⟨⟨i, q, p, A, n, U⟩, B⟩ : LT × List AT)) (⟨⟨i + 1, q, p, A, n, U⟩, B⟩ : LT × List AT) ?_ ?_ [0, 3, 4, 5] ?_ ?_ ?_ ?_
                    · exact (⟨by simp only; omega, hS, hT, hSR, (hBA.mono (Nat.le_refl _) (Nat.le_succ _)), (hBB.mono (Nat.le_refl _) (Nat.le_succ _)), by simp only; omega⟩)
                    · exact (by simp only; omega)
                    · exact (.cons rfl (.cons rfl (.cons rfl (.cons rfl .nil))))
                    · repeat (first | exact .all | exact .nil | refine Has.own (by repeat (first | exact .here | apply Tl.past | apply Tl.there)) ?_ | refine Has.cons (by repeat (first | exact .here | apply Pk.past | apply Pk.there)) ?_)
                    · exact fun G hG => by repeat (first | exact hG | refine List.mem_cons_of_mem _ ?_)
                    · exact (fun E0 w0 hG => hG _ (by repeat (first | exact List.mem_cons_self | apply List.mem_cons_of_mem)))
    ·
      try simp only [decide_eq_true_eq, decide_eq_false_iff_not] at ht17
      repeat refine J.seq ?_
      refine J.exit ?_
      repeat (first | refine JX.hit ?_ | refine JX.miss rfl ?_ | refine JX.exit_pass ?_)
      repeat (first | refine JX.next ?_ | refine JX.normal_block ?_)
      repeat refine J.seq ?_
      refine J.plain ?_
      refine JO.t (ob_move rfl) rfl ?_
      refine JO.callK (Lr := (q.L b ba)) (c_law20_order b13 p B n (wsO ops) hT (hBB.rm (by omega) (by omega)) (ser_ok hS.ok hSR)) rfl (.refl _) (one_in (by repeat (first | exact List.mem_cons_self | apply List.mem_cons_of_mem))) (.one rfl .nil) ?_
      rintro - -
      try dsimp only
      refine JO.t (ob_assign rfl) rfl ?_
      refine JO.nil ?_
      repeat (first | refine JX.next ?_ | refine JX.normal_block ?_)
      refine J.sel [2] (.cons rfl .nil) ?_
      repeat refine J.seq ?_
      refine J.ret ?_
      repeat (first | refine JX.ret_pass ?_ | refine JX.ret_block ?_)
      exact JX.retL1 (L1 := fun _ : Unit => []) (R := fun _ => .is (.bool true)) rfl () trivial (pm_nil _) rfl rfl hb0 rfl (Sub.isEq (rfl))
end Go.Proofs.Ytggmifnkgcladaa
