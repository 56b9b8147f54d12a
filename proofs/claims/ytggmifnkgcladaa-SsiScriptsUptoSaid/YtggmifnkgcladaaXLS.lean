/- SsiScripts: its walk. No condition. -/
import Derived.Test.YtggmifnkgcladaaXOQ
set_option maxRecDepth 20000
namespace Go.Proofs.Ytggmifnkgcladaa
open Go Go.Vc
open Go.Si Go.Vl
theorem c_law20_SsiScripts (ops : List OpA) (hops : ScB ops) : CallL Try.prog f_law20_SsiScripts [] [] [.rep (ScR ops)] (fun _ : Unit => True) (fun _ => []) (fun _ => .is (.bool true)) :=
CallL.of (fn := Try.f3) Try.func3 (n := 118) rfl rfl rfl (fun _ _ => by kernel_rfl) fun E W hb0 => by
  refine J.openSc (s := 0) rfl (fun a cap b0 o0 ha => ?_)
  have hlen := hops.len
  repeat refine J.seq ?_
  refine J.plain ?_
  refine JO.t (ob_assign rfl) rfl ?_
  refine JO.nil ?_
  repeat (first | refine JX.next ?_ | refine JX.normal_block ?_)
  refine J.sel [0] (.cons rfl .nil) ?_
  repeat refine J.seq ?_
  refine J.plain ?_
  refine JO.callK (Lr := []) (c_law20_awake) rfl (.refl _) none_in .nil ?_
  rintro - -
  try dsimp only
  refine JO.t (ob_not rfl) rfl ?_
  refine JO.nil ?_
  repeat (first | refine JX.next ?_ | refine JX.normal_block ?_)
  refine J.sel [0, 13] (.cons rfl (.cons rfl .nil)) ?_
  repeat refine J.seq ?_
  refine J.cond rfl (fun ht13 => ?_) (fun ht13 => ?_)
  ·
    try simp only [decide_eq_true_eq, decide_eq_false_iff_not] at ht13
    exfalso
    cases ht13
  ·
    try simp only [decide_eq_true_eq, decide_eq_false_iff_not] at ht13
    refine J.skip ?_
    repeat (first | refine JX.next ?_ | refine JX.normal_block ?_)
    repeat refine J.seq ?_
    refine J.plain ?_
    refine JO.t (ob_assign rfl) rfl ?_
    refine JO.nil ?_
    repeat (first | refine JX.next ?_ | refine JX.normal_block ?_)
    refine J.sel [0, 3] (.cons rfl (.cons rfl .nil)) ?_
    refine J.fact (WrF []) (fun E0 w0 _ _ => fun w1 hk v hv => by cases hv) ?_
    repeat refine J.seq ?_
    refine J.plain ?_
    refine JO.callK (Lr := []) (k_New) rfl (.refl _) none_in .nil ?_
    rintro ⟨b, ba⟩ -
    try dsimp only
    refine JO.t (ob_assign rfl) rfl ?_
    refine JO.nil ?_
    repeat (first | refine JX.next ?_ | refine JX.normal_block ?_)
    refine J.sel [0, 3, 4] (.cons rfl (.cons rfl (.cons rfl .nil))) ?_
    repeat refine J.seq ?_
    refine J.plain ?_
    refine JO.t (ob_build (cs := [_, _]) sh_cadastreref20_Set .nil rfl rfl) rfl ?_
    refine JO.box rfl rfl fun b16 => ?_
    refine JO.t (ob_assign rfl) rfl ?_
    refine JO.nil ?_
    repeat (first | refine JX.next ?_ | refine JX.normal_block ?_)
    refine J.sel [0, 3, 4, 5] (.cons rfl (.cons rfl (.cons rfl (.cons rfl .nil)))) ?_
    repeat refine J.seq ?_
    refine J.plain ?_
    refine JO.t (ob_assign rfl) rfl ?_
    refine JO.nil ?_
    repeat (first | refine JX.next ?_ | refine JX.normal_block ?_)
    refine J.sel [0, 3, 4, 5, 6] (.cons rfl (.cons rfl (.cons rfl (.cons rfl (.cons rfl .nil))))) ?_
    repeat refine J.seq ?_
    refine J.block ?_
    repeat refine J.seq ?_
    have hP0 : ((SS.L ⟨0, 0, 0, []⟩ b ba ++ RS.L ⟨0, none, 0, []⟩ b16) ++ []).Perm (RS.L ⟨0, none, 0, []⟩ b16 ++ (SS.L ⟨0, 0, 0, []⟩ b ba ++ [])) := by
      simp only [List.append_nil]; exact List.perm_append_comm
    refine J.subP hP0 ?_
    refine J.loopH (α := LT) (fun s => [(0, _), (3, .is (.pointer none)), (4, .is (.pointer (some ⟨b, 0, none⟩))), (5, .is (.pointer (some ⟨b16, 0, none⟩))), (6, .is (.int .i64 (s.i : Nat)))]) (fun s => (s.q.L b ba ++ s.p.L b16) ++ []) (fun s => WrF s.U) (fun s => s.i ≤ ops.length ∧ SRel s.q s.A s.n s.U ∧ RRl s.p s.A s.n (wsO ops) ∧ Bd s.A 60 s.i ∧ s.n ≤ s.i) (fun s => ops.length - s.i) ⟨0, ⟨0, 0, 0, []⟩, ⟨0, none, 0, []⟩, [], 0, []⟩ [0, 3, 4, 5, 6] (.cons rfl (.cons rfl (.cons rfl (.cons rfl (.cons rfl .nil))))) rfl (fun E0 w0 hG => hG _ (by repeat (first | exact List.mem_cons_self | apply List.mem_cons_of_mem))) ⟨Nat.zero_le _, SRel.new, RRl.new, Bd.nil.mono (by omega) (Nat.le_refl _), Nat.le_refl _⟩ fun ⟨i, q, p, A, n, U⟩ ⟨hi, hS, hT, hB, hn⟩ => ?_
    try dsimp only
    try dsimp only at q
    try dsimp only at p
    try dsimp only at A
    try dsimp only at n
    try dsimp only at U
    try dsimp only at hi
    try dsimp only at hS
    try dsimp only at hT
    try dsimp only at hB
    try dsimp only at hn
    repeat refine J.seq ?_
    refine J.plain ?_
    refine JO.t (ob_move rfl) rfl ?_
    refine JO.t (ob_move rfl) rfl ?_
    refine JO.t (ob_len un_sl_cadastrelaw20_Op rfl) rfl ?_
    refine JO.t (ob_lss rfl rfl) rfl ?_
    refine JO.nil ?_
    repeat (first | refine JX.next ?_ | refine JX.normal_block ?_)
    refine J.sel [0, 3, 4, 5, 6, 20] (.cons rfl (.cons rfl (.cons rfl (.cons rfl (.cons rfl (.cons rfl .nil)))))) ?_
    repeat refine J.seq ?_
    refine J.cond rfl (fun ht20 => ?_) (fun ht20 => ?_)
    ·
      try simp only [decide_eq_true_eq, decide_eq_false_iff_not] at ht20
      refine J.skip ?_
      repeat (first | refine JX.next ?_ | refine JX.normal_block ?_)
      repeat refine J.seq ?_
      refine J.block ?_
      have hlt : i < ops.length := by omega
      repeat refine J.seq ?_
      refine J.reg0 hmx (by kernel_rfl) (by kernel_rfl) ?_
      refine RT.t (ob_move rfl) ?_
      refine RT.t (ob_move rfl) ?_
      refine RT.t (ob_indexAddr el_sl_cadastrelaw20_Op rfl (ha (by omega)) rfl (by omega) (by omega)) ?_
      refine RT.t (ob_fieldAddr fo_cadastrelaw20_Op_0 rfl) ?_
      refine RT.t (ob_loadG1 (enc := OpA.cells) (sz := 13) (i := i) (j := 0) (y := opAt ops i) (u := .int .i64 (opAt ops i).k) sz_int rfl (by repeat (first | exact List.mem_cons_self | apply List.mem_cons_of_mem)) (ha (by omega)) (opAt_get (by omega)) (by omega) rfl) ?_
      refine RT.t (ob_eql rfl rfl) ?_
      refine RT.t (ob_move rfl) ?_
      refine RT.g rfl rfl rfl (fun hg => ob_move (.inl rfl)) ?_
      refine RT.g rfl rfl rfl (fun hg => ob_nilCheck (.inr ⟨_, rfl, fun h => h⟩)) ?_
      refine RT.g rfl rfl rfl (fun hg => ob_fieldAddr fo_cadastreref20_Set_0 (.inr ⟨_, rfl, fun h => h⟩)) ?_
      refine RT.g rfl rfl rfl (fun hg => ob_ld1 sz_sl_cadastreref20_Tx (.inr ⟨_, rfl, fun h => h⟩) (hm := ⟨List.mem_append_left _ (List.mem_append_right _ List.mem_cons_self)⟩) rfl) ?_
      refine RT.g rfl rfl rfl (fun hg => ob_lenO un_sl_cadastreref20_Tx (.inr ⟨_, rfl, fun h => h⟩) (grows_none hT.wf.g)) ?_
      refine RT.g rfl rfl rfl (fun hg => ob_geq (.inr ⟨_, rfl, fun h => h⟩) (.inl rfl)) ?_
      refine RT.t (ob_pickAnd rfl rfl rfl id) ?_
      refine RT.nil ?_
      refine FinS.nil0 ?_
      repeat (first | refine JX.next ?_ | refine JX.normal_block ?_)
      refine J.sel [0, 3, 4, 5, 6, 36] (.cons rfl (.cons rfl (.cons rfl (.cons rfl (.cons rfl (.cons rfl .nil)))))) ?_
      repeat refine J.seq ?_
      refine J.cond rfl (fun ht36 => ?_) (fun ht36 => ?_)
      ·
        try simp only [decide_eq_true_eq, decide_eq_false_iff_not] at ht36
        repeat refine J.seq ?_
        refine J.exit ?_
        repeat (first | refine JX.hit ?_ | refine JX.miss rfl ?_ | refine JX.exit_pass ?_)
        repeat (first | refine JX.next ?_ | refine JX.normal_block ?_)
        repeat refine J.seq ?_
        refine J.plain ?_
        refine JO.t (ob_move rfl) rfl ?_
        refine JO.t (ob_addc (cc := ((i + 1 : Nat) : Int)) rfl rfl (by omega) (by omega) (by omega)) rfl ?_
        refine JO.t (ob_assign rfl) rfl ?_
        refine JO.nil ?_
        repeat refine JX.normal_block ?_
        refine JX.roundG (x := (⟨i, q, p, A, n, U⟩ : LT)) (⟨i + 1, q, p, A, n, U⟩ : LT) ?_ ?_ [0, 3, 4, 5, 6] ?_ ?_ ?_ ?_
        · exact ⟨by simp only; omega, hS, hT, hB.mono (Nat.le_refl _) (Nat.le_succ _), by simp only; omega⟩
        · exact (by simp only; omega)
        · exact (.cons rfl (.cons rfl (.cons rfl (.cons rfl (.cons rfl .nil)))))
        · repeat (first | exact .all | exact .nil | refine Has.own (by repeat (first | exact .here | apply Tl.past | apply Tl.there)) ?_ | refine Has.cons (by repeat (first | exact .here | apply Pk.past | apply Pk.there)) ?_)
        · exact fun G hG => by repeat (first | exact hG | refine List.mem_cons_of_mem _ ?_)
        · exact (fun E0 w0 hG => hG _ (by repeat (first | exact List.mem_cons_self | apply List.mem_cons_of_mem)))
      ·
        try simp only [decide_eq_true_eq, decide_eq_false_iff_not] at ht36
        refine J.skip ?_
        repeat (first | refine JX.next ?_ | refine JX.normal_block ?_)
        have hk60 : (opAt ops i).k = 1 → A.length < 60 := fun hk => by
          have := hT.len
          simp [hk] at ht36
          omega
        obtain ⟨A1, n1, e1, he⟩ : ∃ A1 n1 e1, opA A n (opAt ops i) = (A1, n1, e1) := ⟨_, _, _, rfl⟩
        have hB1 := opA_bd (n := n) hB hk60
        rw [he] at hB1
        have hn1 : n1 ≤ n + 1 := by have := opA_sp (A := A) (n := n) (o := (opAt ops i)); rw [he] at this; exact this
        repeat refine J.seq ?_
        refine J.plain ?_
        refine JO.t (ob_move rfl) rfl ?_
        refine JO.t (ob_move rfl) rfl ?_
        refine JO.t (ob_move rfl) rfl ?_
        refine JO.t (ob_move rfl) rfl ?_
        refine JO.t (ob_indexAddr el_sl_cadastrelaw20_Op rfl (ha (by omega)) rfl (by omega) (by omega)) rfl ?_
        refine JO.t (ob_loadG (enc := OpA.cells) (sz := 13) (i := i) (y := (opAt ops i)) (cs := OpA.cells (opAt ops i)) sz_cadastrelaw20_Op rfl (by repeat (first | exact List.mem_cons_self | apply List.mem_cons_of_mem)) (ha (by omega)) (opAt_get (by omega)) (by omega) rfl) rfl ?_
        refine JO.callK (Lr := []) (c_law20_one (opAt ops i) (wsO ops) (opAt_w (by omega)) (hops.o _ (opAt_mem (by omega))) (hops.n _ (opAt_mem (by omega))) _ _ e1 _ SS RS _ _ _ _ _ _ _ _ (oneS_real (b := b) (ba := ba) hS (hB.rm (by omega) (by omega)) (by have := hops.len; omega) (hops.o _ (opAt_mem (by omega))) (hops.n _ (opAt_mem (by omega))) he) (oneT_real (b := b16) hT (hB.rm (by omega) (by omega)) (by have := hops.len; omega) (opAt_w (by omega)) he)) rfl (.refl _) (fun F h => by
          rcases List.mem_append.1 h with h | h
          · exact one_in (by repeat (first | exact List.mem_cons_self | apply List.mem_cons_of_mem)) F h
          · rcases List.mem_append.1 h with h | h
            · exact one_in (by repeat (first | exact List.mem_cons_self | apply List.mem_cons_of_mem)) F h
            · exact one_in (by repeat (first | exact List.mem_cons_self | apply List.mem_cons_of_mem)) F h) (.one rfl (.one rfl (.one rfl .nil))) ?_
        rintro ⟨⟨q1, x1⟩, p1⟩ ⟨hS1, hT1⟩
        try dsimp only
        refine JO.open_ (s := 44) (R := OneR e1 x1) rfl ?_
        rintro _ ⟨_, rfl, _⟩
        refine JO.fact (WrF (x1 :: U)) (fun E0 w0 hG _ => one_more (e := e1) hG List.mem_cons_self (by repeat (first | exact List.mem_cons_self | apply List.mem_cons_of_mem))) ?_
        refine JO.t (ob_move rfl) rfl ?_
        refine JO.t (ob_exI rfl rfl) rfl ?_
        refine JO.t (ob_exI rfl rfl) rfl ?_
        refine JO.t (ob_assign rfl) rfl ?_
        refine JO.t (ob_assign rfl) rfl ?_
        refine JO.nil ?_
        repeat (first | refine JX.next ?_ | refine JX.normal_block ?_)
        refine J.sel [0, 3, 4, 5, 6, 7, 8] (.cons rfl (.cons rfl (.cons rfl (.cons rfl (.cons rfl (.cons rfl (.cons rfl .nil))))))) ?_
        repeat refine J.seq ?_
        refine J.plain ?_
        refine JO.t (ob_move rfl) rfl ?_
        refine JO.t (ob_move rfl) rfl ?_
        refine JO.t (ob_move rfl) rfl ?_
        refine JO.t (ob_indexAddr el_sl_cadastrelaw20_Op rfl (ha (by omega)) rfl (by omega) (by omega)) rfl ?_
        refine JO.t (ob_loadG (enc := OpA.cells) (sz := 13) (i := i) (y := (opAt ops i)) (cs := OpA.cells (opAt ops i)) sz_cadastrelaw20_Op rfl (by repeat (first | exact List.mem_cons_self | apply List.mem_cons_of_mem)) (ha (by omega)) (opAt_get (by omega)) (by omega) rfl) rfl ?_
        refine JO.callK (Lr := ((q1.L b ba ++ p1.L b16) ++ [])) (k_none (opAt ops i) (wsO ops) (opAt_w (by omega)) (hops.o _ (opAt_mem (by omega))) (hops.n _ (opAt_mem (by omega)))) rfl (pm_nil _) (one_in (by repeat (first | exact List.mem_cons_self | apply List.mem_cons_of_mem))) (.one rfl (.one rfl (.one rfl .nil))) ?_
        rintro - -
        try dsimp only
        refine JO.t (ob_move rfl) rfl ?_
        refine JO.t (ob_exI rfl rfl) rfl ?_
        refine JO.t (ob_exI rfl rfl) rfl ?_
        refine JO.t (ob_assign rfl) rfl ?_
        refine JO.t (ob_assign rfl) rfl ?_
        refine JO.nil ?_
        repeat (first | refine JX.next ?_ | refine JX.normal_block ?_)
        refine J.sel [0, 3, 4, 5, 6, 7, 8, 9, 10] (.cons rfl (.cons rfl (.cons rfl (.cons rfl (.cons rfl (.cons rfl (.cons rfl (.cons rfl (.cons rfl .nil))))))))) ?_
        refine J.subP (L' := (q1.L b ba ++ p1.L b16) ++ []) (pm_nil _) ?_
        refine J.nodup fun hnd => ?_
        have hndS : ((q1.L b ba).map (·.b)).Nodup := (((List.sublist_append_left _ _).trans (List.sublist_append_left _ _)).map _).nodup hnd
        have hndR : ((p1.L b16).map (·.b)).Nodup := (((List.sublist_append_right _ _).trans (List.sublist_append_left _ _)).map _).nodup hnd
        repeat refine J.seq ?_
        refine J.reg0 hmx (by kernel_rfl) (by kernel_rfl) ?_
        refine RT.t (ob_move rfl) ?_
        refine RT.t (ob_move rfl) ?_
        refine RT.t (ob_neq rfl rfl) ?_
        refine RT.t (ob_move rfl) ?_
        refine RT.g rfl rfl rfl (fun hg => ob_move (.inl rfl)) ?_
        refine RT.g rfl rfl rfl (fun hg => ob_move (.inl rfl)) ?_
        refine RT.g rfl rfl rfl (fun hg => ob_neq (.inr ⟨_, rfl, fun h => h⟩) (.inr ⟨_, rfl, fun h => h⟩)) ?_
        refine RT.t (ob_pickOr rfl rfl rfl id) ?_
        refine RT.t (ob_move rfl) ?_
        refine RT.g rfl rfl rfl (fun hg => ob_move (.inl rfl)) ?_
        refine RT.g rfl rfl rfl (fun hg => ob_callB (.inl rfl) (k_Kept hS1 (hB1.rm (by omega) (by omega)) rfl) q1.ob (fun o1 ho => List.mem_append_left _ (List.mem_append_left _ ho)) (fun _ _ _ => hndS) none_in (.one (.inr ⟨_, rfl, fun h => h⟩) .nil)) ?_
        refine RT.g rfl rfl rfl (fun hg => ob_move (.inl rfl)) ?_
        refine RT.g rfl rfl rfl (fun hg => ob_callB (.inl rfl) (r_Kept hT1 (hB1.rm (by omega) (by omega))) p1.ob (fun o1 ho => List.mem_append_left _ (List.mem_append_right _ ho)) (fun _ _ _ => hndR) none_in (.one (.inr ⟨_, rfl, fun h => h⟩) .nil)) ?_
        refine RT.g rfl rfl rfl (fun hg => ob_neq (.inr ⟨_, rfl, fun h => h⟩) (.inr ⟨_, rfl, fun h => h⟩)) ?_
        refine RT.t (ob_pickOr rfl rfl rfl id) ?_
        refine RT.t (ob_move rfl) ?_
        refine RT.g rfl rfl rfl (fun hg => ob_move (.inl rfl)) ?_
        refine RT.g rfl rfl rfl (fun hg => ob_move (.inl rfl)) ?_
        refine RT.g rfl rfl rfl (fun hg => ob_move (.inl rfl)) ?_
        refine RT.g rfl rfl rfl (fun hg => ob_indexAddr el_sl_cadastrelaw20_Op (.inr ⟨_, rfl, fun h => h⟩) (ha (by omega)) (.inr ⟨_, rfl, fun h => h⟩) (by omega) (by omega)) ?_
        refine RT.g rfl rfl rfl (fun hg => ob_fieldAddr fo_cadastrelaw20_Op_1 (.inr ⟨_, rfl, fun h => h⟩)) ?_
        refine RT.g rfl rfl rfl (fun hg => ob_loadG1 (enc := OpA.cells) (sz := 13) (i := i) (j := 1) (y := opAt ops i) (u := .int .i64 (opAt ops i).t) sz_int (.inr ⟨_, rfl, fun h => h⟩) (by repeat (first | exact List.mem_cons_self | apply List.mem_cons_of_mem)) (ha (by omega)) (opAt_get (by omega)) (by omega) rfl) ?_
        refine RT.g rfl rfl rfl (fun hg => ob_callB (.inl rfl) (k_Pivot hS1 (opAt ops i).t rfl) q1.ob (fun o1 ho => List.mem_append_left _ (List.mem_append_left _ ho)) (fun _ _ _ => hndS) none_in (.one (.inr ⟨_, rfl, fun h => h⟩) (.one (.inr ⟨_, rfl, fun h => h⟩) .nil))) ?_
        refine RT.g rfl rfl rfl (fun hg => ob_move (.inl rfl)) ?_
        refine RT.g rfl rfl rfl (fun hg => ob_move (.inl rfl)) ?_
        refine RT.g rfl rfl rfl (fun hg => ob_move (.inl rfl)) ?_
        refine RT.g rfl rfl rfl (fun hg => ob_indexAddr el_sl_cadastrelaw20_Op (.inr ⟨_, rfl, fun h => h⟩) (ha (by omega)) (.inr ⟨_, rfl, fun h => h⟩) (by omega) (by omega)) ?_
        refine RT.g rfl rfl rfl (fun hg => ob_fieldAddr fo_cadastrelaw20_Op_1 (.inr ⟨_, rfl, fun h => h⟩)) ?_
        refine RT.g rfl rfl rfl (fun hg => ob_loadG1 (enc := OpA.cells) (sz := 13) (i := i) (j := 1) (y := opAt ops i) (u := .int .i64 (opAt ops i).t) sz_int (.inr ⟨_, rfl, fun h => h⟩) (by repeat (first | exact List.mem_cons_self | apply List.mem_cons_of_mem)) (ha (by omega)) (opAt_get (by omega)) (by omega) rfl) ?_
        refine RT.g rfl rfl rfl (fun hg => ob_callB (.inl rfl) (r_Pivot hT1 (hB1.rm (by omega) (by omega)) (opAt ops i).t) p1.ob (fun o1 ho => List.mem_append_left _ (List.mem_append_right _ ho)) (fun _ _ _ => hndR) (one_in (by repeat (first | exact List.mem_cons_self | apply List.mem_cons_of_mem))) (.one (.inr ⟨_, rfl, fun h => h⟩) (.one (.inr ⟨_, rfl, fun h => h⟩) .nil))) ?_
        refine RT.g rfl rfl rfl (fun hg => ob_bneq un_bool (.inr ⟨_, rfl, fun h => h⟩) (.inr ⟨_, rfl, fun h => h⟩)) ?_
        refine RT.t (ob_pickOr rfl rfl rfl id) ?_
        refine RT.nil ?_
        refine FinS.nil0 ?_
        repeat (first | refine JX.next ?_ | refine JX.normal_block ?_)
        refine J.sel [0, 3, 4, 5, 6, 87] (.cons rfl (.cons rfl (.cons rfl (.cons rfl (.cons rfl (.cons rfl .nil)))))) ?_
        repeat refine J.seq ?_
        refine J.cond rfl (fun ht87 => ?_) (fun ht87 => ?_)
        ·
          try simp only [decide_eq_true_eq, decide_eq_false_iff_not] at ht87
          exfalso
          simp at ht87
        ·
          try simp only [decide_eq_true_eq, decide_eq_false_iff_not] at ht87
          refine J.skip ?_
          repeat (first | refine JX.next ?_ | refine JX.normal_block ?_)
          repeat refine J.seq ?_
          refine J.plain ?_
          refine JO.t (ob_move rfl) rfl ?_
          refine JO.t (ob_addc (cc := ((i + 1 : Nat) : Int)) rfl rfl (by omega) (by omega) (by omega)) rfl ?_
          refine JO.t (ob_assign rfl) rfl ?_
          refine JO.nil ?_
          repeat refine JX.normal_block ?_
          refine JX.roundG (x := (⟨i, q, p, A, n, U⟩ : LT)) (⟨i + 1, q1, p1, A1, n1, x1 :: U⟩ : LT) ?_ ?_ [0, 3, 4, 5, 6] ?_ ?_ ?_ ?_
          · exact ⟨by simp only; omega, hS1, hT1, hB1, by simp only; omega⟩
          · exact (by simp only; omega)
          · exact (.cons rfl (.cons rfl (.cons rfl (.cons rfl (.cons rfl .nil)))))
          · repeat (first | exact .all | exact .nil | refine Has.own (by repeat (first | exact .here | apply Tl.past | apply Tl.there)) ?_ | refine Has.cons (by repeat (first | exact .here | apply Pk.past | apply Pk.there)) ?_)
          · exact fun G hG => by repeat (first | exact hG | refine List.mem_cons_of_mem _ ?_)
          · exact (fun E0 w0 hG => hG _ (by repeat (first | exact List.mem_cons_self | apply List.mem_cons_of_mem)))
    ·
      try simp only [decide_eq_true_eq, decide_eq_false_iff_not] at ht20
      repeat refine J.seq ?_
      refine J.exit ?_
      repeat (first | refine JX.hit ?_ | refine JX.miss rfl ?_ | refine JX.exit_pass ?_)
      repeat (first | refine JX.next ?_ | refine JX.normal_block ?_)
      repeat refine J.seq ?_
      refine J.plain ?_
      refine JO.t (ob_assign rfl) rfl ?_
      refine JO.nil ?_
      repeat (first | refine JX.next ?_ | refine JX.normal_block ?_)
      refine J.sel [3, 4, 5, 11] (.cons rfl (.cons rfl (.cons rfl (.cons rfl .nil)))) ?_
      repeat refine J.seq ?_
      refine J.block ?_
      repeat refine J.seq ?_
      have hTl := hT.len
      have hBl := hB.len
      refine J.loopG (α := Nat) (fun t => [(3, .is (.pointer none)), (4, .is (.pointer (some ⟨b, 0, none⟩))), (5, .is (.pointer (some ⟨b16, 0, none⟩))), (11, .is (.int .i64 (t : Nat)))]) (fun t => (q.L b ba ++ p.L b16) ++ []) (fun t => fun _ => True) (fun t => t ≤ A.length + 2) (fun t => A.length + 2 - t) 0 [3, 4, 5, 11] (.cons rfl (.cons rfl (.cons rfl (.cons rfl .nil)))) rfl (fun _ => trivial) (Nat.zero_le _) fun t ht => ?_
      try dsimp only
      try dsimp only at ht
      repeat refine J.seq ?_
      refine J.plain ?_
      refine JO.t (ob_move rfl) rfl ?_
      refine JO.t (ob_move rfl) rfl ?_
      refine JO.t (ob_nilCheck rfl) rfl ?_
      refine JO.t (ob_fieldAddr fo_cadastreref20_Set_0 rfl) rfl ?_
      refine JO.t (ob_ld1 sz_sl_cadastreref20_Tx rfl (hm := ⟨List.mem_append_left _ (List.mem_append_right _ List.mem_cons_self)⟩) rfl) rfl ?_
      refine JO.t (ob_lenO un_sl_cadastreref20_Tx rfl (grows_none hT.wf.g)) rfl ?_
      refine JO.t (ob_addc (cc := ((p.xs.length + 1 : Nat) : Int)) rfl rfl (by omega) (by omega) (by have := hT.len; have := hB.len; omega)) rfl ?_
      refine JO.t (ob_leq rfl rfl) rfl ?_
      refine JO.nil ?_
      repeat (first | refine JX.next ?_ | refine JX.normal_block ?_)
      refine J.sel [3, 4, 5, 11, 95] (.cons rfl (.cons rfl (.cons rfl (.cons rfl (.cons rfl .nil))))) ?_
      repeat refine J.seq ?_
      refine J.cond rfl (fun ht95 => ?_) (fun ht95 => ?_)
      ·
        try simp only [decide_eq_true_eq, decide_eq_false_iff_not] at ht95
        refine J.skip ?_
        repeat (first | refine JX.next ?_ | refine JX.normal_block ?_)
        repeat refine J.seq ?_
        refine J.block ?_
        refine J.nodup fun hnd => ?_
        have hndS : ((q.L b ba).map (·.b)).Nodup := (((List.sublist_append_left _ _).trans (List.sublist_append_left _ _)).map _).nodup hnd
        have hndR : ((p.L b16).map (·.b)).Nodup := (((List.sublist_append_right _ _).trans (List.sublist_append_left _ _)).map _).nodup hnd
        repeat refine J.seq ?_
        refine J.plain ?_
        refine JO.t (ob_move rfl) rfl ?_
        refine JO.t (ob_move rfl) rfl ?_
        refine JO.t (ob_callB rfl (k_Pivot hS (t : Int) rfl) q.ob (fun o1 ho => List.mem_append_left _ (List.mem_append_left _ ho)) (fun _ _ _ => hndS) none_in (.one rfl (.one rfl .nil))) rfl ?_
        refine JO.t (ob_move rfl) rfl ?_
        refine JO.t (ob_move rfl) rfl ?_
        refine JO.t (ob_callB rfl (r_Pivot hT (hB.rm (by omega) (by omega)) (t : Int)) p.ob (fun o1 ho => List.mem_append_left _ (List.mem_append_right _ ho)) (fun _ _ _ => hndR) (one_in (by repeat (first | exact List.mem_cons_self | apply List.mem_cons_of_mem))) (.one rfl (.one rfl .nil))) rfl ?_
        refine JO.t (ob_bneq un_bool rfl rfl) rfl ?_
        refine JO.nil ?_
        repeat (first | refine JX.next ?_ | refine JX.normal_block ?_)
        refine J.sel [3, 4, 5, 11, 104] (.cons rfl (.cons rfl (.cons rfl (.cons rfl (.cons rfl .nil))))) ?_
        repeat refine J.seq ?_
        refine J.cond rfl (fun ht104 => ?_) (fun ht104 => ?_)
        ·
          try simp only [decide_eq_true_eq, decide_eq_false_iff_not] at ht104
          exfalso
          simp at ht104
        ·
          try simp only [decide_eq_true_eq, decide_eq_false_iff_not] at ht104
          refine J.skip ?_
          repeat (first | refine JX.next ?_ | refine JX.normal_block ?_)
          repeat refine J.seq ?_
          refine J.plain ?_
          refine JO.t (ob_move rfl) rfl ?_
          refine JO.t (ob_addc (cc := ((t + 1 : Nat) : Int)) rfl rfl (by omega) (by omega) (by omega)) rfl ?_
          refine JO.t (ob_assign rfl) rfl ?_
          refine JO.nil ?_
          repeat refine JX.normal_block ?_
          refine JX.roundG (x := t) (t + 1) ?_ ?_ [3, 4, 5, 11] ?_ ?_ ?_ ?_
          · exact (by omega)
          · exact (by omega)
          · exact (.cons rfl (.cons rfl (.cons rfl (.cons rfl .nil))))
          · repeat (first | exact .all | exact .nil | refine Has.own (by repeat (first | exact .here | apply Tl.past | apply Tl.there)) ?_ | refine Has.cons (by repeat (first | exact .here | apply Pk.past | apply Pk.there)) ?_)
          · exact fun G hG => by repeat (first | exact hG | refine List.mem_cons_of_mem _ ?_)
          · exact fun _ _ _ => fun _ _ => trivial
      ·
        try simp only [decide_eq_true_eq, decide_eq_false_iff_not] at ht95
        repeat refine J.seq ?_
        refine J.exit ?_
        repeat (first | refine JX.hit ?_ | refine JX.miss rfl ?_ | refine JX.exit_pass ?_)
        repeat (first | refine JX.next ?_ | refine JX.normal_block ?_)
        repeat refine J.seq ?_
        refine J.plain ?_
        refine JO.t (ob_move rfl) rfl ?_
        refine JO.t (ob_call rfl n_p_ssi_Set_Kept (.one rfl .nil)) rfl ?_
        refine JO.t (ob_eql rfl rfl) rfl ?_
        refine JO.t (ob_move rfl) rfl ?_
        refine JO.gd rfl rfl rfl ?_
        refine JO.t (ob_move rfl) rfl ?_
        refine JO.gd rfl rfl rfl ?_
        refine JO.t (ob_call rfl (n_p_ssi_Set_Pivot 1) (.one rfl (.one rfl .nil))) rfl ?_
        refine JO.gd rfl rfl rfl ?_
        refine JO.t (ob_not rfl) rfl ?_
        refine JO.t (ob_pickT rfl rfl) rfl ?_
        refine JO.t (ob_move rfl) rfl ?_
        refine JO.gd rfl rfl rfl ?_
        refine JO.t (ob_move rfl) rfl ?_
        refine JO.gd rfl rfl rfl ?_
        refine JO.t (ob_call rfl (n_p_ssi_Set_Commit 1) (.one rfl (.one rfl .nil))) rfl ?_
        refine JO.gd rfl rfl rfl ?_
        refine JO.t (ob_eql rfl rfl) rfl ?_
        refine JO.t (ob_pickT rfl rfl) rfl ?_
        refine JO.t (ob_assign rfl) rfl ?_
        refine JO.nil ?_
        repeat (first | refine JX.next ?_ | refine JX.normal_block ?_)
        refine J.sel [2] (.cons rfl .nil) ?_
        repeat refine J.seq ?_
        refine J.ret ?_
        repeat (first | refine JX.ret_pass ?_ | refine JX.ret_block ?_)
        exact JX.retL1 (L1 := fun _ : Unit => []) (R := fun _ => .is (.bool true)) rfl () trivial (pm_nil _) rfl rfl hb0 rfl (Sub.isEq (rfl))
end Go.Proofs.Ytggmifnkgcladaa
