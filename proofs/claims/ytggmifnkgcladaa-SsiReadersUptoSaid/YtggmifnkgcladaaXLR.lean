/- SsiReaders: its walk. No condition. -/
import Derived.Test.YtggmifnkgcladaaXLA
set_option maxRecDepth 20000
namespace Go.Proofs.Ytggmifnkgcladaa
open Go Go.Vc
open Go.Si Go.Vl
def tR (t : Int) : Nat := ((IntKind.u64.wrap t).tmod 6).toNat
theorem tR_eq (t : Int) : (IntKind.u64.wrap t).tmod 6 = ((tR t : Nat) : Int) := by
  unfold tR
  rw [wu64]
  have h0 : 0 ≤ t % 18446744073709551616 := Int.emod_nonneg _ (by decide)
  rw [Int.tmod_eq_emod_of_nonneg h0]
  have := Int.emod_nonneg (t % 18446744073709551616) (b := 6) (by decide)
  omega
theorem tR_lt (t : Int) : tR t < 6 := by
  have h := tR_eq t
  rw [wu64] at h
  have h0 : 0 ≤ t % 18446744073709551616 := Int.emod_nonneg _ (by decide)
  rw [Int.tmod_eq_emod_of_nonneg h0] at h
  have := Int.emod_lt_of_pos (t % 18446744073709551616) (b := 6) (by decide)
  omega
theorem c_law20_SsiReaders (ops : List OpA) (hops : ScB ops) (wr : Bool) : CallL Try.prog f_law20_SsiReaders [] [] [.rep (ScR ops), .is (.bool wr)] (fun _ : Unit => True) (fun _ => []) (fun _ => .is (.bool true)) :=
CallL.of (fn := Try.f7) Try.func7 (n := 74) rfl rfl rfl (fun _ _ => by kernel_rfl) fun E W hb0 => by
  refine J.openSc (s := 0) rfl (fun a cap b0 o0 ha => ?_)
  repeat refine J.seq ?_
  refine J.plain ?_
  refine JO.t (ob_assign rfl) rfl ?_
  refine JO.nil ?_
  repeat (first | refine JX.next ?_ | refine JX.normal_block ?_)
  refine J.sel [0, 1] (.cons rfl (.cons rfl .nil)) ?_
  repeat refine J.seq ?_
  refine J.plain ?_
  refine JO.callK (Lr := []) (c_law20_awake) rfl (.refl _) none_in .nil ?_
  rintro - -
  try dsimp only
  refine JO.t (ob_not rfl) rfl ?_
  refine JO.nil ?_
  repeat (first | refine JX.next ?_ | refine JX.normal_block ?_)
  refine J.sel [0, 1, 12] (.cons rfl (.cons rfl (.cons rfl .nil))) ?_
  repeat refine J.seq ?_
  refine J.cond rfl (fun ht12 => ?_) (fun ht12 => ?_)
  ·
    try simp only [decide_eq_true_eq, decide_eq_false_iff_not] at ht12
    exfalso
    cases ht12
  ·
    try simp only [decide_eq_true_eq, decide_eq_false_iff_not] at ht12
    refine J.skip ?_
    repeat (first | refine JX.next ?_ | refine JX.normal_block ?_)
    repeat refine J.seq ?_
    refine J.plain ?_
    refine JO.callK (Lr := []) (k_New) rfl (.refl _) none_in .nil ?_
    rintro ⟨b, ba⟩ -
    try dsimp only
    refine JO.t (ob_assign rfl) rfl ?_
    refine JO.nil ?_
    repeat (first | refine JX.next ?_ | refine JX.normal_block ?_)
    refine J.sel [0, 1, 5] (.cons rfl (.cons rfl (.cons rfl .nil))) ?_
    refine J.fact (WrF []) (fun E0 w0 _ _ => fun w1 hk v hv => by cases hv) ?_
    repeat refine J.seq ?_
    refine J.plain ?_
    refine JO.t (ob_assign rfl) rfl ?_
    refine JO.nil ?_
    repeat (first | refine JX.next ?_ | refine JX.normal_block ?_)
    refine J.sel [0, 1, 5, 6] (.cons rfl (.cons rfl (.cons rfl (.cons rfl .nil)))) ?_
    repeat refine J.seq ?_
    refine J.block ?_
    repeat refine J.seq ?_
    refine J.loopG (α := LSt) (fun s => [(0, _), (1, _), (5, .is (.pointer (some ⟨b, 0, none⟩))), (6, .is (.int .i64 (s.i : Nat)))]) (fun s => s.q.L b ba ++ []) (fun s => WrF s.U) (fun s => s.i ≤ 6 ∧ SRel s.q s.A s.n s.U ∧ ActA s.A s.i ∧ NoW s.A ∧ NoR s.A ∧ Bd s.A s.i 0 ∧ keptA s.A = 0 ∧ s.n = s.i) (fun s => 6 - s.i) ⟨0, ⟨0, 0, 0, []⟩, [], 0, []⟩ [0, 1, 5, 6] (.cons rfl (.cons rfl (.cons rfl (.cons rfl .nil)))) rfl (fun w v hv => by cases hv) ⟨Nat.zero_le _, SRel.new, ActA.nil, NoW.nil, NoR.nil, Bd.nil, rfl, rfl⟩ fun ⟨i, q, A, n, U⟩ ⟨hi, hS, hA, hW, hN, hB, hk, hn⟩ => ?_
    try dsimp only
    try dsimp only at q
    try dsimp only at A
    try dsimp only at n
    try dsimp only at U
    try dsimp only at hi
    try dsimp only at hS
    try dsimp only at hA
    try dsimp only at hW
    try dsimp only at hN
    try dsimp only at hB
    try dsimp only at hk
    try dsimp only at hn
    repeat refine J.seq ?_
    refine J.plain ?_
    refine JO.t (ob_move rfl) rfl ?_
    refine JO.t (ob_lss rfl rfl) rfl ?_
    refine JO.nil ?_
    repeat (first | refine JX.next ?_ | refine JX.normal_block ?_)
    refine J.sel [0, 1, 5, 6, 15] (.cons rfl (.cons rfl (.cons rfl (.cons rfl (.cons rfl .nil))))) ?_
    repeat refine J.seq ?_
    refine J.cond rfl (fun ht15 => ?_) (fun ht15 => ?_)
    ·
      try simp only [decide_eq_true_eq, decide_eq_false_iff_not] at ht15
      refine J.skip ?_
      repeat (first | refine JX.next ?_ | refine JX.normal_block ?_)
      repeat refine J.seq ?_
      refine J.block ?_
      repeat refine J.seq ?_
      refine J.plain ?_
      refine JO.t (ob_move rfl) rfl ?_
      refine JO.callK (Lr := []) (k_Begin hS (hB.rm (by omega) (by omega)) (by omega)) rfl (.refl _) none_in (.one rfl .nil) ?_
      intro q1 hq1
      try dsimp only
      refine JO.nil ?_
      repeat (first | refine JX.next ?_ | refine JX.normal_block ?_)
      refine J.sel [0, 1, 5, 6] (.cons rfl (.cons rfl (.cons rfl (.cons rfl .nil)))) ?_
      repeat refine J.seq ?_
      refine J.plain ?_
      refine JO.t (ob_move rfl) rfl ?_
      refine JO.t (ob_addc (cc := ((i + 1 : Nat) : Int)) rfl rfl (by omega) (by omega) (by omega)) rfl ?_
      refine JO.t (ob_assign rfl) rfl ?_
      refine JO.nil ?_
      repeat refine JX.normal_block ?_
      refine JX.roundG (x := (⟨i, q, A, n, U⟩ : LSt)) (⟨i + 1, q1, beginA A n, n + 1, U⟩ : LSt) ?_ ?_ [0, 1, 5, 6] ?_ ?_ ?_ ?_
      · exact ⟨by simp only; omega, hq1, hA.begin n, hW.begin n, hN.begin n, hB.begin n, (kept_begin hS.ok).trans hk, by simp only; omega⟩
      · exact (by simp only; omega)
      · exact (.cons rfl (.cons rfl (.cons rfl (.cons rfl .nil))))
      · repeat (first | exact .all | exact .nil | refine Has.own (by repeat (first | exact .here | apply Tl.past | apply Tl.there)) ?_ | refine Has.cons (by repeat (first | exact .here | apply Pk.past | apply Pk.there)) ?_)
      · exact fun G hG => by repeat (first | exact hG | refine List.mem_cons_of_mem _ ?_)
      · exact (fun E0 w0 hG => hG _ (by repeat (first | exact List.mem_cons_self | apply List.mem_cons_of_mem)))
    ·
      try simp only [decide_eq_true_eq, decide_eq_false_iff_not] at ht15
      repeat refine J.seq ?_
      refine J.exit ?_
      repeat (first | refine JX.hit ?_ | refine JX.miss rfl ?_ | refine JX.exit_pass ?_)
      repeat (first | refine JX.next ?_ | refine JX.normal_block ?_)
      obtain rfl : i = 6 := by omega
      have hI0 : RdI A wr 0 := ⟨hA, by cases wr; exact hW; exact hN, by omega, hB⟩
      repeat refine J.seq ?_
      refine J.plain ?_
      refine JO.t (ob_assign rfl) rfl ?_
      refine JO.nil ?_
      repeat (first | refine JX.next ?_ | refine JX.normal_block ?_)
      refine J.sel [0, 1, 5, 7] (.cons rfl (.cons rfl (.cons rfl (.cons rfl .nil)))) ?_
      repeat refine J.seq ?_
      refine J.block ?_
      repeat refine J.seq ?_
      refine J.loopH (α := LSt) (fun s => [(0, _), (1, _), (5, .is (.pointer (some ⟨b, 0, none⟩))), (7, .is (.int .i64 (s.i : Nat)))]) (fun s => s.q.L b ba ++ []) (fun s => WrF s.U) (fun s => s.i ≤ ops.length ∧ s.i ≤ 60 ∧ SRel s.q s.A s.n s.U ∧ RdI s.A wr s.i ∧ s.n = 6) (fun s => ops.length - s.i) ⟨0, q, A, n, U⟩ [0, 1, 5, 7] (.cons rfl (.cons rfl (.cons rfl (.cons rfl .nil)))) rfl (fun E0 w0 hG => hG _ (by repeat (first | exact List.mem_cons_self | apply List.mem_cons_of_mem))) ⟨Nat.zero_le _, Nat.zero_le _, hS, hI0, hn⟩ fun ⟨i, q, A, n, U⟩ ⟨hi, hi60, hS, hI, hn⟩ => ?_
      try dsimp only
      try dsimp only at q
      try dsimp only at A
      try dsimp only at n
      try dsimp only at U
      try dsimp only at hi
      try dsimp only at hi60
      try dsimp only at hS
      try dsimp only at hI
      try dsimp only at hn
      repeat refine J.seq ?_
      refine J.reg0 hmx (by kernel_rfl) (by kernel_rfl) ?_
      refine RT.t (ob_move rfl) ?_
      refine RT.t (ob_move rfl) ?_
      refine RT.t (ob_len un_sl_cadastrelaw20_Op rfl) ?_
      refine RT.t (ob_lss rfl rfl) ?_
      refine RT.t (ob_move rfl) ?_
      refine RT.g rfl rfl rfl (fun hg => ob_move (.inl rfl)) ?_
      refine RT.g rfl rfl rfl (fun hg => ob_lss (.inr ⟨_, rfl, fun h => h⟩) (.inl rfl)) ?_
      refine RT.t (ob_pickAnd rfl rfl rfl id) ?_
      refine RT.nil ?_
      refine FinS.nil0 ?_
      repeat (first | refine JX.next ?_ | refine JX.normal_block ?_)
      refine J.sel [0, 1, 5, 7, 27] (.cons rfl (.cons rfl (.cons rfl (.cons rfl (.cons rfl .nil))))) ?_
      repeat refine J.seq ?_
      refine J.cond rfl (fun ht27 => ?_) (fun ht27 => ?_)
      ·
        try simp only [decide_eq_true_eq, decide_eq_false_iff_not] at ht27
        refine J.skip ?_
        repeat (first | refine JX.next ?_ | refine JX.normal_block ?_)
        repeat refine J.seq ?_
        refine J.block ?_
        have hlt : i < ops.length ∧ i < 60 := by simp at ht27; omega
        repeat refine J.seq ?_
        refine J.plain ?_
        refine JO.t (ob_move rfl) rfl ?_
        refine JO.t (ob_move rfl) rfl ?_
        refine JO.t (ob_indexAddr el_sl_cadastrelaw20_Op rfl (ha (by omega)) rfl (by omega) (by omega)) rfl ?_
        refine JO.t (ob_fieldAddr fo_cadastrelaw20_Op_1 rfl) rfl ?_
        refine JO.t (ob_loadG1 (enc := OpA.cells) (sz := 13) (i := i) (j := 1) (y := opAt ops i) (u := .int .i64 (opAt ops i).t) sz_int rfl (by repeat (first | exact List.mem_cons_self | apply List.mem_cons_of_mem)) (ha (by omega)) (opAt_get (by omega)) (by omega) rfl) rfl ?_
        refine JO.t (ob_convII ⟨_, un_int⟩ un_uint rfl) rfl ?_
        refine JO.t (ob_remv rfl rfl (by decide) (tR_eq _)) rfl ?_
        refine JO.t (ob_convIIe ⟨_, un_uint⟩ un_int rfl (i64_wrap ⟨by omega, by have := tR_lt (opAt ops i).t; omega⟩)) rfl ?_
        refine JO.t (ob_addc (cc := (((tR (opAt ops i).t) + 1 : Nat) : Int)) rfl rfl (by omega) (by omega) (by have := tR_lt (opAt ops i).t; omega)) rfl ?_
        refine JO.t (ob_assign rfl) rfl ?_
        refine JO.nil ?_
        repeat (first | refine JX.next ?_ | refine JX.normal_block ?_)
        refine J.sel [0, 1, 5, 7, 8] (.cons rfl (.cons rfl (.cons rfl (.cons rfl (.cons rfl .nil))))) ?_
        repeat refine J.seq ?_
        refine J.plain ?_
        refine JO.t (ob_assign rfl) rfl ?_
        refine JO.nil ?_
        repeat (first | refine JX.next ?_ | refine JX.normal_block ?_)
        refine J.sel [0, 1, 5, 7, 8] (.cons rfl (.cons rfl (.cons rfl (.cons rfl (.cons rfl .nil))))) ?_
        repeat refine J.seq ?_
        refine J.plain ?_
        refine JO.t (ob_move rfl) rfl ?_
        refine JO.nil ?_
        repeat (first | refine JX.next ?_ | refine JX.normal_block ?_)
        refine J.sel [0, 1, 5, 7, 8, 39] (.cons rfl (.cons rfl (.cons rfl (.cons rfl (.cons rfl (.cons rfl .nil)))))) ?_
        repeat refine J.seq ?_
        refine J.cond rfl (fun ht39 => ?_) (fun ht39 => ?_)
        ·
          try simp only [decide_eq_true_eq, decide_eq_false_iff_not] at ht39
          subst ht39
          obtain ⟨e1, hI1⟩ := hI.write (tR_lt _) (opAt ops i).w.abs
          repeat refine J.seq ?_
          refine J.plain ?_
          refine JO.t (ob_move rfl) rfl ?_
          refine JO.t (ob_move rfl) rfl ?_
          refine JO.t (ob_move rfl) rfl ?_
          refine JO.t (ob_move rfl) rfl ?_
          refine JO.t (ob_indexAddr el_sl_cadastrelaw20_Op rfl (ha (by omega)) rfl (by omega) (by omega)) rfl ?_
          refine JO.t (ob_fieldAddr fo_cadastrelaw20_Op_3 rfl) rfl ?_
          refine JO.t (ob_loadGP (enc := OpA.cells) (sz := 13) (i := i) (j := 10) (n := 3) (y := opAt ops i) (cs := WrA.cells (opAt ops i).w) sz_api_Write rfl (by repeat (first | exact List.mem_cons_self | apply List.mem_cons_of_mem)) (ha (by omega)) (opAt_get (by omega)) (by omega) rfl) rfl ?_
          refine JO.callK (Lr := []) (k_WriteF (Us := wsO ops) hS (hI.bd.rm (by omega) (by omega)) _ (opAt ops i).w (opAt_w (by omega)) (hops.o _ (opAt_mem (by omega))) (hops.n _ (opAt_mem (by omega))) e1) rfl (.refl _) (two_in (by repeat (first | exact List.mem_cons_self | apply List.mem_cons_of_mem)) (by repeat (first | exact List.mem_cons_self | apply List.mem_cons_of_mem))) (.one rfl (.one rfl (.one rfl .nil))) ?_
          rintro ⟨q1, x1⟩ hq1
          try dsimp only
          refine JO.open_ (s := 47) (R := WrR' (0) x1) rfl ?_
          rintro _ ⟨_, rfl, _⟩
          refine JO.fact (WrF (x1 :: U)) (fun E0 w0 hG _ => wr_more (e := 0) hG List.mem_cons_self (by repeat (first | exact List.mem_cons_self | apply List.mem_cons_of_mem))) ?_
          refine JO.t (ob_assign rfl) rfl ?_
          refine JO.nil ?_
          repeat (first | refine JX.next ?_ | refine JX.normal_block ?_)
          refine J.sel [0, 1, 5, 7, 8, 9] (.cons rfl (.cons rfl (.cons rfl (.cons rfl (.cons rfl (.cons rfl .nil)))))) ?_
          repeat refine J.seq ?_
          refine J.plain ?_
          refine JO.t (ob_move rfl) rfl ?_
          refine JO.t (ob_neq rfl rfl) rfl ?_
          refine JO.t (ob_move rfl) rfl ?_
          refine JO.gd rfl rfl rfl ?_
          refine JO.t (ob_move rfl) rfl ?_
          refine JO.gd rfl rfl rfl ?_
          refine JO.t (ob_move rfl) rfl ?_
          refine JO.gd rfl rfl rfl ?_
          refine JO.callK (Lr := []) (k_Pivot hq1 _ (piv_ok (hI1.noE.pv _))) rfl (.refl _) none_in (.one rfl (.one rfl .nil)) ?_
          rintro - -
          try dsimp only
          refine JO.t (ob_pickF rfl rfl) rfl ?_
          refine JO.nil ?_
          repeat (first | refine JX.next ?_ | refine JX.normal_block ?_)
          refine J.sel [0, 1, 5, 7, 62] (.cons rfl (.cons rfl (.cons rfl (.cons rfl (.cons rfl .nil))))) ?_
          repeat refine J.seq ?_
          refine J.cond rfl (fun ht62 => ?_) (fun ht62 => ?_)
          ·
            try simp only [decide_eq_true_eq, decide_eq_false_iff_not] at ht62
            exfalso
            cases ht62
          ·
            try simp only [decide_eq_true_eq, decide_eq_false_iff_not] at ht62
            refine J.skip ?_
            repeat (first | refine JX.next ?_ | refine JX.normal_block ?_)
            repeat refine J.seq ?_
            refine J.plain ?_
            refine JO.t (ob_move rfl) rfl ?_
            refine JO.t (ob_addc (cc := ((i + 1 : Nat) : Int)) rfl rfl (by omega) (by omega) (by omega)) rfl ?_
            refine JO.t (ob_assign rfl) rfl ?_
            refine JO.nil ?_
            repeat refine JX.normal_block ?_
            refine JX.roundG (x := (⟨i, q, A, n, U⟩ : LSt)) (⟨i + 1, q1, upA A (tR (opAt ops i).t) (aWr (opAt ops i).w.abs), n, x1 :: U⟩ : LSt) ?_ ?_ [0, 1, 5, 7] ?_ ?_ ?_ ?_
            · exact ⟨by simp only; omega, by simp only; omega, hq1, hI1, hn⟩
            · exact (by simp only; omega)
            · exact (.cons rfl (.cons rfl (.cons rfl (.cons rfl .nil))))
            · repeat (first | exact .all | exact .nil | refine Has.own (by repeat (first | exact .here | apply Tl.past | apply Tl.there)) ?_ | refine Has.cons (by repeat (first | exact .here | apply Pk.past | apply Pk.there)) ?_)
            · exact fun G hG => by repeat (first | exact hG | refine List.mem_cons_of_mem _ ?_)
            · exact (fun E0 w0 hG => hG _ (by repeat (first | exact List.mem_cons_self | apply List.mem_cons_of_mem)))
        ·
          try simp only [decide_eq_true_eq, decide_eq_false_iff_not] at ht39
          obtain rfl : wr = false := by simpa using ht39
          obtain ⟨e1, hI1⟩ := hI.read (tR_lt _) hlt.2 (opAt ops i).r
          repeat refine J.seq ?_
          refine J.plain ?_
          refine JO.t (ob_move rfl) rfl ?_
          refine JO.t (ob_move rfl) rfl ?_
          refine JO.t (ob_move rfl) rfl ?_
          refine JO.t (ob_move rfl) rfl ?_
          refine JO.t (ob_indexAddr el_sl_cadastrelaw20_Op rfl (ha (by omega)) rfl (by omega) (by omega)) rfl ?_
          refine JO.t (ob_fieldAddr fo_cadastrelaw20_Op_2 rfl) rfl ?_
          refine JO.t (ob_loadGP (enc := OpA.cells) (sz := 13) (i := i) (j := 2) (n := 8) (y := opAt ops i) (cs := Rd.cells (opAt ops i).r) sz_api_Read rfl (by repeat (first | exact List.mem_cons_self | apply List.mem_cons_of_mem)) (ha (by omega)) (opAt_get (by omega)) (by omega) rfl) rfl ?_
          refine JO.callK (Lr := []) (k_Read hS (hI.bd.rm (by omega) (by omega)) _ (opAt ops i).r e1) rfl (.refl _) (one_in (by repeat (first | exact List.mem_cons_self | apply List.mem_cons_of_mem))) (.one rfl (.one rfl (.one rfl .nil))) ?_
          intro q1 hq1
          try dsimp only
          refine JO.t (ob_assign rfl) rfl ?_
          refine JO.nil ?_
          repeat (first | refine JX.next ?_ | refine JX.normal_block ?_)
          refine J.sel [0, 1, 5, 7, 8, 9] (.cons rfl (.cons rfl (.cons rfl (.cons rfl (.cons rfl (.cons rfl .nil)))))) ?_
          repeat refine J.seq ?_
          refine J.plain ?_
          refine JO.t (ob_move rfl) rfl ?_
          refine JO.t (ob_neq rfl rfl) rfl ?_
          refine JO.t (ob_move rfl) rfl ?_
          refine JO.gd rfl rfl rfl ?_
          refine JO.t (ob_move rfl) rfl ?_
          refine JO.gd rfl rfl rfl ?_
          refine JO.t (ob_move rfl) rfl ?_
          refine JO.gd rfl rfl rfl ?_
          refine JO.callK (Lr := []) (k_Pivot hq1 _ (piv_ok (hI1.noE.pv _))) rfl (.refl _) none_in (.one rfl (.one rfl .nil)) ?_
          rintro - -
          try dsimp only
          refine JO.t (ob_pickF rfl rfl) rfl ?_
          refine JO.nil ?_
          repeat (first | refine JX.next ?_ | refine JX.normal_block ?_)
          refine J.sel [0, 1, 5, 7, 62] (.cons rfl (.cons rfl (.cons rfl (.cons rfl (.cons rfl .nil))))) ?_
          repeat refine J.seq ?_
          refine J.cond rfl (fun ht62 => ?_) (fun ht62 => ?_)
          ·
            try simp only [decide_eq_true_eq, decide_eq_false_iff_not] at ht62
            exfalso
            cases ht62
          ·
            try simp only [decide_eq_true_eq, decide_eq_false_iff_not] at ht62
            refine J.skip ?_
            repeat (first | refine JX.next ?_ | refine JX.normal_block ?_)
            repeat refine J.seq ?_
            refine J.plain ?_
            refine JO.t (ob_move rfl) rfl ?_
            refine JO.t (ob_addc (cc := ((i + 1 : Nat) : Int)) rfl rfl (by omega) (by omega) (by omega)) rfl ?_
            refine JO.t (ob_assign rfl) rfl ?_
            refine JO.nil ?_
            repeat refine JX.normal_block ?_
            refine JX.roundG (x := (⟨i, q, A, n, U⟩ : LSt)) (⟨i + 1, q1, upA A (tR (opAt ops i).t) (aRd (opAt ops i).r), n, U⟩ : LSt) ?_ ?_ [0, 1, 5, 7] ?_ ?_ ?_ ?_
            · exact ⟨by simp only; omega, by simp only; omega, hq1, hI1, hn⟩
            · exact (by simp only; omega)
            · exact (.cons rfl (.cons rfl (.cons rfl (.cons rfl .nil))))
            · repeat (first | exact .all | exact .nil | refine Has.own (by repeat (first | exact .here | apply Tl.past | apply Tl.there)) ?_ | refine Has.cons (by repeat (first | exact .here | apply Pk.past | apply Pk.there)) ?_)
            · exact fun G hG => by repeat (first | exact hG | refine List.mem_cons_of_mem _ ?_)
            · exact (fun E0 w0 hG => hG _ (by repeat (first | exact List.mem_cons_self | apply List.mem_cons_of_mem)))
      ·
        try simp only [decide_eq_true_eq, decide_eq_false_iff_not] at ht27
        repeat refine J.seq ?_
        refine J.exit ?_
        repeat (first | refine JX.hit ?_ | refine JX.miss rfl ?_ | refine JX.exit_pass ?_)
        repeat (first | refine JX.next ?_ | refine JX.normal_block ?_)
        have hC0 := hI.cm
        have hB0 := hI.bd.mono (m' := 6) (n' := 60) (by omega) (by omega)
        rw [hn] at hS
        repeat refine J.seq ?_
        refine J.plain ?_
        refine JO.t (ob_assign rfl) rfl ?_
        refine JO.nil ?_
        repeat (first | refine JX.next ?_ | refine JX.normal_block ?_)
        refine J.sel [5, 10] (.cons rfl (.cons rfl .nil)) ?_
        repeat refine J.seq ?_
        refine J.block ?_
        repeat refine J.seq ?_
        refine J.loopH (α := LSt) (fun s => [(5, .is (.pointer (some ⟨b, 0, none⟩))), (10, .is (.int .i64 ((s.i + 1 : Nat) : Int)))]) (fun s => s.q.L b ba ++ []) (fun s => WrF s.U) (fun s => s.i ≤ 6 ∧ SRel s.q s.A s.n s.U ∧ CmI s.A 6 s.i ∧ Bd s.A 6 60 ∧ s.n = 6 + s.i) (fun s => 6 - s.i) ⟨0, q, A, 6, U⟩ [5, 10] (.cons rfl (.cons rfl .nil)) rfl (fun E0 w0 hG => hG _ (by repeat (first | exact List.mem_cons_self | apply List.mem_cons_of_mem))) ⟨Nat.zero_le _, hS, hC0, hB0, rfl⟩ fun ⟨i, q, A, n, U⟩ ⟨hi, hS, hC, hB, hn⟩ => ?_
        try dsimp only
        try dsimp only at q
        try dsimp only at A
        try dsimp only at n
        try dsimp only at U
        try dsimp only at hi
        try dsimp only at hS
        try dsimp only at hC
        try dsimp only at hB
        try dsimp only at hn
        repeat refine J.seq ?_
        refine J.plain ?_
        refine JO.t (ob_move rfl) rfl ?_
        refine JO.t (ob_leq rfl rfl) rfl ?_
        refine JO.nil ?_
        repeat (first | refine JX.next ?_ | refine JX.normal_block ?_)
        refine J.sel [5, 10, 64] (.cons rfl (.cons rfl (.cons rfl .nil))) ?_
        repeat refine J.seq ?_
        refine J.cond rfl (fun ht64 => ?_) (fun ht64 => ?_)
        ·
          try simp only [decide_eq_true_eq, decide_eq_false_iff_not] at ht64
          refine J.skip ?_
          repeat (first | refine JX.next ?_ | refine JX.normal_block ?_)
          repeat refine J.seq ?_
          refine J.block ?_
          obtain ⟨e1, hC1⟩ := hC.step hS.ok (by omega)
          have hB1 := hB.commit n ((i + 1 : Nat) : Int)
          rw [e1] at hB1
          repeat refine J.seq ?_
          refine J.plain ?_
          refine JO.t (ob_move rfl) rfl ?_
          refine JO.t (ob_move rfl) rfl ?_
          refine JO.callK (Lr := []) (k_Commit hS (by omega) _ e1) rfl (.refl _) none_in (.one rfl (.one rfl .nil)) ?_
          intro q1 hq1
          try dsimp only
          refine JO.t (ob_neq rfl rfl) rfl ?_
          refine JO.nil ?_
          repeat (first | refine JX.next ?_ | refine JX.normal_block ?_)
          refine J.sel [5, 10, 70] (.cons rfl (.cons rfl (.cons rfl .nil))) ?_
          repeat refine J.seq ?_
          refine J.cond rfl (fun ht70 => ?_) (fun ht70 => ?_)
          ·
            try simp only [decide_eq_true_eq, decide_eq_false_iff_not] at ht70
            exfalso
            cases ht70
          ·
            try simp only [decide_eq_true_eq, decide_eq_false_iff_not] at ht70
            refine J.skip ?_
            repeat (first | refine JX.next ?_ | refine JX.normal_block ?_)
            repeat refine J.seq ?_
            refine J.plain ?_
            refine JO.t (ob_move rfl) rfl ?_
            refine JO.t (ob_addc (cc := ((i + 1 + 1 : Nat) : Int)) rfl rfl (by omega) (by omega) (by omega)) rfl ?_
            refine JO.t (ob_assign rfl) rfl ?_
            refine JO.nil ?_
            repeat refine JX.normal_block ?_
            refine JX.roundG (x := (⟨i, q, A, n, U⟩ : LSt)) (⟨i + 1, q1, upA A i (aCm (n + 1)), n + 1, U⟩ : LSt) ?_ ?_ [5, 10] ?_ ?_ ?_ ?_
            · exact ⟨by simp only; omega, hq1, hC1, hB1, by simp only; omega⟩
            · exact (by simp only; omega)
            · exact (.cons rfl (.cons rfl .nil))
            · repeat (first | exact .all | exact .nil | refine Has.own (by repeat (first | exact .here | apply Tl.past | apply Tl.there)) ?_ | refine Has.cons (by repeat (first | exact .here | apply Pk.past | apply Pk.there)) ?_)
            · exact fun G hG => by repeat (first | exact hG | refine List.mem_cons_of_mem _ ?_)
            · exact (fun E0 w0 hG => hG _ (by repeat (first | exact List.mem_cons_self | apply List.mem_cons_of_mem)))
        ·
          try simp only [decide_eq_true_eq, decide_eq_false_iff_not] at ht64
          repeat refine J.seq ?_
          refine J.exit ?_
          repeat (first | refine JX.hit ?_ | refine JX.miss rfl ?_ | refine JX.exit_pass ?_)
          repeat (first | refine JX.next ?_ | refine JX.normal_block ?_)
          obtain rfl : i = 6 := by omega
          repeat refine J.seq ?_
          refine J.plain ?_
          refine JO.t (ob_move rfl) rfl ?_
          refine JO.callK (Lr := []) (k_Kept hS (hB.rm (by omega) (by omega)) hC.kept) rfl (.refl _) none_in (.one rfl .nil) ?_
          rintro - -
          try dsimp only
          refine JO.t (ob_eql rfl rfl) rfl ?_
          refine JO.t (ob_assign rfl) rfl ?_
          refine JO.nil ?_
          repeat (first | refine JX.next ?_ | refine JX.normal_block ?_)
          refine J.sel [4] (.cons rfl .nil) ?_
          repeat refine J.seq ?_
          refine J.ret ?_
          repeat (first | refine JX.ret_pass ?_ | refine JX.ret_block ?_)
          exact JX.retL1 (L1 := fun _ : Unit => []) (R := fun _ => .is (.bool true)) rfl () trivial (pm_nil _) rfl rfl hb0 rfl (Sub.isEq (rfl))
end Go.Proofs.Ytggmifnkgcladaa
