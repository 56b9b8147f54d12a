/- order: of those that committed one after the other is taken, ahead of whom nobody is. No condition. -/
import Derived.Test.YtggmifnkgcladaaXLA
import Derived.Test.YtggmifnkgcladaaXPI
import Derived.Test.YtggmifnkgcladaaXG6
import Derived.Test.YtggmifnkgcladaaXG4
set_option maxRecDepth 20000
namespace Go.Proofs.Ytggmifnkgcladaa
open Go Go.Vc
open Go.Si Go.Vl
theorem un_sl_bool : Try.prog.underlying ty_sl_bool = some (.slice ty_bool) := by kernel_rfl
def gO (bg : Nat) (G : List Bool) : Own := ⟨bg, ty_bool, .is (.agg (G.map Value.bool).toArray)⟩
theorem gat {G : List Bool} {i off : Nat} (h : i < G.length) (ho : off = i) : nth (Value.agg (G.map Value.bool).toArray).cells.toList off = some (.bool (G.getD i true)) := by
  subst ho
  show nth (G.map Value.bool) off = _
  rw [nth_eq, List.getElem?_map, List.getElem?_eq_getElem h, List.getD_eq_getElem?_getD, List.getElem?_eq_getElem h]; rfl
theorem gsp {G : List Bool} {i off : Nat} {v : Bool} (h : i < G.length) (ho : off = i) : splice (G.map Value.bool) off [.bool v] = (G.set i v).map Value.bool := by
  subst ho
  unfold splice
  rw [List.map_set, List.set_eq_take_append_cons_drop, if_pos (by rw [List.length_map]; exact h)]
  simp
theorem gbl {G : List Bool} {i off : Nat} (h : i < G.length) (ho : off = i) : Nat.ble (off + 1) (G.map Value.bool).length = true := by
  rw [List.length_map, Nat.ble_eq]; omega
theorem gv_set {G : List Bool} {i : Nat} {v : Bool} (h : i < G.length) : (G.set i v).getD i true = v := by rw [getD_set h, if_pos rfl]
theorem gv_all {xs : List RX} {G : List Bool} {i : Nat} (hGl : G.length = xs.length) (hlt : i < xs.length) (hGv : ∀ j, j < i → G.getD j true = ((rAt xs (j : Nat)).s != 2)) : ∀ j, j < i + 1 → (G.set i ((rAt xs (i : Nat)).s != 2)).getD j true = ((rAt xs (j : Nat)).s != 2) := fun j hj => by
  rw [getD_set (by omega)]
  split
  · rename_i e; rw [e]
  · exact hGv j (by omega)
theorem bad_of {B : List AT} {G : List Bool} {xs : List RX} {i k : Nat} (hB : absL xs = B) (hi : i < xs.length) (hk : k < xs.length) : (((((k : Int) != (i : Int)) && !G.getD k true)) && (edA B ((k : Nat) : Int).toNat ((i : Nat) : Int).toNat || decide (((rAt xs (k : Nat)).done : Int) < ((rAt xs (i : Nat)).begun : Nat)))) = badB B G i k := by
  unfold badB
  have e1 : ((k : Int) != (i : Int)) = (k != i) := by
    rw [Bool.eq_iff_iff, bne_iff_ne, bne_iff_ne]; omega
  have e2 : decide (((rAt xs (k : Nat)).done : Int) < ((rAt xs (i : Nat)).begun : Nat)) = decide ((aAt B k).done < (aAt B i).begun) := by
    rw [← hB, absL_nat hk, absL_nat hi, Bool.eq_iff_iff, decide_eq_true_eq, decide_eq_true_eq]
    show _ ↔ (rAt xs (k : Nat)).done < (rAt xs (i : Nat)).begun
    omega
  rw [e1, e2, Int.toNat_natCast, Int.toNat_natCast]
theorem c_law20_order (b : Nat) (p : RS) (B : List AT) (n : Nat) (Us : List WrA) (hT : RRl p B n Us) (hR : Rm B) (hOK : SerOK B) : CallL Try.prog f_law20_order (p.L b) [WrF Us] [.is (.pointer (some ⟨b, 0, none⟩))] (fun _ : Unit => True) (fun _ => p.L b) (fun _ => .is (.bool true)) :=
CallL.of (fn := Try.f22) Try.func22 (n := 119) rfl rfl rfl (fun _ _ => by kernel_rfl) fun E W hb0 => by
  have hN := hT.len
  have hNb := hR.bd.len
  repeat refine J.seq ?_
  refine J.plain ?_
  refine JO.t (ob_assign rfl) rfl ?_
  refine JO.nil ?_
  repeat (first | refine JX.next ?_ | refine JX.normal_block ?_)
  refine J.sel [0] (.cons rfl .nil) ?_
  repeat refine J.seq ?_
  refine J.plain ?_
  refine JO.t (ob_assign rfl) rfl ?_
  refine JO.nil ?_
  repeat (first | refine JX.next ?_ | refine JX.normal_block ?_)
  refine J.sel [0, 3] (.cons rfl (.cons rfl .nil)) ?_
  repeat refine J.seq ?_
  refine J.plain ?_
  refine JO.t (ob_move rfl) rfl ?_
  refine JO.t (ob_nilCheck rfl) rfl ?_
  refine JO.t (ob_fieldAddr fo_cadastreref20_Set_0 rfl) rfl ?_
  refine JO.t (ob_ld1 sz_sl_cadastreref20_Tx rfl (hm := ⟨List.mem_cons_self⟩) rfl) rfl ?_
  refine JO.t (ob_lenO un_sl_cadastreref20_Tx rfl (grows_none hT.wf.g)) rfl ?_
  refine JO.mkSl1 (z := .bool false) (bytes := 1) (n := p.xs.length) un_sl_bool (by kernel_rfl) rfl rfl rfl rfl rfl (by omega) (by omega) rfl (fun bg => ?_)
  refine JO.t (ob_assign rfl) rfl ?_
  refine JO.nil ?_
  repeat (first | refine JX.next ?_ | refine JX.normal_block ?_)
  refine J.sel [0, 3, 4] (.cons rfl (.cons rfl (.cons rfl .nil))) ?_
  repeat refine J.seq ?_
  refine J.plain ?_
  refine JO.t (ob_assign rfl) rfl ?_
  refine JO.nil ?_
  repeat (first | refine JX.next ?_ | refine JX.normal_block ?_)
  refine J.sel [0, 3, 4, 5] (.cons rfl (.cons rfl (.cons rfl (.cons rfl .nil)))) ?_
  repeat refine J.seq ?_
  refine J.block ?_
  repeat refine J.seq ?_
  refine J.subP (L' := gO bg (List.replicate p.xs.length false) :: p.L b) (.of_eq (by unfold gO; rw [List.map_replicate])) ?_
  refine J.loopG (α := Nat × List Bool × Nat) (fun s => [(0, .is (.pointer (some ⟨b, 0, none⟩))), (3, .is (.int .i64 (s.2.2 : Nat))), (4, .is (.slice (some ⟨bg, 0, none⟩) p.xs.length p.xs.length)), (5, .is (.int .i64 (s.1 : Nat)))]) (fun s => gO bg s.2.1 :: p.L b) (fun s => fun _ => True) (fun s => s.1 ≤ p.xs.length ∧ s.2.1.length = p.xs.length ∧ s.2.2 = cntF (s.2.1.take s.1) ∧ (∀ j, j < s.1 → s.2.1.getD j true = ((rAt p.xs (j : Nat)).s != 2)) ∧ s.2.2 ≤ s.1) (fun s => p.xs.length - s.1) (0, List.replicate p.xs.length false, 0) [0, 3, 4, 5] (.cons rfl (.cons rfl (.cons rfl (.cons rfl .nil)))) rfl (fun _ => trivial) ⟨Nat.zero_le _, List.length_replicate, rfl, fun j hj => absurd hj (Nat.not_lt_zero j), Nat.zero_le _⟩ fun ⟨i, G, lf⟩ ⟨hi, hGl, hlf, hGv, hlb⟩ => ?_
  try dsimp only
  try dsimp only at G
  try dsimp only at lf
  try dsimp only at hi
  try dsimp only at hGl
  try dsimp only at hlf
  try dsimp only at hGv
  try dsimp only at hlb
  repeat refine J.seq ?_
  refine J.plain ?_
  refine JO.t (ob_move rfl) rfl ?_
  refine JO.t (ob_move rfl) rfl ?_
  refine JO.t (ob_nilCheck rfl) rfl ?_
  refine JO.t (ob_fieldAddr fo_cadastreref20_Set_0 rfl) rfl ?_
  refine JO.t (ob_ld1 sz_sl_cadastreref20_Tx rfl (hm := ⟨List.mem_cons_of_mem _ List.mem_cons_self⟩) rfl) rfl ?_
  refine JO.t (ob_lenO un_sl_cadastreref20_Tx rfl (grows_none hT.wf.g)) rfl ?_
  refine JO.t (ob_lss rfl rfl) rfl ?_
  refine JO.nil ?_
  repeat (first | refine JX.next ?_ | refine JX.normal_block ?_)
  refine J.sel [0, 3, 4, 5, 22] (.cons rfl (.cons rfl (.cons rfl (.cons rfl (.cons rfl .nil))))) ?_
  repeat refine J.seq ?_
  refine J.cond rfl (fun ht22 => ?_) (fun ht22 => ?_)
  ·
    try simp only [decide_eq_true_eq, decide_eq_false_iff_not] at ht22
    refine J.skip ?_
    repeat (first | refine JX.next ?_ | refine JX.normal_block ?_)
    repeat refine J.seq ?_
    refine J.block ?_
    have hlt : i < p.xs.length := by omega
    repeat refine J.seq ?_
    refine J.plain ?_
    refine JO.t (ob_move rfl) rfl ?_
    refine JO.t (ob_move rfl) rfl ?_
    refine JO.t (ob_move rfl) rfl ?_
    refine JO.t (ob_nilCheck rfl) rfl ?_
    refine JO.t (ob_fieldAddr fo_cadastreref20_Set_0 rfl) rfl ?_
    refine JO.t (ob_ld1 sz_sl_cadastreref20_Tx rfl (hm := ⟨List.mem_cons_of_mem _ List.mem_cons_self⟩) rfl) rfl ?_
    refine JO.t (ob_move rfl) rfl ?_
    refine JO.t (ob_idxO el_sl_cadastreref20_Tx rfl hT.wf.g rfl (by omega) (by omega)) rfl ?_
    refine JO.t (ob_fieldAddr fo_cadastreref20_Tx_0 rfl) rfl ?_
    refine JO.t (ob_ldO1 (e := ty_cadastreref20_Tx) RX.len sz_int rfl (fun _ h => List.mem_cons_of_mem _ (rmem_l h)) hT.wf.g (rAt_get (xs := p.xs) (i := (i : Nat)) (by omega) (by omega)) rfl rfl) rfl ?_
    refine JO.t (ob_neq rfl rfl) rfl ?_
    refine JO.t (ob_indexAddr el_sl_bool rfl rfl rfl (by omega) (by omega)) rfl ?_
    refine JO.m (obm_storeF1 (cs' := (G.set i ((rAt p.xs (i : Nat)).s != 2)).map Value.bool) rfl rfl rfl rfl .here (gsp (i := i) (by omega) (by omega)) (gbl (i := i) (by omega) (by omega)) ss_bool) (by rfl) ?_
    refine JO.nil ?_
    repeat (first | refine JX.next ?_ | refine JX.normal_block ?_)
    refine J.sel [0, 3, 4, 5] (.cons rfl (.cons rfl (.cons rfl (.cons rfl .nil)))) ?_
    repeat refine J.seq ?_
    refine J.plain ?_
    refine JO.t (ob_move rfl) rfl ?_
    refine JO.t (ob_move rfl) rfl ?_
    refine JO.t (ob_indexAddr el_sl_bool rfl rfl rfl (by omega) (by omega)) rfl ?_
    refine JO.t (ob_ld1 sz_bool rfl (hm := ⟨List.mem_cons_self⟩) (gat (G := G.set i ((rAt p.xs (i : Nat)).s != 2)) (i := i) (off := 0 + ((i : Nat) : Int).toNat * 1) (by rw [List.length_set]; omega) (by omega))) rfl ?_
    refine JO.t (ob_not rfl) rfl ?_
    refine JO.nil ?_
    repeat (first | refine JX.next ?_ | refine JX.normal_block ?_)
    refine J.sel [0, 3, 4, 5, 41] (.cons rfl (.cons rfl (.cons rfl (.cons rfl (.cons rfl .nil))))) ?_
    repeat refine J.seq ?_
    refine J.cond rfl (fun ht41 => ?_) (fun ht41 => ?_)
    ·
      try simp only [decide_eq_true_eq, decide_eq_false_iff_not] at ht41
      repeat refine J.seq ?_
      refine J.plain ?_
      refine JO.t (ob_move rfl) rfl ?_
      refine JO.t (ob_addc (cc := ((lf + 1 : Nat) : Int)) rfl rfl (by omega) (by omega) (by have := hlb; omega)) rfl ?_
      refine JO.t (ob_assign rfl) rfl ?_
      refine JO.nil ?_
      repeat (first | refine JX.next ?_ | refine JX.normal_block ?_)
      refine J.sel [0, 3, 4, 5] (.cons rfl (.cons rfl (.cons rfl (.cons rfl .nil)))) ?_
      repeat refine J.seq ?_
      refine J.plain ?_
      refine JO.t (ob_move rfl) rfl ?_
      refine JO.t (ob_addc (cc := ((i + 1 : Nat) : Int)) rfl rfl (by omega) (by omega) (by omega)) rfl ?_
      refine JO.t (ob_assign rfl) rfl ?_
      refine JO.nil ?_
      repeat refine JX.normal_block ?_
      refine JX.roundG (x := (i, G, lf)) (i + 1, G.set i ((rAt p.xs (i : Nat)).s != 2), lf + 1) ?_ ?_ [0, 3, 4, 5] ?_ ?_ ?_ ?_
      · exact ⟨by simp only; omega, by rw [List.length_set]; exact hGl, by simp only; rw [cntF_take (by omega), ← hlf]; rw [gv_set (by omega)] at ht41; simp at ht41; simp [ht41], gv_all hGl hlt hGv, by simp only; omega⟩
      · exact (by simp only; omega)
      · exact (.cons rfl (.cons rfl (.cons rfl (.cons rfl .nil))))
      · repeat (first | exact .all | exact .nil | refine Has.own (by repeat (first | exact .here | apply Tl.past | apply Tl.there)) ?_ | refine Has.cons (by repeat (first | exact .here | apply Pk.past | apply Pk.there)) ?_)
      · exact fun G hG => by repeat (first | exact hG | refine List.mem_cons_of_mem _ ?_)
      · exact fun _ _ _ => fun _ _ => trivial
    ·
      try simp only [decide_eq_true_eq, decide_eq_false_iff_not] at ht41
      refine J.skip ?_
      repeat (first | refine JX.next ?_ | refine JX.normal_block ?_)
      repeat refine J.seq ?_
      refine J.plain ?_
      refine JO.t (ob_move rfl) rfl ?_
      refine JO.t (ob_addc (cc := ((i + 1 : Nat) : Int)) rfl rfl (by omega) (by omega) (by omega)) rfl ?_
      refine JO.t (ob_assign rfl) rfl ?_
      refine JO.nil ?_
      repeat refine JX.normal_block ?_
      refine JX.roundG (x := (i, G, lf)) (i + 1, G.set i ((rAt p.xs (i : Nat)).s != 2), lf) ?_ ?_ [0, 3, 4, 5] ?_ ?_ ?_ ?_
      · exact ⟨by simp only; omega, by rw [List.length_set]; exact hGl, by simp only; rw [cntF_take (by omega), ← hlf]; rw [gv_set (by omega)] at ht41; simp at ht41; simp [ht41], gv_all hGl hlt hGv, by simp only; omega⟩
      · exact (by simp only; omega)
      · exact (.cons rfl (.cons rfl (.cons rfl (.cons rfl .nil))))
      · repeat (first | exact .all | exact .nil | refine Has.own (by repeat (first | exact .here | apply Tl.past | apply Tl.there)) ?_ | refine Has.cons (by repeat (first | exact .here | apply Pk.past | apply Pk.there)) ?_)
      · exact fun G hG => by repeat (first | exact hG | refine List.mem_cons_of_mem _ ?_)
      · exact fun _ _ _ => fun _ _ => trivial
  ·
    try simp only [decide_eq_true_eq, decide_eq_false_iff_not] at ht22
    repeat refine J.seq ?_
    refine J.exit ?_
    repeat (first | refine JX.hit ?_ | refine JX.miss rfl ?_ | refine JX.exit_pass ?_)
    repeat (first | refine JX.next ?_ | refine JX.normal_block ?_)
    repeat refine J.seq ?_
    refine J.block ?_
    repeat refine J.seq ?_
    obtain rfl : i = p.xs.length := by omega
    have hGs0 : ∀ j, G.getD j true = false → (aAt B j).s = 2 := fun j hj => by
      have hjl := lt_of_false hj
      have h1 := hGv j (by omega)
      rw [hj] at h1
      rw [← hT.ab, absL_nat (by omega)]
      show (rAt p.xs (j : Nat)).s = 2
      simpa using h1.symm
    have hlf0 : lf = cntF G := by rw [hlf, List.take_of_length_le (by omega)]
    refine J.loopG (α := List Bool × Nat) (fun s => [(0, .is (.pointer (some ⟨b, 0, none⟩))), (3, .is (.int .i64 (s.2 : Nat))), (4, .is (.slice (some ⟨bg, 0, none⟩) p.xs.length p.xs.length))]) (fun s => gO bg s.1 :: p.L b) (fun s => fun _ => True) (fun s => s.1.length = p.xs.length ∧ s.2 = cntF s.1 ∧ ∀ j, s.1.getD j true = false → (aAt B j).s = 2) (fun s => s.2) (G, lf) [0, 3, 4] (.cons rfl (.cons rfl (.cons rfl .nil))) rfl (fun _ => trivial) ⟨hGl, hlf0, hGs0⟩ fun ⟨G, lf⟩ ⟨hGl, hlf, hGs⟩ => ?_
    try dsimp only
    try dsimp only at lf
    try dsimp only at hGl
    try dsimp only at hlf
    try dsimp only at hGs
    repeat refine J.seq ?_
    refine J.plain ?_
    refine JO.t (ob_move rfl) rfl ?_
    refine JO.t (ob_gtr rfl rfl) rfl ?_
    refine JO.nil ?_
    repeat (first | refine JX.next ?_ | refine JX.normal_block ?_)
    refine J.sel [0, 3, 4, 45] (.cons rfl (.cons rfl (.cons rfl (.cons rfl .nil)))) ?_
    repeat refine J.seq ?_
    refine J.cond rfl (fun ht45 => ?_) (fun ht45 => ?_)
    ·
      try simp only [decide_eq_true_eq, decide_eq_false_iff_not] at ht45
      refine J.skip ?_
      repeat (first | refine JX.next ?_ | refine JX.normal_block ?_)
      repeat refine J.seq ?_
      refine J.block ?_
      repeat refine J.seq ?_
      refine J.plain ?_
      refine JO.t (ob_assign rfl) rfl ?_
      refine JO.nil ?_
      repeat (first | refine JX.next ?_ | refine JX.normal_block ?_)
      refine J.sel [0, 3, 4, 6] (.cons rfl (.cons rfl (.cons rfl (.cons rfl .nil)))) ?_
      repeat refine J.seq ?_
      refine J.plain ?_
      refine JO.t (ob_assign rfl) rfl ?_
      refine JO.nil ?_
      repeat (first | refine JX.next ?_ | refine JX.normal_block ?_)
      refine J.sel [0, 3, 4, 6, 7] (.cons rfl (.cons rfl (.cons rfl (.cons rfl (.cons rfl .nil))))) ?_
      repeat refine J.seq ?_
      refine J.block ?_
      repeat refine J.seq ?_
      refine J.loopG (α := Nat × Bool × List Bool × Nat) (fun s => [(0, .is (.pointer (some ⟨b, 0, none⟩))), (3, .is (.int .i64 (s.2.2.2 : Nat))), (4, .is (.slice (some ⟨bg, 0, none⟩) p.xs.length p.xs.length)), (6, .is (.bool s.2.1)), (7, .is (.int .i64 (s.1 : Nat)))]) (fun s => gO bg s.2.2.1 :: p.L b) (fun s => fun _ => True) (fun s => s.1 ≤ p.xs.length ∧ (s.2.1 = false → s.2.2.1 = G ∧ s.2.2.2 = lf ∧ ∀ j, j < s.1 → srcT B G j p.xs.length = false) ∧ (s.2.1 = true → ∃ j, j < p.xs.length ∧ G.getD j true = false ∧ s.2.2.1 = G.set j true ∧ s.2.2.2 + 1 = lf)) (fun s => p.xs.length - s.1) (0, false, G, lf) [0, 3, 4, 6, 7] (.cons rfl (.cons rfl (.cons rfl (.cons rfl (.cons rfl .nil))))) rfl (fun _ => trivial) ⟨Nat.zero_le _, fun _ => ⟨rfl, rfl, fun j hj => absurd hj (Nat.not_lt_zero j)⟩, fun h => (by cases h)⟩ fun ⟨i, tk, G2, lf2⟩ ⟨hi, htf, htt⟩ => ?_
      try dsimp only
      try dsimp only at tk
      try dsimp only at G2
      try dsimp only at lf2
      try dsimp only at hi
      try dsimp only at htf
      try dsimp only at htt
      repeat refine J.seq ?_
      refine J.reg0 hmx (by kernel_rfl) (by kernel_rfl) ?_
      refine RT.t (ob_move rfl) ?_
      refine RT.t (ob_move rfl) ?_
      refine RT.t (ob_nilCheck rfl) ?_
      refine RT.t (ob_fieldAddr fo_cadastreref20_Set_0 rfl) ?_
      refine RT.t (ob_ld1 sz_sl_cadastreref20_Tx rfl (hm := ⟨List.mem_cons_of_mem _ List.mem_cons_self⟩) rfl) ?_
      refine RT.t (ob_lenO un_sl_cadastreref20_Tx rfl (grows_none hT.wf.g)) ?_
      refine RT.t (ob_lss rfl rfl) ?_
      refine RT.t (ob_move rfl) ?_
      refine RT.g rfl rfl rfl (fun hg => ob_move (.inl rfl)) ?_
      refine RT.g rfl rfl rfl (fun hg => ob_not (.inr ⟨_, rfl, fun h => h⟩)) ?_
      refine RT.t (ob_pickAnd rfl rfl rfl id) ?_
      refine RT.nil ?_
      refine FinS.nil0 ?_
      repeat (first | refine JX.next ?_ | refine JX.normal_block ?_)
      refine J.sel [0, 3, 4, 6, 7, 56] (.cons rfl (.cons rfl (.cons rfl (.cons rfl (.cons rfl (.cons rfl .nil)))))) ?_
      repeat refine J.seq ?_
      refine J.cond rfl (fun ht56 => ?_) (fun ht56 => ?_)
      ·
        try simp only [decide_eq_true_eq, decide_eq_false_iff_not] at ht56
        refine J.skip ?_
        repeat (first | refine JX.next ?_ | refine JX.normal_block ?_)
        repeat refine J.seq ?_
        refine J.block ?_
        obtain ⟨hlt, rfl⟩ : i < p.xs.length ∧ tk = false := by simp at ht56; exact ⟨by omega, ht56.2⟩
        obtain ⟨hGe, hle, hno⟩ := htf rfl
        have hG2l : G2.length = p.xs.length := by rw [hGe]; exact hGl
        repeat refine J.seq ?_
        refine J.plain ?_
        refine JO.t (ob_move rfl) rfl ?_
        refine JO.t (ob_move rfl) rfl ?_
        refine JO.t (ob_indexAddr el_sl_bool rfl rfl rfl (by omega) (by omega)) rfl ?_
        refine JO.t (ob_ld1 sz_bool rfl (hm := ⟨List.mem_cons_self⟩) (gat (G := G2) (i := i) (off := 0 + ((i : Nat) : Int).toNat * 1) (by omega) (by omega))) rfl ?_
        refine JO.t (ob_not rfl) rfl ?_
        refine JO.t (ob_assign rfl) rfl ?_
        refine JO.nil ?_
        repeat (first | refine JX.next ?_ | refine JX.normal_block ?_)
        refine J.sel [0, 3, 4, 6, 7, 8] (.cons rfl (.cons rfl (.cons rfl (.cons rfl (.cons rfl (.cons rfl .nil)))))) ?_
        repeat refine J.seq ?_
        refine J.plain ?_
        refine JO.t (ob_assign rfl) rfl ?_
        refine JO.nil ?_
        repeat (first | refine JX.next ?_ | refine JX.normal_block ?_)
        refine J.sel [0, 3, 4, 6, 7, 8, 9] (.cons rfl (.cons rfl (.cons rfl (.cons rfl (.cons rfl (.cons rfl (.cons rfl .nil))))))) ?_
        repeat refine J.seq ?_
        refine J.block ?_
        repeat refine J.seq ?_
        refine J.loopG (α := Nat × Bool) (fun s => [(0, .is (.pointer (some ⟨b, 0, none⟩))), (3, .is (.int .i64 (lf2 : Nat))), (4, .is (.slice (some ⟨bg, 0, none⟩) p.xs.length p.xs.length)), (6, .is (.bool false)), (7, .is (.int .i64 (i : Nat))), (8, .is (.bool s.2)), (9, .is (.int .i64 (s.1 : Nat)))]) (fun s => gO bg G2 :: p.L b) (fun s => fun _ => True) (fun s => s.1 ≤ p.xs.length ∧ s.2 = srcT B G2 i s.1) (fun s => p.xs.length - s.1) (0, !G2.getD i true) [0, 3, 4, 6, 7, 8, 9] (.cons rfl (.cons rfl (.cons rfl (.cons rfl (.cons rfl (.cons rfl (.cons rfl .nil))))))) rfl (fun _ => trivial) ⟨Nat.zero_le _, by unfold srcT; simp⟩ fun ⟨k, fr⟩ ⟨hk, hfr⟩ => ?_
        try dsimp only
        try dsimp only at fr
        try dsimp only at hk
        try dsimp only at hfr
        repeat refine J.seq ?_
        refine J.reg0 hmx (by kernel_rfl) (by kernel_rfl) ?_
        refine RT.t (ob_move rfl) ?_
        refine RT.t (ob_move rfl) ?_
        refine RT.t (ob_nilCheck rfl) ?_
        refine RT.t (ob_fieldAddr fo_cadastreref20_Set_0 rfl) ?_
        refine RT.t (ob_ld1 sz_sl_cadastreref20_Tx rfl (hm := ⟨List.mem_cons_of_mem _ List.mem_cons_self⟩) rfl) ?_
        refine RT.t (ob_lenO un_sl_cadastreref20_Tx rfl (grows_none hT.wf.g)) ?_
        refine RT.t (ob_lss rfl rfl) ?_
        refine RT.t (ob_move rfl) ?_
        refine RT.g rfl rfl rfl (fun hg => ob_move (.inl rfl)) ?_
        refine RT.t (ob_pickAnd rfl rfl rfl id) ?_
        refine RT.nil ?_
        refine FinS.nil0 ?_
        repeat (first | refine JX.next ?_ | refine JX.normal_block ?_)
        refine J.sel [0, 3, 4, 6, 7, 8, 9, 73] (.cons rfl (.cons rfl (.cons rfl (.cons rfl (.cons rfl (.cons rfl (.cons rfl (.cons rfl .nil)))))))) ?_
        repeat refine J.seq ?_
        refine J.cond rfl (fun ht73 => ?_) (fun ht73 => ?_)
        ·
          try simp only [decide_eq_true_eq, decide_eq_false_iff_not] at ht73
          refine J.skip ?_
          repeat (first | refine JX.next ?_ | refine JX.normal_block ?_)
          repeat refine J.seq ?_
          refine J.block ?_
          obtain ⟨hkl, rfl⟩ : k < p.xs.length ∧ fr = true := by simp at ht73; exact ⟨by omega, ht73.2⟩
          refine J.nodup fun hnd => ?_
          have hndR : ((p.L b).map (·.b)).Nodup := (List.nodup_cons.1 hnd).2
          have hbad := bad_of (G := G2) hT.ab hlt hkl
          repeat refine J.seq ?_
          refine J.reg0 hmx (by kernel_rfl) (by kernel_rfl) ?_
          refine RT.t (ob_move rfl) ?_
          refine RT.t (ob_move rfl) ?_
          refine RT.t (ob_neq rfl rfl) ?_
          refine RT.t (ob_move rfl) ?_
          refine RT.g rfl rfl rfl (fun hg => ob_move (.inl rfl)) ?_
          refine RT.g rfl rfl rfl (fun hg => ob_move (.inl rfl)) ?_
          refine RT.g rfl rfl rfl (fun hg => ob_indexAddr el_sl_bool (.inr ⟨_, rfl, fun h => h⟩) rfl (.inr ⟨_, rfl, fun h => h⟩) (by omega) (by omega)) ?_
          refine RT.g rfl rfl rfl (fun hg => ob_ld1 sz_bool (.inr ⟨_, rfl, fun h => h⟩) (hm := ⟨List.mem_cons_self⟩) (gat (G := G2) (i := k) (off := 0 + ((k : Nat) : Int).toNat * 1) (by omega) (by omega))) ?_
          refine RT.g rfl rfl rfl (fun hg => ob_not (.inr ⟨_, rfl, fun h => h⟩)) ?_
          refine RT.t (ob_pickAnd rfl rfl rfl id) ?_
          refine RT.t (ob_move rfl) ?_
          refine RT.g rfl rfl rfl (fun hg => ob_move (.inl rfl)) ?_
          refine RT.g rfl rfl rfl (fun hg => ob_move (.inl rfl)) ?_
          refine RT.g rfl rfl rfl (fun hg => ob_move (.inl rfl)) ?_
          refine RT.g rfl rfl rfl (fun hg => ob_callB (.inl rfl) (r_Edge hT hR (k : Nat) (i : Nat) (by omega) (by omega) (by omega) (by omega)) p.ob (fun o1 ho => List.mem_cons_of_mem _ ho) (fun _ _ _ => hndR) (one_in (by repeat (first | exact List.mem_cons_self | apply List.mem_cons_of_mem))) (.one (.inr ⟨_, rfl, fun h => h⟩) (.one (.inr ⟨_, rfl, fun h => h⟩) (.one (.inr ⟨_, rfl, fun h => h⟩) .nil)))) ?_
          refine RT.g rfl rfl rfl (fun hg => ob_move (.inr ⟨_, rfl, fun h => h⟩)) ?_
          refine RT.gg rfl rfl rfl (fun hg => (ob_move (.inl rfl))) ?_
          refine RT.gg rfl rfl rfl (fun hg => (ob_nilCheck (.inr ⟨_, rfl, fun h => h⟩))) ?_
          refine RT.gg rfl rfl rfl (fun hg => (ob_fieldAddr fo_cadastreref20_Set_0 (.inr ⟨_, rfl, fun h => h⟩))) ?_
          refine RT.gg rfl rfl rfl (fun hg => (ob_ld1 sz_sl_cadastreref20_Tx (.inr ⟨_, rfl, fun h => h⟩) (hm := ⟨List.mem_cons_of_mem _ List.mem_cons_self⟩) rfl)) ?_
          refine RT.gg rfl rfl rfl (fun hg => (ob_move (.inl rfl))) ?_
          refine RT.gg rfl rfl rfl (fun hg => (ob_idxO el_sl_cadastreref20_Tx (.inr ⟨_, rfl, fun h => h⟩) hT.wf.g (.inr ⟨_, rfl, fun h => h⟩) (by omega) (by omega))) ?_
          refine RT.gg rfl rfl rfl (fun hg => (ob_fieldAddr fo_cadastreref20_Tx_2 (.inr ⟨_, rfl, fun h => h⟩))) ?_
          refine RT.gg rfl rfl rfl (fun hg => (ob_ldO1 (e := ty_cadastreref20_Tx) RX.len sz_int (.inr ⟨_, rfl, fun h => h⟩) (fun _ h => List.mem_cons_of_mem _ (rmem_l h)) hT.wf.g (rAt_get (xs := p.xs) (i := (k : Nat)) (by omega) (by omega)) rfl rfl)) ?_
          refine RT.gg rfl rfl rfl (fun hg => (ob_move (.inl rfl))) ?_
          refine RT.gg rfl rfl rfl (fun hg => (ob_nilCheck (.inr ⟨_, rfl, fun h => h⟩))) ?_
          refine RT.gg rfl rfl rfl (fun hg => (ob_fieldAddr fo_cadastreref20_Set_0 (.inr ⟨_, rfl, fun h => h⟩))) ?_
          refine RT.gg rfl rfl rfl (fun hg => (ob_ld1 sz_sl_cadastreref20_Tx (.inr ⟨_, rfl, fun h => h⟩) (hm := ⟨List.mem_cons_of_mem _ List.mem_cons_self⟩) rfl)) ?_
          refine RT.gg rfl rfl rfl (fun hg => (ob_move (.inl rfl))) ?_
          refine RT.gg rfl rfl rfl (fun hg => (ob_idxO el_sl_cadastreref20_Tx (.inr ⟨_, rfl, fun h => h⟩) hT.wf.g (.inr ⟨_, rfl, fun h => h⟩) (by omega) (by omega))) ?_
          refine RT.gg rfl rfl rfl (fun hg => (ob_fieldAddr fo_cadastreref20_Tx_1 (.inr ⟨_, rfl, fun h => h⟩))) ?_
          refine RT.gg rfl rfl rfl (fun hg => (ob_ldO1 (e := ty_cadastreref20_Tx) RX.len sz_int (.inr ⟨_, rfl, fun h => h⟩) (fun _ h => List.mem_cons_of_mem _ (rmem_l h)) hT.wf.g (rAt_get (xs := p.xs) (i := (i : Nat)) (by omega) (by omega)) rfl rfl)) ?_
          refine RT.gg rfl rfl rfl (fun hg => (ob_lss (.inr ⟨_, rfl, fun h => h⟩) (.inr ⟨_, rfl, fun h => h⟩))) ?_
          refine RT.g rfl rfl rfl (fun hg => ob_pickOr (.inr ⟨_, rfl, fun h => h⟩) (.inl rfl) (.inl rfl) (fun h => ⟨hg, h⟩)) ?_
          refine RT.t (ob_pickAnd rfl rfl rfl id) ?_
          refine RT.nil ?_
          refine FinS.nil0 ?_
          repeat (first | refine JX.next ?_ | refine JX.normal_block ?_)
          refine J.sel [0, 3, 4, 6, 7, 8, 9, 110] (.cons rfl (.cons rfl (.cons rfl (.cons rfl (.cons rfl (.cons rfl (.cons rfl (.cons rfl .nil)))))))) ?_
          repeat refine J.seq ?_
          refine J.cond rfl (fun ht110 => ?_) (fun ht110 => ?_)
          ·
            try simp only [decide_eq_true_eq, decide_eq_false_iff_not] at ht110
            repeat refine J.seq ?_
            refine J.plain ?_
            refine JO.t (ob_assign rfl) rfl ?_
            refine JO.nil ?_
            repeat (first | refine JX.next ?_ | refine JX.normal_block ?_)
            refine J.sel [0, 3, 4, 6, 7, 8, 9] (.cons rfl (.cons rfl (.cons rfl (.cons rfl (.cons rfl (.cons rfl (.cons rfl .nil))))))) ?_
            repeat refine J.seq ?_
            refine J.plain ?_
            refine JO.t (ob_move rfl) rfl ?_
            refine JO.t (ob_addc (cc := ((k + 1 : Nat) : Int)) rfl rfl (by omega) (by omega) (by omega)) rfl ?_
            refine JO.t (ob_assign rfl) rfl ?_
            refine JO.nil ?_
            repeat refine JX.normal_block ?_
            refine JX.roundG (x := (k, true)) (k + 1, false) ?_ ?_ [0, 3, 4, 6, 7, 8, 9] ?_ ?_ ?_ ?_
            · exact ⟨by simp only; omega, by show false = srcT B G2 i (k + 1); rw [srcT_succ, ← hbad, ht110]; simp⟩
            · exact (by simp only; omega)
            · exact (.cons rfl (.cons rfl (.cons rfl (.cons rfl (.cons rfl (.cons rfl (.cons rfl .nil)))))))
            · repeat (first | exact .all | exact .nil | refine Has.own (by repeat (first | exact .here | apply Tl.past | apply Tl.there)) ?_ | refine Has.cons (by repeat (first | exact .here | apply Pk.past | apply Pk.there)) ?_)
            · exact fun G hG => by repeat (first | exact hG | refine List.mem_cons_of_mem _ ?_)
            · exact fun _ _ _ => fun _ _ => trivial
          ·
            try simp only [decide_eq_true_eq, decide_eq_false_iff_not] at ht110
            refine J.skip ?_
            repeat (first | refine JX.next ?_ | refine JX.normal_block ?_)
            repeat refine J.seq ?_
            refine J.plain ?_
            refine JO.t (ob_move rfl) rfl ?_
            refine JO.t (ob_addc (cc := ((k + 1 : Nat) : Int)) rfl rfl (by omega) (by omega) (by omega)) rfl ?_
            refine JO.t (ob_assign rfl) rfl ?_
            refine JO.nil ?_
            repeat refine JX.normal_block ?_
            refine JX.roundG (x := (k, true)) (k + 1, true) ?_ ?_ [0, 3, 4, 6, 7, 8, 9] ?_ ?_ ?_ ?_
            · exact ⟨by simp only; omega, by show true = srcT B G2 i (k + 1); rw [srcT_succ, ← hbad, ht110, ← hfr]; rfl⟩
            · exact (by simp only; omega)
            · exact (.cons rfl (.cons rfl (.cons rfl (.cons rfl (.cons rfl (.cons rfl (.cons rfl .nil)))))))
            · repeat (first | exact .all | exact .nil | refine Has.own (by repeat (first | exact .here | apply Tl.past | apply Tl.there)) ?_ | refine Has.cons (by repeat (first | exact .here | apply Pk.past | apply Pk.there)) ?_)
            · exact fun G hG => by repeat (first | exact hG | refine List.mem_cons_of_mem _ ?_)
            · exact fun _ _ _ => fun _ _ => trivial
        ·
          try simp only [decide_eq_true_eq, decide_eq_false_iff_not] at ht73
          repeat refine J.seq ?_
          refine J.exit ?_
          repeat (first | refine JX.hit ?_ | refine JX.miss rfl ?_ | refine JX.exit_pass ?_)
          repeat (first | refine JX.next ?_ | refine JX.normal_block ?_)
          have hfin : fr = srcT B G2 i p.xs.length := by
            cases hf : fr with
            | true =>
              have : k = p.xs.length := by simp [hf] at ht73; omega
              rw [← this, ← hfr, hf]
            | false => rw [srcT_mono hk (by rw [← hfr, hf])]
          repeat refine J.seq ?_
          refine J.plain ?_
          refine JO.t (ob_move rfl) rfl ?_
          refine JO.nil ?_
          repeat (first | refine JX.next ?_ | refine JX.normal_block ?_)
          refine J.sel [0, 3, 4, 6, 7, 111] (.cons rfl (.cons rfl (.cons rfl (.cons rfl (.cons rfl (.cons rfl .nil)))))) ?_
          repeat refine J.seq ?_
          refine J.cond rfl (fun ht111 => ?_) (fun ht111 => ?_)
          ·
            try simp only [decide_eq_true_eq, decide_eq_false_iff_not] at ht111
            have hcl : cntF G ≤ G.length := List.length_filter_le _ _
            have hGi : G.getD i true = false := by
              rw [← hGe]
              rw [hfin] at ht111
              unfold srcT at ht111
              rw [Bool.and_eq_true] at ht111
              simpa using ht111.1
            repeat refine J.seq ?_
            refine J.plain ?_
            refine JO.t (ob_move rfl) rfl ?_
            refine JO.t (ob_move rfl) rfl ?_
            refine JO.t (ob_indexAddr el_sl_bool rfl rfl rfl (by omega) (by omega)) rfl ?_
            refine JO.m (obm_storeF1 (cs' := (G2.set i true).map Value.bool) rfl rfl rfl rfl .here (gsp (i := i) (by omega) (by omega)) (gbl (i := i) (by omega) (by omega)) ss_bool) (by rfl) ?_
            refine JO.nil ?_
            repeat (first | refine JX.next ?_ | refine JX.normal_block ?_)
            refine J.sel [0, 3, 4, 7] (.cons rfl (.cons rfl (.cons rfl (.cons rfl .nil)))) ?_
            repeat refine J.seq ?_
            refine J.plain ?_
            refine JO.t (ob_assign rfl) rfl ?_
            refine JO.nil ?_
            repeat (first | refine JX.next ?_ | refine JX.normal_block ?_)
            refine J.sel [0, 3, 4, 6, 7] (.cons rfl (.cons rfl (.cons rfl (.cons rfl (.cons rfl .nil))))) ?_
            repeat refine J.seq ?_
            refine J.plain ?_
            refine JO.t (ob_move rfl) rfl ?_
            refine JO.t (ob_subc (cc := ((lf2 - 1 : Nat) : Int)) rfl rfl (by omega) (by omega) (by omega)) rfl ?_
            refine JO.t (ob_assign rfl) rfl ?_
            refine JO.nil ?_
            repeat (first | refine JX.next ?_ | refine JX.normal_block ?_)
            refine J.sel [0, 3, 4, 6, 7] (.cons rfl (.cons rfl (.cons rfl (.cons rfl (.cons rfl .nil))))) ?_
            repeat refine J.seq ?_
            refine J.plain ?_
            refine JO.t (ob_move rfl) rfl ?_
            refine JO.t (ob_addc (cc := ((i + 1 : Nat) : Int)) rfl rfl (by omega) (by omega) (by omega)) rfl ?_
            refine JO.t (ob_assign rfl) rfl ?_
            refine JO.nil ?_
            repeat refine JX.normal_block ?_
            refine JX.roundG (x := (i, false, G2, lf2)) (i + 1, true, G2.set i true, lf2 - 1) ?_ ?_ [0, 3, 4, 6, 7] ?_ ?_ ?_ ?_
            · exact ⟨by simp only; omega, fun h => (by cases h), fun _ => ⟨i, hlt, hGi, by rw [hGe], by simp only; omega⟩⟩
            · exact (by simp only; omega)
            · exact (.cons rfl (.cons rfl (.cons rfl (.cons rfl (.cons rfl .nil)))))
            · repeat (first | exact .all | exact .nil | refine Has.own (by repeat (first | exact .here | apply Tl.past | apply Tl.there)) ?_ | refine Has.cons (by repeat (first | exact .here | apply Pk.past | apply Pk.there)) ?_)
            · exact fun G hG => by repeat (first | exact hG | refine List.mem_cons_of_mem _ ?_)
            · exact fun _ _ _ => fun _ _ => trivial
          ·
            try simp only [decide_eq_true_eq, decide_eq_false_iff_not] at ht111
            refine J.skip ?_
            repeat (first | refine JX.next ?_ | refine JX.normal_block ?_)
            repeat refine J.seq ?_
            refine J.plain ?_
            refine JO.t (ob_move rfl) rfl ?_
            refine JO.t (ob_addc (cc := ((i + 1 : Nat) : Int)) rfl rfl (by omega) (by omega) (by omega)) rfl ?_
            refine JO.t (ob_assign rfl) rfl ?_
            refine JO.nil ?_
            repeat refine JX.normal_block ?_
            refine JX.roundG (x := (i, false, G2, lf2)) (i + 1, false, G2, lf2) ?_ ?_ [0, 3, 4, 6, 7] ?_ ?_ ?_ ?_
            · exact ⟨by simp only; omega, fun _ => ⟨hGe, hle, fun j hj => (by
  have hj2 : j < i + 1 := hj
  rcases Nat.lt_or_ge j i with h | h
  · exact hno j h
  · have h3 : j = i := by omega
    subst h3
    rw [← hGe, ← hfin]; exact ht111)⟩, fun h => (by cases h)⟩
            · exact (by simp only; omega)
            · exact (.cons rfl (.cons rfl (.cons rfl (.cons rfl (.cons rfl .nil)))))
            · repeat (first | exact .all | exact .nil | refine Has.own (by repeat (first | exact .here | apply Tl.past | apply Tl.there)) ?_ | refine Has.cons (by repeat (first | exact .here | apply Pk.past | apply Pk.there)) ?_)
            · exact fun G hG => by repeat (first | exact hG | refine List.mem_cons_of_mem _ ?_)
            · exact fun _ _ _ => fun _ _ => trivial
      ·
        try simp only [decide_eq_true_eq, decide_eq_false_iff_not] at ht56
        repeat refine J.seq ?_
        refine J.exit ?_
        repeat (first | refine JX.hit ?_ | refine JX.miss rfl ?_ | refine JX.exit_pass ?_)
        repeat (first | refine JX.next ?_ | refine JX.normal_block ?_)
        repeat refine J.seq ?_
        refine J.plain ?_
        refine JO.t (ob_move rfl) rfl ?_
        refine JO.t (ob_not rfl) rfl ?_
        refine JO.nil ?_
        repeat (first | refine JX.next ?_ | refine JX.normal_block ?_)
        refine J.sel [0, 3, 4, 118] (.cons rfl (.cons rfl (.cons rfl (.cons rfl .nil)))) ?_
        repeat refine J.seq ?_
        refine J.cond rfl (fun ht118 => ?_) (fun ht118 => ?_)
        ·
          try simp only [decide_eq_true_eq, decide_eq_false_iff_not] at ht118
          exfalso
          obtain ⟨hG2, hl2, hno2⟩ := htf (by simpa using ht118)
          have hi2 : i = p.xs.length := by
            have ht0 : tk = false := by simpa using ht118
            simp [ht0] at ht56; omega
          obtain ⟨j, hj, hjs⟩ := hOK G (by omega) hGs (cntF_pos (by omega))
          rw [← hN] at hj hjs
          rw [hno2 j (by omega)] at hjs
          cases hjs
        ·
          try simp only [decide_eq_true_eq, decide_eq_false_iff_not] at ht118
          refine J.skip ?_
          repeat refine JX.normal_block ?_
          refine JX.roundG (x := (G, lf)) (G2, lf2) ?_ ?_ [0, 3, 4] ?_ ?_ ?_ ?_
          · exact (by
  have ht0 : tk = true := by simpa using ht118
  obtain ⟨j, hj, hjf, rfl, hl2⟩ := htt ht0
  refine ⟨by rw [List.length_set]; exact hGl, by have := cntF_set hjf; simp only; omega, fun j2 hj2 => ?_⟩
  rw [getD_set (by omega)] at hj2
  split at hj2
  · cases hj2
  · exact hGs j2 hj2)
          · exact (by
  have ht0 : tk = true := by simpa using ht118
  obtain ⟨j, hj, hjf, rfl, hl2⟩ := htt ht0
  simp only; omega)
          · exact (.cons rfl (.cons rfl (.cons rfl .nil)))
          · repeat (first | exact .all | exact .nil | refine Has.own (by repeat (first | exact .here | apply Tl.past | apply Tl.there)) ?_ | refine Has.cons (by repeat (first | exact .here | apply Pk.past | apply Pk.there)) ?_)
          · exact fun G hG => by repeat (first | exact hG | refine List.mem_cons_of_mem _ ?_)
          · exact fun _ _ _ => fun _ _ => trivial
    ·
      try simp only [decide_eq_true_eq, decide_eq_false_iff_not] at ht45
      repeat refine J.seq ?_
      refine J.exit ?_
      repeat (first | refine JX.hit ?_ | refine JX.miss rfl ?_ | refine JX.exit_pass ?_)
      repeat (first | refine JX.next ?_ | refine JX.normal_block ?_)
      repeat refine J.seq ?_
      refine J.plain ?_
      refine JO.t (ob_assign rfl) rfl ?_
      refine JO.nil ?_
      repeat (first | refine JX.next ?_ | refine JX.normal_block ?_)
      refine J.sel [2] (.cons rfl .nil) ?_
      repeat refine J.seq ?_
      refine J.ret ?_
      repeat (first | refine JX.ret_pass ?_ | refine JX.ret_block ?_)
      exact JX.retL1 (Lr := [_]) (L1 := fun _ : Unit => p.L b) (R := fun _ => .is (.bool true)) rfl () trivial (List.perm_append_singleton _ _).symm (ob_out p.ob) rfl hb0 rfl (Sub.isEq rfl)
end Go.Proofs.Ytggmifnkgcladaa
