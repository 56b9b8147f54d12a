/- ref20: Commit. No condition. -/
import Derived.Test.YtggmifnkgcladaaXN6
import Derived.Test.YtggmifnkgcladaaXG6
set_option maxRecDepth 20000
namespace Go.Proofs.Ytggmifnkgcladaa
open Go Go.Vc
open Go.Si
def cm2 (x : RX) : RX := { x with s := 2 }
def cmD (n : Nat) (x : RX) : RX := { x with s := 2, done := n }
def cmS (st : Option (Nat × List Value)) (xs : List RX) (n : Nat) (k : Int) : Option (Nat × List Value) := stS (stS st (k - 1).toNat (cm2 (rAt xs (k - 1)))) (k - 1).toNat (cmD n (rAt xs (k - 1)))
def cmL (xs : List RX) (n : Nat) (k : Int) : List RX := (xs.set (k - 1).toNat (cm2 (rAt xs (k - 1)))).set (k - 1).toNat (cmD n (rAt xs (k - 1)))
def cmR (st : Option (Nat × List Value)) (xs : List RX) (sp : Nat) (k : Int) : Option (Nat × List Value) × List RX × Int × Nat :=
  if actR xs k != 0 then (st, xs, actR xs k, sp) else if pvR xs (k - 1) then (abS st xs k, abL xs k, 40, sp) else (cmS st xs (sp + 1) k, cmL xs (sp + 1) k, 0, sp + 1)
theorem c_p_ref20_Set_Commit (b sp : Nat) (st : Option (Nat × List Value)) (cap : Nat) (xs : List RX) (hW : RWf st cap xs) (U : List WrA) (hU : ∀ x ∈ xs, ∀ w ∈ x.writes, w ∈ U) (hrl : ∀ x ∈ xs, x.reads.length ≤ 4611686018427387904) (hwl : ∀ x ∈ xs, x.writes.length ≤ 4611686018427387904) (hl : xs.length ≤ 1048576) (hsp : sp ≤ 4611686018427387904) (k : Int) : CallL Try.prog f_p_ref20_Set_Commit (RL b sp st cap xs) [WrF U] [.is (.pointer (some ⟨b, 0, none⟩)), .is (.int .i64 k)] (fun z => z = cmR st xs sp k) (fun z => RL b z.2.2.2 z.1 cap z.2.1) (fun z => .is (.int .i64 z.2.2.1)) :=
CallL.of (fn := Try.f26) Try.func26 (n := 51) rfl rfl rfl (fun _ _ => by kernel_rfl) fun E W hb0 => by
  refine J.nodup fun hnd => ?_
  repeat refine J.seq ?_
  refine J.plain ?_
  refine JO.t (ob_assign rfl) rfl ?_
  refine JO.nil ?_
  repeat (first | refine JX.next ?_ | refine JX.normal_block ?_)
  refine J.sel [0, 1] (.cons rfl (.cons rfl .nil)) ?_
  repeat refine J.seq ?_
  refine J.plain ?_
  refine JO.t (ob_move rfl) rfl ?_
  refine JO.t (ob_move rfl) rfl ?_
  refine JO.t (ob_callB rfl (c_p_ref20_Set_active b sp st cap xs hW.g hl k) RL_ob (fun o ho => ho) (fun _ _ _ => hnd) (fun _ h => by cases h) (.one rfl (.one rfl .nil))) rfl ?_
  refine JO.t (ob_assign rfl) rfl ?_
  refine JO.nil ?_
  repeat (first | refine JX.next ?_ | refine JX.normal_block ?_)
  refine J.sel [0, 1, 5] (.cons rfl (.cons rfl (.cons rfl .nil))) ?_
  repeat refine J.seq ?_
  refine J.plain ?_
  refine JO.t (ob_move rfl) rfl ?_
  refine JO.t (ob_neq rfl rfl) rfl ?_
  refine JO.nil ?_
  repeat (first | refine JX.next ?_ | refine JX.normal_block ?_)
  refine J.sel [0, 1, 5, 10] (.cons rfl (.cons rfl (.cons rfl (.cons rfl .nil)))) ?_
  repeat refine J.seq ?_
  refine J.cond rfl (fun ht10 => ?_) (fun ht10 => ?_)
  ·
    try simp only [decide_eq_true_eq, decide_eq_false_iff_not] at ht10
    repeat refine J.seq ?_
    refine J.plain ?_
    refine JO.t (ob_move rfl) rfl ?_
    refine JO.t (ob_assign rfl) rfl ?_
    refine JO.nil ?_
    repeat (first | refine JX.next ?_ | refine JX.normal_block ?_)
    refine J.sel [4] (.cons rfl .nil) ?_
    repeat refine J.seq ?_
    refine J.ret ?_
    repeat (first | refine JX.ret_pass ?_ | refine JX.ret_block ?_)
    exact JX.retL1 (Lr := []) (L1 := fun z : Option (Nat × List Value) × List RX × Int × Nat => RL b z.2.2.2 z.1 cap z.2.1) (R := fun z => .is (.int .i64 z.2.2.1)) rfl (st, xs, actR xs k, sp) (by unfold cmR; rw [if_pos ht10]) (List.Perm.of_eq (List.append_nil _).symm) RL_out rfl hb0 rfl (Sub.isEq (rfl))
  ·
    try simp only [decide_eq_true_eq, decide_eq_false_iff_not] at ht10
    refine J.skip ?_
    repeat (first | refine JX.next ?_ | refine JX.normal_block ?_)
    obtain ⟨hk0, hk1, _⟩ := act_ok (xs := xs) (k := k) (by simpa using ht10)
    have hxm := rAt_mem (xs := xs) (i := k - 1) (by omega) (by omega)
    repeat refine J.seq ?_
    refine J.plain ?_
    refine JO.t (ob_move rfl) rfl ?_
    refine JO.t (ob_move rfl) rfl ?_
    refine JO.t (ob_subc (cc := k - 1) rfl rfl rfl (by omega) (by omega)) rfl ?_
    refine JO.t (ob_callB rfl (c_p_ref20_Set_pivot b sp st cap xs hW U hU hrl hwl hl (k - 1) (by omega) (by omega)) RL_ob (fun o ho => ho) (fun _ _ _ => hnd) (fun _ h => h) (.one rfl (.one rfl .nil))) rfl ?_
    refine JO.nil ?_
    repeat (first | refine JX.next ?_ | refine JX.normal_block ?_)
    refine J.sel [0, 1, 15] (.cons rfl (.cons rfl (.cons rfl .nil))) ?_
    repeat refine J.seq ?_
    refine J.cond rfl (fun ht15 => ?_) (fun ht15 => ?_)
    ·
      try simp only [decide_eq_true_eq, decide_eq_false_iff_not] at ht15
      repeat refine J.seq ?_
      refine J.plain ?_
      refine JO.t (ob_move rfl) rfl ?_
      refine JO.t (ob_nilCheck rfl) rfl ?_
      refine JO.t (ob_fieldAddr fo_cadastreref20_Set_0 rfl) rfl ?_
      refine JO.t (ob_ld1 sz_sl_cadastreref20_Tx rfl rfl) rfl ?_
      refine JO.t (ob_move rfl) rfl ?_
      refine JO.t (ob_subc (cc := k - 1) rfl rfl rfl (by omega) (by omega)) rfl ?_
      refine JO.t (ob_idxO el_sl_cadastreref20_Tx rfl hW.g rfl (by omega) (by omega)) rfl ?_
      refine JO.t (ob_fieldAddr fo_cadastreref20_Tx_0 rfl) rfl ?_
      refine JO.m (obm_storeO1 RX.len (v := rAt xs (k - 1)) (v' := mk3 (rAt xs (k - 1))) (j := 0) rfl rfl ss_int rfl rfl hW.g (rAt_get (xs := xs) (i := k - 1) (by omega) (by omega)) rfl (by omega) rfl (upd_rl hW.g (rAt_get (xs := xs) (i := k - 1) (by omega) (by omega)) rfl)) (Upd.same (upd_rl hW.g (rAt_get (xs := xs) (i := k - 1) (by omega) (by omega)) rfl) rfl) ?_
      refine JO.nil ?_
      repeat (first | refine JX.next ?_ | refine JX.normal_block ?_)
      refine J.sel [] .nil ?_
      repeat refine J.seq ?_
      refine J.plain ?_
      refine JO.t (ob_assign rfl) rfl ?_
      refine JO.nil ?_
      repeat (first | refine JX.next ?_ | refine JX.normal_block ?_)
      refine J.sel [4] (.cons rfl .nil) ?_
      repeat refine J.seq ?_
      refine J.ret ?_
      repeat (first | refine JX.ret_pass ?_ | refine JX.ret_block ?_)
      exact JX.retL1 (Lr := []) (L1 := fun z : Option (Nat × List Value) × List RX × Int × Nat => RL b z.2.2.2 z.1 cap z.2.1) (R := fun z => .is (.int .i64 z.2.2.1)) rfl (abS st xs k, abL xs k, 40, sp) (by unfold cmR; rw [if_neg (by rw [ht10]; simp), if_pos ht15]) (List.Perm.of_eq (List.append_nil _).symm) RL_out rfl hb0 rfl (Sub.isEq (rfl))
    ·
      try simp only [decide_eq_true_eq, decide_eq_false_iff_not] at ht15
      refine J.skip ?_
      repeat (first | refine JX.next ?_ | refine JX.normal_block ?_)
      repeat refine J.seq ?_
      refine J.plain ?_
      refine JO.t (ob_move rfl) rfl ?_
      refine JO.t (ob_nilCheck rfl) rfl ?_
      refine JO.t (ob_fieldAddr fo_cadastreref20_Set_1 rfl) rfl ?_
      refine JO.t (ob_ld1 sz_int rfl rfl) rfl ?_
      refine JO.t (ob_addc (cc := ((sp + 1 : Nat) : Int)) rfl rfl (by omega) (by omega) (by omega)) rfl ?_
      refine JO.t (ob_nilCheck rfl) rfl ?_
      refine JO.t (ob_fieldAddr fo_cadastreref20_Set_1 rfl) rfl ?_
      refine JO.m (obm_storeF (cs' := [_, _]) rfl rfl (show Upd (RL b sp st cap xs) _ _ (RL b (sp + 1) st cap xs) from .here) rfl rfl rfl rfl ss_int) (by rfl) ?_
      refine JO.nil ?_
      repeat (first | refine JX.next ?_ | refine JX.normal_block ?_)
      refine J.sel [0, 1] (.cons rfl (.cons rfl .nil)) ?_
      repeat refine J.seq ?_
      refine J.plain ?_
      refine JO.t (ob_move rfl) rfl ?_
      refine JO.t (ob_nilCheck rfl) rfl ?_
      refine JO.t (ob_fieldAddr fo_cadastreref20_Set_0 rfl) rfl ?_
      refine JO.t (ob_ld1 sz_sl_cadastreref20_Tx rfl rfl) rfl ?_
      refine JO.t (ob_move rfl) rfl ?_
      refine JO.t (ob_subc (cc := k - 1) rfl rfl rfl (by omega) (by omega)) rfl ?_
      refine JO.t (ob_idxO el_sl_cadastreref20_Tx rfl hW.g rfl (by omega) (by omega)) rfl ?_
      refine JO.t (ob_fieldAddr fo_cadastreref20_Tx_0 rfl) rfl ?_
      refine JO.m (obm_storeO1 RX.len (v' := cm2 (rAt xs (k - 1))) (j := 0) rfl rfl ss_int rfl rfl hW.g (rAt_get (xs := xs) (i := k - 1) (by omega) (by omega)) rfl (by omega) rfl (upd_rl hW.g (rAt_get (xs := xs) (i := k - 1) (by omega) (by omega)) rfl)) (Upd.same (upd_rl (v' := cm2 (rAt xs (k - 1))) hW.g (rAt_get (xs := xs) (i := k - 1) (by omega) (by omega)) rfl) rfl) ?_
      refine JO.nil ?_
      repeat (first | refine JX.next ?_ | refine JX.normal_block ?_)
      refine J.sel [0, 1] (.cons rfl (.cons rfl .nil)) ?_
      have hW1 := hW.set (v' := cm2 (rAt xs (k - 1))) (rAt_get (xs := xs) (i := k - 1) (by omega) (by omega)) (by exact hW.rs (rAt xs (k - 1)) hxm) (by exact hW.ws (rAt xs (k - 1)) hxm)
      have hg1 : (xs.set (k - 1).toNat (cm2 (rAt xs (k - 1))))[(k - 1).toNat]? = some (cm2 (rAt xs (k - 1))) := List.getElem?_set_self (by omega)
      repeat refine J.seq ?_
      refine J.regS 10 hmx (by kernel_rfl) (by kernel_rfl) ?_
      refine RT.t (ob_move rfl) ?_
      refine RT.t (ob_nilCheck rfl) ?_
      refine RT.t (ob_fieldAddr fo_cadastreref20_Set_0 rfl) ?_
      refine RT.t (ob_ld1 sz_sl_cadastreref20_Tx rfl rfl) ?_
      refine RT.t (ob_move rfl) ?_
      refine RT.t (ob_subc (cc := k - 1) rfl rfl rfl (by omega) (by omega)) ?_
      refine RT.t (ob_move rfl) ?_
      refine RT.t (ob_nilCheck rfl) ?_
      refine RT.t (ob_fieldAddr fo_cadastreref20_Set_1 rfl) ?_
      refine RT.t (ob_ld1 sz_int rfl rfl) ?_
      refine RT.nil ?_
      refine FinS.tail0 ?_
      refine JO.t (ob_idxO el_sl_cadastreref20_Tx rfl hW1.g rfl (by omega) (by rw [List.length_set]; omega)) rfl ?_
      refine JO.t (ob_fieldAddr fo_cadastreref20_Tx_2 rfl) rfl ?_
      refine JO.m (obm_storeO1 RX.len (v' := cmD (sp + 1) (rAt xs (k - 1))) (j := 2) rfl rfl ss_int rfl rfl hW1.g hg1 rfl (by omega) rfl (upd_rl hW1.g hg1 rfl)) (Upd.same (upd_rl (v' := cmD (sp + 1) (rAt xs (k - 1))) hW1.g hg1 rfl) rfl) ?_
      refine JO.nil ?_
      repeat (first | refine JX.next ?_ | refine JX.normal_block ?_)
      refine J.sel [] .nil ?_
      repeat refine J.seq ?_
      refine J.plain ?_
      refine JO.t (ob_assign rfl) rfl ?_
      refine JO.nil ?_
      repeat (first | refine JX.next ?_ | refine JX.normal_block ?_)
      refine J.sel [4] (.cons rfl .nil) ?_
      repeat refine J.seq ?_
      refine J.ret ?_
      repeat (first | refine JX.ret_pass ?_ | refine JX.ret_block ?_)
      exact JX.retL1 (Lr := []) (L1 := fun z : Option (Nat × List Value) × List RX × Int × Nat => RL b z.2.2.2 z.1 cap z.2.1) (R := fun z => .is (.int .i64 z.2.2.1)) rfl (cmS st xs (sp + 1) k, cmL xs (sp + 1) k, 0, sp + 1) (by unfold cmR; rw [if_neg (by rw [ht10]; simp), if_neg (by rw [ht15]; simp)]) (List.Perm.of_eq (List.append_nil _).symm) RL_out rfl hb0 rfl (Sub.isEq (rfl))
end Go.Proofs.Ytggmifnkgcladaa
set_option maxRecDepth 20000
namespace Go.Proofs.Ytggmifnkgcladaa
open Go Go.Vc
open Go.Si
def behR (xs : List RX) (i k : Nat) : Bool := ((rAt xs (i : Nat)).s == 2) && ((rAt xs (k : Nat)).s == 1) && decide (((rAt xs (k : Nat)).begun : Int) < ((rAt xs (i : Nat)).done : Nat))
def cntN (xs : List RX) (i n : Nat) : Bool := ((rAt xs (i : Nat)).s == 1) || (List.range n).any fun k => behR xs i k
def keptN (xs : List RX) (n : Nat) : Nat := ((List.range n).map fun (i : Nat) => if cntN xs i xs.length then (rAt xs (i : Nat)).reads.length else 0).sum
theorem cntN_succ (xs : List RX) (i n : Nat) : cntN xs i (n + 1) = (cntN xs i n || behR xs i n) := by simp [cntN, List.range_succ, Bool.or_assoc]
theorem keptN_succ (xs : List RX) (n : Nat) : keptN xs (n + 1) = keptN xs n + if cntN xs n xs.length then (rAt xs (n : Nat)).reads.length else 0 := by simp [keptN, List.range_succ]
theorem keptN_mono (xs : List RX) {n m : Nat} (h : n ≤ m) : keptN xs n ≤ keptN xs m := by
  induction h with
  | refl => exact Nat.le_refl _
  | step _ ih => rw [keptN_succ]; omega
theorem c_p_ref20_Set_Kept (b sp : Nat) (st : Option (Nat × List Value)) (cap : Nat) (xs : List RX) (hW : RWf st cap xs) (hl : xs.length ≤ 1048576) (hk : keptN xs xs.length ≤ 4611686018427387904) : CallL Try.prog f_p_ref20_Set_Kept (RL b sp st cap xs) [] [.is (.pointer (some ⟨b, 0, none⟩))] (fun _ : Unit => True) (fun _ => (RL b sp st cap xs)) (fun _ => .is (.int .i64 (keptN xs xs.length : Nat))) :=
CallL.of (fn := Try.f13) Try.func13 (n := 93) rfl rfl rfl (fun _ _ => by kernel_rfl) fun E W hb0 => by
  repeat refine J.seq ?_
  refine J.plain ?_
  refine JO.t (ob_assign rfl) rfl ?_
  refine JO.nil ?_
  repeat (first | refine JX.next ?_ | refine JX.normal_block ?_)
  refine J.sel [0] (.cons rfl .nil) ?_
  repeat refine J.seq ?_
  refine J.plain ?_
  refine JO.t (ob_assign rfl) rfl ?_
  refine JO.nil ?_
  repeat (first | refine JX.next ?_ | refine JX.normal_block ?_)
  refine J.sel [0, 3] (.cons rfl (.cons rfl .nil)) ?_
  repeat refine J.seq ?_
  refine J.plain ?_
  refine JO.t (ob_assign rfl) rfl ?_
  refine JO.nil ?_
  repeat (first | refine JX.next ?_ | refine JX.normal_block ?_)
  refine J.sel [0, 3, 4] (.cons rfl (.cons rfl (.cons rfl .nil))) ?_
  repeat refine J.seq ?_
  refine J.block ?_
  repeat refine J.seq ?_
  refine J.loopG (α := Nat × Nat) (fun z => [(0, .is (.pointer (some ⟨b, 0, none⟩))), (3, .is (.int .i64 (z.2 : Nat))), (4, .is (.int .i64 (z.1 : Nat)))]) (fun z => (RL b sp st cap xs)) (fun z => fun _ => True) (fun z => z.1 ≤ xs.length ∧ z.2 = keptN xs z.1) (fun z => xs.length - z.1) (0, 0) [0, 3, 4] (.cons rfl (.cons rfl (.cons rfl .nil))) rfl (fun _ => trivial) ⟨Nat.zero_le _, rfl⟩ fun ⟨i, acc⟩ ⟨hi, hac⟩ => ?_
  try dsimp only
  try dsimp only at acc
  try dsimp only at hi
  try dsimp only at hac
  repeat refine J.seq ?_
  refine J.reg0 hmx (by kernel_rfl) (by kernel_rfl) ?_
  refine RT.t (ob_move rfl) ?_
  refine RT.t (ob_pnnil un_p_cadastreref20_Set rfl rfl) ?_
  refine RT.t (ob_move rfl) ?_
  refine RT.g rfl rfl rfl (fun hg => ob_move (.inl rfl)) ?_
  refine RT.g rfl rfl rfl (fun hg => ob_move (.inl rfl)) ?_
  refine RT.g rfl rfl rfl (fun hg => ob_nilCheck (.inr ⟨_, rfl, fun h => h⟩)) ?_
  refine RT.g rfl rfl rfl (fun hg => ob_fieldAddr fo_cadastreref20_Set_0 (.inr ⟨_, rfl, fun h => h⟩)) ?_
  refine RT.g rfl rfl rfl (fun hg => ob_ld1 sz_sl_cadastreref20_Tx (.inr ⟨_, rfl, fun h => h⟩) rfl) ?_
  refine RT.g rfl rfl rfl (fun hg => ob_lenO un_sl_cadastreref20_Tx (.inr ⟨_, rfl, fun h => h⟩) (grows_none hW.g)) ?_
  refine RT.g rfl rfl rfl (fun hg => ob_lss (.inr ⟨_, rfl, fun h => h⟩) (.inr ⟨_, rfl, fun h => h⟩)) ?_
  refine RT.t (ob_pickAnd rfl rfl rfl id) ?_
  refine RT.nil ?_
  refine FinS.nil0 ?_
  repeat (first | refine JX.next ?_ | refine JX.normal_block ?_)
  refine J.sel [0, 3, 4, 17] (.cons rfl (.cons rfl (.cons rfl (.cons rfl .nil)))) ?_
  repeat refine J.seq ?_
  refine J.cond rfl (fun ht17 => ?_) (fun ht17 => ?_)
  ·
    try simp only [decide_eq_true_eq, decide_eq_false_iff_not] at ht17
    refine J.skip ?_
    repeat (first | refine JX.next ?_ | refine JX.normal_block ?_)
    repeat refine J.seq ?_
    refine J.block ?_
    have hil : i < xs.length := by simpa using ht17
    repeat refine J.seq ?_
    refine J.plain ?_
    refine JO.t (ob_move rfl) rfl ?_
    refine JO.t (ob_nilCheck rfl) rfl ?_
    refine JO.t (ob_fieldAddr fo_cadastreref20_Set_0 rfl) rfl ?_
    refine JO.t (ob_ld1 sz_sl_cadastreref20_Tx rfl rfl) rfl ?_
    refine JO.t (ob_move rfl) rfl ?_
    refine JO.t (ob_idxO el_sl_cadastreref20_Tx rfl hW.g rfl (by omega) (by omega)) rfl ?_
    refine JO.t (ob_fieldAddr fo_cadastreref20_Tx_0 rfl) rfl ?_
    refine JO.t (ob_ldO1 RX.len sz_int rfl (fun p h => rmem_l h) hW.g (rAt_get (xs := xs) (i := (i : Nat)) (by omega) (by omega)) rfl rfl) rfl ?_
    refine JO.t (ob_eql rfl rfl) rfl ?_
    refine JO.t (ob_assign rfl) rfl ?_
    refine JO.nil ?_
    repeat (first | refine JX.next ?_ | refine JX.normal_block ?_)
    refine J.sel [0, 3, 4, 5] (.cons rfl (.cons rfl (.cons rfl (.cons rfl .nil)))) ?_
    repeat refine J.seq ?_
    refine J.plain ?_
    refine JO.t (ob_assign rfl) rfl ?_
    refine JO.nil ?_
    repeat (first | refine JX.next ?_ | refine JX.normal_block ?_)
    refine J.sel [0, 3, 4, 5, 6] (.cons rfl (.cons rfl (.cons rfl (.cons rfl (.cons rfl .nil))))) ?_
    repeat refine J.seq ?_
    refine J.block ?_
    repeat refine J.seq ?_
    refine J.loopG (α := Nat × Bool) (fun z => [(0, .is (.pointer (some ⟨b, 0, none⟩))), (3, .is (.int .i64 (acc : Nat))), (4, .is (.int .i64 (i : Nat))), (5, .is (.bool z.2)), (6, .is (.int .i64 (z.1 : Nat)))]) (fun z => (RL b sp st cap xs)) (fun z => fun _ => True) (fun z => z.1 ≤ xs.length ∧ z.2 = cntN xs i z.1) (fun z => xs.length - z.1) (0, (rAt xs (i : Nat)).s == 1) [0, 3, 4, 5, 6] (.cons rfl (.cons rfl (.cons rfl (.cons rfl (.cons rfl .nil))))) rfl (fun _ => trivial) ⟨Nat.zero_le _, by simp [cntN]⟩ fun ⟨j, cb⟩ ⟨hj, hcb⟩ => ?_
    try dsimp only
    try dsimp only at cb
    try dsimp only at hj
    try dsimp only at hcb
    repeat refine J.seq ?_
    refine J.plain ?_
    refine JO.t (ob_move rfl) rfl ?_
    refine JO.t (ob_move rfl) rfl ?_
    refine JO.t (ob_nilCheck rfl) rfl ?_
    refine JO.t (ob_fieldAddr fo_cadastreref20_Set_0 rfl) rfl ?_
    refine JO.t (ob_ld1 sz_sl_cadastreref20_Tx rfl rfl) rfl ?_
    refine JO.t (ob_lenO un_sl_cadastreref20_Tx rfl (grows_none hW.g)) rfl ?_
    refine JO.t (ob_lss rfl rfl) rfl ?_
    refine JO.nil ?_
    repeat (first | refine JX.next ?_ | refine JX.normal_block ?_)
    refine J.sel [0, 3, 4, 5, 6, 35] (.cons rfl (.cons rfl (.cons rfl (.cons rfl (.cons rfl (.cons rfl .nil)))))) ?_
    repeat refine J.seq ?_
    refine J.cond rfl (fun ht35 => ?_) (fun ht35 => ?_)
    ·
      try simp only [decide_eq_true_eq, decide_eq_false_iff_not] at ht35
      refine J.skip ?_
      repeat (first | refine JX.next ?_ | refine JX.normal_block ?_)
      repeat refine J.seq ?_
      refine J.block ?_
      have hjl : j < xs.length := by omega
      repeat refine J.seq ?_
      refine J.reg0 hmx (by kernel_rfl) (by kernel_rfl) ?_
      refine RT.t (ob_move rfl) ?_
      refine RT.t (ob_move rfl) ?_
      refine RT.g rfl rfl rfl (fun hg => ob_move (.inl rfl)) ?_
      refine RT.g rfl rfl rfl (fun hg => ob_nilCheck (.inr ⟨_, rfl, fun h => h⟩)) ?_
      refine RT.g rfl rfl rfl (fun hg => ob_fieldAddr fo_cadastreref20_Set_0 (.inr ⟨_, rfl, fun h => h⟩)) ?_
      refine RT.g rfl rfl rfl (fun hg => ob_ld1 sz_sl_cadastreref20_Tx (.inr ⟨_, rfl, fun h => h⟩) rfl) ?_
      refine RT.g rfl rfl rfl (fun hg => ob_move (.inl rfl)) ?_
      refine RT.g rfl rfl rfl (fun hg => ob_idxO el_sl_cadastreref20_Tx (.inr ⟨_, rfl, fun h => h⟩) hW.g (.inr ⟨_, rfl, fun h => h⟩) (by omega) (by omega)) ?_
      refine RT.g rfl rfl rfl (fun hg => ob_fieldAddr fo_cadastreref20_Tx_0 (.inr ⟨_, rfl, fun h => h⟩)) ?_
      refine RT.g rfl rfl rfl (fun hg => ob_ldO1 RX.len sz_int (.inr ⟨_, rfl, fun h => h⟩) (fun p h => rmem_l h) hW.g (rAt_get (xs := xs) (i := (i : Nat)) (by omega) (by omega)) rfl rfl) ?_
      refine RT.g rfl rfl rfl (fun hg => ob_eql (.inr ⟨_, rfl, fun h => h⟩) (.inl rfl)) ?_
      refine RT.g rfl rfl rfl (fun hg => ob_move (.inr ⟨_, rfl, fun h => h⟩)) ?_
      refine RT.gg rfl rfl rfl (fun hg => (ob_move (.inl rfl))) ?_
      refine RT.gg rfl rfl rfl (fun hg => (ob_nilCheck (.inr ⟨_, rfl, fun h => h⟩))) ?_
      refine RT.gg rfl rfl rfl (fun hg => (ob_fieldAddr fo_cadastreref20_Set_0 (.inr ⟨_, rfl, fun h => h⟩))) ?_
      refine RT.gg rfl rfl rfl (fun hg => (ob_ld1 sz_sl_cadastreref20_Tx (.inr ⟨_, rfl, fun h => h⟩) rfl)) ?_
      refine RT.gg rfl rfl rfl (fun hg => (ob_move (.inl rfl))) ?_
      refine RT.gg rfl rfl rfl (fun hg => (ob_idxO el_sl_cadastreref20_Tx (.inr ⟨_, rfl, fun h => h⟩) hW.g (.inr ⟨_, rfl, fun h => h⟩) (by omega) (by omega))) ?_
      refine RT.gg rfl rfl rfl (fun hg => (ob_fieldAddr fo_cadastreref20_Tx_0 (.inr ⟨_, rfl, fun h => h⟩))) ?_
      refine RT.gg rfl rfl rfl (fun hg => (ob_ldO1 RX.len sz_int (.inr ⟨_, rfl, fun h => h⟩) (fun p h => rmem_l h) hW.g (rAt_get (xs := xs) (i := (j : Nat)) (by omega) (by omega)) rfl rfl)) ?_
      refine RT.gg rfl rfl rfl (fun hg => (ob_eql (.inr ⟨_, rfl, fun h => h⟩) (.inl rfl))) ?_
      refine RT.g rfl rfl rfl (fun hg => ob_pickAnd (.inr ⟨_, rfl, fun h => h⟩) (.inl rfl) (.inl rfl) (fun h => ⟨hg, h⟩)) ?_
      refine RT.g rfl rfl rfl (fun hg => ob_move (.inr ⟨_, rfl, fun h => h⟩)) ?_
      refine RT.gg rfl rfl rfl (fun hg => (ob_move (.inl rfl))) ?_
      refine RT.gg rfl rfl rfl (fun hg => (ob_nilCheck (.inr ⟨_, rfl, fun h => h⟩))) ?_
      refine RT.gg rfl rfl rfl (fun hg => (ob_fieldAddr fo_cadastreref20_Set_0 (.inr ⟨_, rfl, fun h => h⟩))) ?_
      refine RT.gg rfl rfl rfl (fun hg => (ob_ld1 sz_sl_cadastreref20_Tx (.inr ⟨_, rfl, fun h => h⟩) rfl)) ?_
      refine RT.gg rfl rfl rfl (fun hg => (ob_move (.inl rfl))) ?_
      refine RT.gg rfl rfl rfl (fun hg => (ob_idxO el_sl_cadastreref20_Tx (.inr ⟨_, rfl, fun h => h⟩) hW.g (.inr ⟨_, rfl, fun h => h⟩) (by omega) (by omega))) ?_
      refine RT.gg rfl rfl rfl (fun hg => (ob_fieldAddr fo_cadastreref20_Tx_1 (.inr ⟨_, rfl, fun h => h⟩))) ?_
      refine RT.gg rfl rfl rfl (fun hg => (ob_ldO1 RX.len sz_int (.inr ⟨_, rfl, fun h => h⟩) (fun p h => rmem_l h) hW.g (rAt_get (xs := xs) (i := (j : Nat)) (by omega) (by omega)) rfl rfl)) ?_
      refine RT.gg rfl rfl rfl (fun hg => (ob_move (.inl rfl))) ?_
      refine RT.gg rfl rfl rfl (fun hg => (ob_nilCheck (.inr ⟨_, rfl, fun h => h⟩))) ?_
      refine RT.gg rfl rfl rfl (fun hg => (ob_fieldAddr fo_cadastreref20_Set_0 (.inr ⟨_, rfl, fun h => h⟩))) ?_
      refine RT.gg rfl rfl rfl (fun hg => (ob_ld1 sz_sl_cadastreref20_Tx (.inr ⟨_, rfl, fun h => h⟩) rfl)) ?_
      refine RT.gg rfl rfl rfl (fun hg => (ob_move (.inl rfl))) ?_
      refine RT.gg rfl rfl rfl (fun hg => (ob_idxO el_sl_cadastreref20_Tx (.inr ⟨_, rfl, fun h => h⟩) hW.g (.inr ⟨_, rfl, fun h => h⟩) (by omega) (by omega))) ?_
      refine RT.gg rfl rfl rfl (fun hg => (ob_fieldAddr fo_cadastreref20_Tx_2 (.inr ⟨_, rfl, fun h => h⟩))) ?_
      refine RT.gg rfl rfl rfl (fun hg => (ob_ldO1 RX.len sz_int (.inr ⟨_, rfl, fun h => h⟩) (fun p h => rmem_l h) hW.g (rAt_get (xs := xs) (i := (i : Nat)) (by omega) (by omega)) rfl rfl)) ?_
      refine RT.gg rfl rfl rfl (fun hg => (ob_lss (.inr ⟨_, rfl, fun h => h⟩) (.inr ⟨_, rfl, fun h => h⟩))) ?_
      refine RT.g rfl rfl rfl (fun hg => ob_pickAnd (.inr ⟨_, rfl, fun h => h⟩) (.inl rfl) (.inl rfl) (fun h => ⟨hg, h⟩)) ?_
      refine RT.t (ob_pickOr rfl rfl rfl id) ?_
      refine RT.t (ob_assign rfl) ?_
      refine RT.nil ?_
      refine FinS.nil0 ?_
      repeat (first | refine JX.next ?_ | refine JX.normal_block ?_)
      refine J.sel [0, 3, 4, 5, 6] (.cons rfl (.cons rfl (.cons rfl (.cons rfl (.cons rfl .nil))))) ?_
      repeat refine J.seq ?_
      refine J.plain ?_
      refine JO.t (ob_move rfl) rfl ?_
      refine JO.t (ob_addc (cc := ((j + 1 : Nat) : Int)) rfl rfl (by omega) (by omega) (by omega)) rfl ?_
      refine JO.t (ob_assign rfl) rfl ?_
      refine JO.nil ?_
      repeat refine JX.normal_block ?_
      refine JX.roundG (x := (j, cb)) (j + 1, (cb || behR xs i j)) ?_ ?_ [0, 3, 4, 5, 6] ?_ ?_ ?_ ?_
      · exact ⟨by simp only; omega, by show (cb || _) = _; rw [cntN_succ, ← hcb]⟩
      · exact (by simp only; omega)
      · exact (.cons rfl (.cons rfl (.cons rfl (.cons rfl (.cons rfl .nil)))))
      · repeat (first | exact .all | exact .nil | refine Has.own (by repeat (first | exact .here | apply Tl.past | apply Tl.there)) ?_ | refine Has.cons (by repeat (first | exact .here | apply Pk.past | apply Pk.there)) ?_)
      · exact fun G hG => by repeat (first | exact hG | refine List.mem_cons_of_mem _ ?_)
      · exact fun _ _ _ => fun _ _ => trivial
    ·
      try simp only [decide_eq_true_eq, decide_eq_false_iff_not] at ht35
      repeat refine J.seq ?_
      refine J.exit ?_
      repeat (first | refine JX.hit ?_ | refine JX.miss rfl ?_ | refine JX.exit_pass ?_)
      repeat (first | refine JX.next ?_ | refine JX.normal_block ?_)
      have hfull : cb = cntN xs i xs.length := by
        have : j = xs.length := by omega
        subst this; exact hcb
      repeat refine J.seq ?_
      refine J.plain ?_
      refine JO.t (ob_move rfl) rfl ?_
      refine JO.nil ?_
      repeat (first | refine JX.next ?_ | refine JX.normal_block ?_)
      refine J.sel [0, 3, 4, 80] (.cons rfl (.cons rfl (.cons rfl (.cons rfl .nil)))) ?_
      repeat refine J.seq ?_
      refine J.cond rfl (fun ht80 => ?_) (fun ht80 => ?_)
      ·
        try simp only [decide_eq_true_eq, decide_eq_false_iff_not] at ht80
        repeat refine J.seq ?_
        refine J.plain ?_
        refine JO.t (ob_move rfl) rfl ?_
        refine JO.t (ob_move rfl) rfl ?_
        refine JO.t (ob_nilCheck rfl) rfl ?_
        refine JO.t (ob_fieldAddr fo_cadastreref20_Set_0 rfl) rfl ?_
        refine JO.t (ob_ld1 sz_sl_cadastreref20_Tx rfl rfl) rfl ?_
        refine JO.t (ob_move rfl) rfl ?_
        refine JO.t (ob_idxO el_sl_cadastreref20_Tx rfl hW.g rfl (by omega) (by omega)) rfl ?_
        refine JO.t (ob_fieldAddr fo_cadastreref20_Tx_3 rfl) rfl ?_
        refine JO.t (ob_ldO1 RX.len sz_sl_api_Read rfl (fun p h => rmem_l h) hW.g (rAt_get (xs := xs) (i := (i : Nat)) (by omega) (by omega)) rfl rfl) rfl ?_
        refine JO.t (ob_lenO un_sl_api_Read rfl (grows_none (hW.rs _ (rAt_mem (xs := xs) (i := (i : Nat)) (by omega) (by omega))))) rfl ?_
        refine JO.t (ob_addc (cc := ((acc + (rAt xs (i : Nat)).reads.length : Nat) : Int)) rfl rfl (by omega) (by omega) (by have h1 := keptN_mono xs (n := i + 1) (m := xs.length) (by omega); rw [keptN_succ, ← hfull, ht80, ← hac] at h1; simp only [if_true] at h1; omega)) rfl ?_
        refine JO.t (ob_assign rfl) rfl ?_
        refine JO.nil ?_
        repeat (first | refine JX.next ?_ | refine JX.normal_block ?_)
        refine J.sel [0, 3, 4] (.cons rfl (.cons rfl (.cons rfl .nil))) ?_
        repeat refine J.seq ?_
        refine J.plain ?_
        refine JO.t (ob_move rfl) rfl ?_
        refine JO.t (ob_addc (cc := ((i + 1 : Nat) : Int)) rfl rfl (by omega) (by omega) (by omega)) rfl ?_
        refine JO.t (ob_assign rfl) rfl ?_
        refine JO.nil ?_
        repeat refine JX.normal_block ?_
        refine JX.roundG (x := (i, acc)) (i + 1, acc + (rAt xs (i : Nat)).reads.length) ?_ ?_ [0, 3, 4] ?_ ?_ ?_ ?_
        · exact ⟨by simp only; omega, by show acc + _ = _; rw [keptN_succ, ← hfull, ht80, ← hac]; rfl⟩
        · exact (by simp only; omega)
        · exact (.cons rfl (.cons rfl (.cons rfl .nil)))
        · repeat (first | exact .all | exact .nil | refine Has.own (by repeat (first | exact .here | apply Tl.past | apply Tl.there)) ?_ | refine Has.cons (by repeat (first | exact .here | apply Pk.past | apply Pk.there)) ?_)
        · exact fun G hG => by repeat (first | exact hG | refine List.mem_cons_of_mem _ ?_)
        · exact fun _ _ _ => fun _ _ => trivial
      ·
        try simp only [decide_eq_true_eq, decide_eq_false_iff_not] at ht80
        refine J.skip ?_
        repeat (first | refine JX.next ?_ | refine JX.normal_block ?_)
        repeat refine J.seq ?_
        refine J.plain ?_
        refine JO.t (ob_move rfl) rfl ?_
        refine JO.t (ob_addc (cc := ((i + 1 : Nat) : Int)) rfl rfl (by omega) (by omega) (by omega)) rfl ?_
        refine JO.t (ob_assign rfl) rfl ?_
        refine JO.nil ?_
        repeat refine JX.normal_block ?_
        refine JX.roundG (x := (i, acc)) (i + 1, acc) ?_ ?_ [0, 3, 4] ?_ ?_ ?_ ?_
        · exact ⟨by simp only; omega, by show acc = _; rw [keptN_succ, ← hfull, ht80, ← hac]; rfl⟩
        · exact (by simp only; omega)
        · exact (.cons rfl (.cons rfl (.cons rfl .nil)))
        · repeat (first | exact .all | exact .nil | refine Has.own (by repeat (first | exact .here | apply Tl.past | apply Tl.there)) ?_ | refine Has.cons (by repeat (first | exact .here | apply Pk.past | apply Pk.there)) ?_)
        · exact fun G hG => by repeat (first | exact hG | refine List.mem_cons_of_mem _ ?_)
        · exact fun _ _ _ => fun _ _ => trivial
  ·
    try simp only [decide_eq_true_eq, decide_eq_false_iff_not] at ht17
    repeat refine J.seq ?_
    refine J.exit ?_
    repeat (first | refine JX.hit ?_ | refine JX.miss rfl ?_ | refine JX.exit_pass ?_)
    repeat (first | refine JX.next ?_ | refine JX.normal_block ?_)
    repeat refine J.seq ?_
    refine J.plain ?_
    refine JO.t (ob_move rfl) rfl ?_
    refine JO.t (ob_assign rfl) rfl ?_
    refine JO.nil ?_
    repeat (first | refine JX.next ?_ | refine JX.normal_block ?_)
    refine J.sel [2] (.cons rfl .nil) ?_
    repeat refine J.seq ?_
    refine J.ret ?_
    repeat (first | refine JX.ret_pass ?_ | refine JX.ret_block ?_)
    exact JX.retL1 (Lr := []) (L1 := fun _ : Unit => RL b sp st cap xs) rfl () trivial (List.Perm.of_eq (List.append_nil _).symm) RL_out rfl hb0 rfl (Sub.isEq (by have : i = xs.length := (by simp at ht17; omega); subst this; rw [hac]))
end Go.Proofs.Ytggmifnkgcladaa
set_option maxRecDepth 20000
namespace Go.Proofs.Ytggmifnkgcladaa
open Go Go.Vc
open Go.Si Go.Vl
theorem oth_snoc {l : List Rd} {p : Rd → Bool} {i : Nat} {v : Rd} (hv : l[i]? = some v) : (l.take (i + 1)).filter p = (l.take i).filter p ++ (if p v then [v] else []) := by
  rw [List.take_add_one, hv, Option.toList_some, List.filter_append]
  congr 1
  cases hs : p v <;> simp [hs]
theorem perm_old (st : Option (Nat × List Value)) (e : TypeId) (a b : Own) (R : List Own) : (ownO st e (a :: b :: R)).Perm (R ++ (ownO st e [] ++ [a, b])) := by
  rw [ownO_split]
  have : ownO st e [] ++ (a :: b :: R) = (ownO st e [] ++ [a, b]) ++ R := by simp
  rw [this]
  exact List.perm_append_comm
theorem c_ref20_Keep {rs : Option (Nat × List Value)} {rc : Nat} {l : List Rd} (hG : Grows Rd.cells 8 l rs rc) (hl : l.length ≤ 1048576) (r : Rd) : CallL Try.prog f_ref20_Keep (ownO rs ty_api_Read []) [] [.is (sliceO rs l.length rc), .is (rdA r)] (fun z : Option (Nat × List Value) × Nat => Grows Rd.cells 8 (kpL l r) z.1 z.2) (fun z => ownO z.1 ty_api_Read []) (fun z => .is (sliceO z.1 (kpL l r).length z.2)) :=
CallL.of (fn := Try.f46) Try.func46 (n := 69) rfl rfl rfl (fun _ _ => by kernel_rfl) fun E W hb0 => by
  repeat refine J.seq ?_
  refine J.plain ?_
  refine JO.box rfl rfl fun b3 => ?_
  refine JO.t (ob_assign rfl) rfl ?_
  refine JO.nil ?_
  repeat (first | refine JX.next ?_ | refine JX.normal_block ?_)
  refine J.sel [0, 3] (.cons rfl (.cons rfl .nil)) ?_
  repeat refine J.seq ?_
  refine J.plain ?_
  refine JO.t (ob_fieldAddr fo_api_Read_0 rfl) rfl ?_
  refine JO.t (ob_ld1 sz_string rfl rfl) rfl ?_
  refine JO.t (ob_build (cs := [_, _, _, _, _, _, _, _]) sh_api_Read (.cons rfl (.cons rfl .nil)) rfl rfl) rfl ?_
  refine JO.alloc zo_api_Read rfl fun b5 => ?_
  refine JO.m (obm_store rfl rfl (by repeat (first | exact .here | apply Upd.there)) (by first | exact cnt_is rfl rfl | exact cnt_ex) (by first | exact cnt_is rfl rfl | exact cnt_ex | exact cnt_aggO) ss_api_Read) (by rfl) ?_
  refine JO.nil ?_
  repeat (first | refine JX.next ?_ | refine JX.normal_block ?_)
  refine J.sel [0, 3, 5] (.cons rfl (.cons rfl (.cons rfl .nil))) ?_
  repeat refine J.seq ?_
  refine J.plain ?_
  refine JO.t (ob_assign rfl) rfl ?_
  refine JO.nil ?_
  repeat (first | refine JX.next ?_ | refine JX.normal_block ?_)
  refine J.sel [0, 3, 5, 6] (.cons rfl (.cons rfl (.cons rfl (.cons rfl .nil)))) ?_
  repeat refine J.seq ?_
  refine J.plain ?_
  refine JO.t (ob_assign rfl) rfl ?_
  refine JO.nil ?_
  repeat (first | refine JX.next ?_ | refine JX.normal_block ?_)
  refine J.sel [0, 3, 5, 6, 7] (.cons rfl (.cons rfl (.cons rfl (.cons rfl (.cons rfl .nil))))) ?_
  repeat refine J.seq ?_
  refine J.plain ?_
  refine JO.t (ob_assign rfl) rfl ?_
  refine JO.nil ?_
  repeat (first | refine JX.next ?_ | refine JX.normal_block ?_)
  refine J.sel [0, 3, 5, 6, 7, 8] (.cons rfl (.cons rfl (.cons rfl (.cons rfl (.cons rfl (.cons rfl .nil)))))) ?_
  repeat refine J.seq ?_
  refine J.block ?_
  repeat refine J.seq ?_
  refine J.loopG (α := Nat × Nat × List Rd × Option (Nat × List Value) × Nat) (fun z => [(0, .is (sliceO rs l.length rc)), (3, .is (.pointer (some ⟨b3, 0, none⟩))), (5, .is (.pointer (some ⟨b5, 0, none⟩))), (6, .is (.int .i64 (z.2.1 : Nat))), (7, .is (sliceO z.2.2.2.1 z.2.2.1.length z.2.2.2.2)), (8, .is (.int .i64 (z.1 : Nat)))]) (fun z => ownO z.2.2.2.1 ty_api_Read (⟨b5, ty_api_Read, .is (rdA (allR r))⟩ :: ⟨b3, ty_api_Read, .is (rdA r)⟩ :: ownO rs ty_api_Read [])) (fun z => fun _ => True) (fun z => z.1 ≤ l.length ∧ z.2.1 = kpN (l.take z.1) r ∧ z.2.1 ≤ z.1 ∧ z.2.2.1 = (l.take z.1).filter (fun k => !sameT r k) ∧ Grows Rd.cells 8 z.2.2.1 z.2.2.2.1 z.2.2.2.2 ∧ z.2.2.1.length ≤ z.1 ∧ ∀ j w, j < z.1 → l[j]? = some w → kpHit r w = false) (fun z => l.length - z.1) (0, 0, [], none, 0) [0, 3, 5, 6, 7, 8] (.cons rfl (.cons rfl (.cons rfl (.cons rfl (.cons rfl (.cons rfl .nil)))))) rfl (fun _ => trivial) ⟨Nat.zero_le _, rfl, Nat.le_refl _, rfl, rfl, Nat.le_refl _, fun j w hj => absurd hj (Nat.not_lt_zero _)⟩ fun ⟨i, n, oth, sto, cpo⟩ ⟨hi, hn, hni, hoth, hGo, hol, h0⟩ => ?_
  try dsimp only
  try dsimp only at n
  try dsimp only at oth
  try dsimp only at sto
  try dsimp only at cpo
  try dsimp only at hi
  try dsimp only at hn
  try dsimp only at hni
  try dsimp only at hoth
  try dsimp only at hGo
  try dsimp only at hol
  try dsimp only at h0
  repeat refine J.seq ?_
  refine J.plain ?_
  refine JO.t (ob_move rfl) rfl ?_
  refine JO.t (ob_move rfl) rfl ?_
  refine JO.t (ob_lenO un_sl_api_Read rfl (grows_none hG)) rfl ?_
  refine JO.t (ob_lss rfl rfl) rfl ?_
  refine JO.nil ?_
  repeat (first | refine JX.next ?_ | refine JX.normal_block ?_)
  refine J.sel [0, 3, 5, 6, 7, 8, 16] (.cons rfl (.cons rfl (.cons rfl (.cons rfl (.cons rfl (.cons rfl (.cons rfl .nil))))))) ?_
  repeat refine J.seq ?_
  refine J.cond rfl (fun ht16 => ?_) (fun ht16 => ?_)
  ·
    try simp only [decide_eq_true_eq, decide_eq_false_iff_not] at ht16
    refine J.skip ?_
    repeat (first | refine JX.next ?_ | refine JX.normal_block ?_)
    repeat refine J.seq ?_
    refine J.block ?_
    have hil : i < l.length := by omega
    obtain ⟨v, hv⟩ : ∃ v, l[i]? = some v := ⟨l[i], List.getElem?_eq_getElem hil⟩
    repeat refine J.seq ?_
    refine J.reg0 hmx (by kernel_rfl) (by kernel_rfl) ?_
    refine RT.t (ob_move rfl) ?_
    refine RT.t (ob_move rfl) ?_
    refine RT.t (ob_idxO el_sl_api_Read rfl hG rfl (by omega) (by omega)) ?_
    refine RT.t (ob_ldO (e := ty_api_Read) Rd.len sz_api_Read rfl (fun p h => Go.Vc.mem_ownO (List.mem_cons_of_mem _ (List.mem_cons_of_mem _ (by rw [h]; exact List.mem_cons_self)))) hG hv (by simp)) ?_
    refine RT.t (ob_ldN (cs := [_, _, _, _, _, _, _, _]) sz_api_Read rfl rfl rfl) ?_
    refine RT.t (ob_req req_api_Read (a := v.lo) (b := v.hi) (a' := r.lo) (b' := r.hi) rfl rfl) ?_
    refine RT.t (ob_move rfl) ?_
    refine RT.g rfl rfl rfl (fun hg => ob_move (.inl rfl)) ?_
    refine RT.g rfl rfl rfl (fun hg => ob_move (.inl rfl)) ?_
    refine RT.g rfl rfl rfl (fun hg => ob_idxO el_sl_api_Read (.inr ⟨_, rfl, fun h => h⟩) hG (.inr ⟨_, rfl, fun h => h⟩) (by omega) (by omega)) ?_
    refine RT.g rfl rfl rfl (fun hg => ob_ldO (e := ty_api_Read) Rd.len sz_api_Read (.inr ⟨_, rfl, fun h => h⟩) (fun p h => Go.Vc.mem_ownO (List.mem_cons_of_mem _ (List.mem_cons_of_mem _ (by rw [h]; exact List.mem_cons_self)))) hG hv (by simp)) ?_
    refine RT.g rfl rfl rfl (fun hg => ob_ldN (cs := [_, _, _, _, _, _, _, _]) sz_api_Read (.inl rfl) rfl rfl) ?_
    refine RT.g rfl rfl rfl (fun hg => ob_req req_api_Read (a := v.lo) (b := v.hi) (a' := z3) (b' := z3) (.inr ⟨_, rfl, fun h => h⟩) (.inr ⟨_, rfl, fun h => h⟩)) ?_
    refine RT.t (ob_pickOr rfl rfl rfl id) ?_
    refine RT.nil ?_
    refine FinS.nil0 ?_
    repeat (first | refine JX.next ?_ | refine JX.normal_block ?_)
    refine J.sel [0, 3, 5, 6, 7, 8, 32] (.cons rfl (.cons rfl (.cons rfl (.cons rfl (.cons rfl (.cons rfl (.cons rfl .nil))))))) ?_
    repeat refine J.seq ?_
    refine J.cond rfl (fun ht32 => ?_) (fun ht32 => ?_)
    ·
      try simp only [decide_eq_true_eq, decide_eq_false_iff_not] at ht32
      repeat refine J.seq ?_
      refine J.plain ?_
      refine JO.t (ob_move rfl) rfl ?_
      refine JO.t (ob_assign rfl) rfl ?_
      refine JO.nil ?_
      repeat (first | refine JX.next ?_ | refine JX.normal_block ?_)
      refine J.sel [4] (.cons rfl .nil) ?_
      repeat refine J.seq ?_
      refine J.ret ?_
      repeat (first | refine JX.ret_pass ?_ | refine JX.ret_block ?_)
      have hh := find_hit (p := kpHit r) hv h0 ht32
      have hkl : kpL l r = l := by unfold kpL; rw [hh]
      exact JX.retL1 (Lr := ownO sto ty_api_Read [] ++ [_, _]) (L1 := fun z : Option (Nat × List Value) × Nat => ownO z.1 ty_api_Read []) (R := fun z => .is (sliceO z.1 (kpL l r).length z.2)) rfl (rs, rc) (by rw [hkl]; exact hG) (perm_old _ _ _ _ _) (ob_out (ownO_ob _ _ nil_ob)) rfl hb0 rfl (Sub.isEq (by rw [hkl]))
    ·
      try simp only [decide_eq_true_eq, decide_eq_false_iff_not] at ht32
      refine J.skip ?_
      repeat (first | refine JX.next ?_ | refine JX.normal_block ?_)
      have hnh : kpHit r v = false := ht32
      have hstep : ∀ j w, j < i + 1 → l[j]? = some w → kpHit r w = false := fun j w hj hw => by
        rcases Nat.lt_or_ge j i with h | h
        · exact h0 j w h hw
        · have : j = i := by omega
          subst this
          rw [hv] at hw; injection hw with hw; subst hw; exact hnh
      repeat refine J.seq ?_
      refine J.reg0 hmx (by kernel_rfl) (by kernel_rfl) ?_
      refine RT.t (ob_move rfl) ?_
      refine RT.t (ob_move rfl) ?_
      refine RT.t (ob_idxO el_sl_api_Read rfl hG rfl (by omega) (by omega)) ?_
      refine RT.t (ob_fieldAddr fo_api_Read_0 rfl) ?_
      refine RT.t (ob_ldO1 (e := ty_api_Read) Rd.len sz_string rfl (fun p h => Go.Vc.mem_ownO (List.mem_cons_of_mem _ (List.mem_cons_of_mem _ (by rw [h]; exact List.mem_cons_self)))) hG hv (j := 0) (by simp) rfl) ?_
      refine RT.t (ob_fieldAddr fo_api_Read_0 rfl) ?_
      refine RT.t (ob_ld1 sz_string rfl rfl) ?_
      refine RT.t (ob_seql rfl rfl) ?_
      refine RT.nil ?_
      refine FinS.nil0 ?_
      repeat (first | refine JX.next ?_ | refine JX.normal_block ?_)
      refine J.sel [0, 3, 5, 6, 7, 8, 41] (.cons rfl (.cons rfl (.cons rfl (.cons rfl (.cons rfl (.cons rfl (.cons rfl .nil))))))) ?_
      repeat refine J.seq ?_
      refine J.cond rfl (fun ht41 => ?_) (fun ht41 => ?_)
      ·
        try simp only [decide_eq_true_eq, decide_eq_false_iff_not] at ht41
        repeat refine J.seq ?_
        refine J.plain ?_
        refine JO.t (ob_move rfl) rfl ?_
        refine JO.t (ob_addc (cc := ((n + 1 : Nat) : Int)) rfl rfl (by omega) (by omega) (by omega)) rfl ?_
        refine JO.t (ob_assign rfl) rfl ?_
        refine JO.nil ?_
        repeat (first | refine JX.next ?_ | refine JX.normal_block ?_)
        refine J.sel [0, 3, 5, 6, 7, 8] (.cons rfl (.cons rfl (.cons rfl (.cons rfl (.cons rfl (.cons rfl .nil)))))) ?_
        repeat refine J.seq ?_
        refine J.plain ?_
        refine JO.t (ob_move rfl) rfl ?_
        refine JO.t (ob_addc (cc := ((i + 1 : Nat) : Int)) rfl rfl (by omega) (by omega) (by omega)) rfl ?_
        refine JO.t (ob_assign rfl) rfl ?_
        refine JO.nil ?_
        repeat refine JX.normal_block ?_
        refine JX.roundG (x := (i, n, oth, sto, cpo)) (i + 1, n + 1, oth, sto, cpo) ?_ ?_ [0, 3, 5, 6, 7, 8] ?_ ?_ ?_ ?_
        · exact ⟨by simp only; omega, by show n + 1 = _; rw [kpN_snoc hv, show sameT r v = true from ht41, hn]; rfl, by show n + 1 ≤ i + 1; omega, by show oth = _; rw [oth_snoc hv, show sameT r v = true from ht41, hoth]; simp, hGo, by show oth.length ≤ i + 1; omega, hstep⟩
        · exact (by simp only; omega)
        · exact (.cons rfl (.cons rfl (.cons rfl (.cons rfl (.cons rfl (.cons rfl .nil))))))
        · repeat (first | exact .all | exact .nil | refine Has.own (by repeat (first | exact .here | apply Tl.past | apply Tl.there)) ?_ | refine Has.cons (by repeat (first | exact .here | apply Pk.past | apply Pk.there)) ?_)
        · exact fun G hG => by repeat (first | exact hG | refine List.mem_cons_of_mem _ ?_)
        · exact fun _ _ _ => fun _ _ => trivial
      ·
        try simp only [decide_eq_true_eq, decide_eq_false_iff_not] at ht41
        repeat refine J.seq ?_
        refine J.plain ?_
        refine JO.t (ob_move rfl) rfl ?_
        refine JO.t (ob_move rfl) rfl ?_
        refine JO.t (ob_move rfl) rfl ?_
        refine JO.t (ob_idxO el_sl_api_Read rfl hG rfl (by omega) (by omega)) rfl ?_
        refine JO.t (ob_ldO (e := ty_api_Read) Rd.len sz_api_Read rfl (fun p h => Go.Vc.mem_ownO (List.mem_cons_of_mem _ (List.mem_cons_of_mem _ (by rw [h]; exact List.mem_cons_self)))) hG hv (by simp)) rfl ?_
        refine JO.t (ob_buildSlice (cs := [_, _, _, _, _, _, _, _]) sl_sl_api_Read (by omega) (by omega) (.cons rfl .nil) rfl rfl rfl) rfl ?_
        refine JO.apO (en := Rd.cells) (ys := [v]) ap_sl_api_Read Rd.len .here hGo rfl rfl (fun L => src_new un_sl_api_Read rfl rfl) (by simp) (by simp only [List.length_cons, List.length_nil]; omega) (by simp only [List.length_cons, List.length_nil]; omega) rfl (fun st1 cp1 hG1 => ?_)
        refine JO.t (ob_assign rfl) rfl ?_
        refine JO.nil ?_
        repeat (first | refine JX.next ?_ | refine JX.normal_block ?_)
        refine J.sel [0, 3, 5, 6, 7, 8] (.cons rfl (.cons rfl (.cons rfl (.cons rfl (.cons rfl (.cons rfl .nil)))))) ?_
        repeat refine J.seq ?_
        refine J.plain ?_
        refine JO.t (ob_move rfl) rfl ?_
        refine JO.t (ob_addc (cc := ((i + 1 : Nat) : Int)) rfl rfl (by omega) (by omega) (by omega)) rfl ?_
        refine JO.t (ob_assign rfl) rfl ?_
        refine JO.nil ?_
        repeat refine JX.normal_block ?_
        refine JX.roundG (x := (i, n, oth, sto, cpo)) (i + 1, n, oth ++ [v], st1, cp1) ?_ ?_ [0, 3, 5, 6, 7, 8] ?_ ?_ ?_ ?_
        · exact ⟨by simp only; omega, by show n = _; rw [kpN_snoc hv, show sameT r v = false from ht41, hn]; rfl, by show n ≤ i + 1; omega, by show oth ++ [v] = _; rw [oth_snoc hv, show sameT r v = false from ht41, hoth]; simp, hG1, by show (oth ++ [v]).length ≤ i + 1; rw [List.length_append]; simp only [List.length_cons, List.length_nil]; omega, hstep⟩
        · exact (by simp only; omega)
        · exact (.cons rfl (.cons rfl (.cons rfl (.cons rfl (.cons rfl (.cons rfl .nil))))))
        · repeat (first | exact .all | exact .nil | refine Has.own (by repeat (first | exact .here | apply Tl.past | apply Tl.there)) ?_ | refine Has.cons (by repeat (first | exact .here | apply Pk.past | apply Pk.there)) ?_)
        · exact fun G hG => by repeat (first | exact hG | refine List.mem_cons_of_mem _ ?_)
        · exact fun _ _ _ => fun _ _ => trivial
  ·
    try simp only [decide_eq_true_eq, decide_eq_false_iff_not] at ht16
    repeat refine J.seq ?_
    refine J.exit ?_
    repeat (first | refine JX.hit ?_ | refine JX.miss rfl ?_ | refine JX.exit_pass ?_)
    repeat (first | refine JX.next ?_ | refine JX.normal_block ?_)
    have hil : i = l.length := by omega
    have hnone := find_not (p := kpHit r) (l := l) (fun j w hj hw => h0 j w (by omega) hw)
    have hnN : n = kpN l r := by rw [hn, hil, List.take_length]
    have hof : oth = (l.filter fun k => !sameT r k) := by rw [hoth, hil, List.take_length]
    repeat refine J.seq ?_
    refine J.reg0 hmx (by kernel_rfl) (by kernel_rfl) ?_
    refine RT.t (ob_move rfl) ?_
    refine RT.t (ob_geq rfl rfl) ?_
    refine RT.t (ob_move rfl) ?_
    refine RT.g rfl rfl rfl (fun hg => ob_fieldAddr fo_api_Read_1 (.inl rfl)) ?_
    refine RT.g rfl rfl rfl (fun hg => ob_ld1 sz_int (.inr ⟨_, rfl, fun h => h⟩) rfl) ?_
    refine RT.g rfl rfl rfl (fun hg => ob_eql (.inr ⟨_, rfl, fun h => h⟩) (.inl rfl)) ?_
    refine RT.t (ob_pickOr rfl rfl rfl id) ?_
    refine RT.nil ?_
    refine FinS.nil0 ?_
    repeat (first | refine JX.next ?_ | refine JX.normal_block ?_)
    refine J.sel [0, 3, 5, 7, 57] (.cons rfl (.cons rfl (.cons rfl (.cons rfl (.cons rfl .nil))))) ?_
    repeat refine J.seq ?_
    refine J.cond rfl (fun ht57 => ?_) (fun ht57 => ?_)
    ·
      try simp only [decide_eq_true_eq, decide_eq_false_iff_not] at ht57
      repeat refine J.seq ?_
      refine J.plain ?_
      refine JO.t (ob_move rfl) rfl ?_
      refine JO.t (ob_ldN (cs := [_, _, _, _, _, _, _, _]) sz_api_Read rfl rfl rfl) rfl ?_
      refine JO.t (ob_buildSlice (cs := [_, _, _, _, _, _, _, _]) sl_sl_api_Read (by omega) (by omega) (.cons rfl .nil) rfl rfl rfl) rfl ?_
      refine JO.apO (en := Rd.cells) (ys := [allR r]) ap_sl_api_Read Rd.len .here hGo rfl rfl (fun L => src_new un_sl_api_Read rfl rfl) (by simp) (by simp only [List.length_cons, List.length_nil]; omega) (by simp only [List.length_cons, List.length_nil]; omega) rfl (fun st1 cp1 hG1 => ?_)
      refine JO.t (ob_assign rfl) rfl ?_
      refine JO.nil ?_
      repeat (first | refine JX.next ?_ | refine JX.normal_block ?_)
      refine J.sel [4] (.cons rfl .nil) ?_
      repeat refine J.seq ?_
      refine J.ret ?_
      repeat (first | refine JX.ret_pass ?_ | refine JX.ret_block ?_)
      have hkl : kpL l r = (l.filter fun k => !sameT r k) ++ [allR r] := by unfold kpL; rw [hnone]; simp only [kpAll, ← hnN]; rw [if_pos ht57]
      exact JX.retL1 (Lr := _ :: _ :: ownO rs ty_api_Read []) (L1 := fun z : Option (Nat × List Value) × Nat => ownO z.1 ty_api_Read []) (R := fun z => .is (sliceO z.1 (kpL l r).length z.2)) rfl (st1, cp1) (by rw [hkl, ← hof]; exact hG1) (List.Perm.of_eq (ownO_split _ _ _)) (ob_out (ownO_ob _ _ nil_ob)) rfl hb0 rfl (Sub.isEq (by rw [hkl, ← hof]))
    ·
      try simp only [decide_eq_true_eq, decide_eq_false_iff_not] at ht57
      refine J.skip ?_
      repeat (first | refine JX.next ?_ | refine JX.normal_block ?_)
      repeat refine J.seq ?_
      refine J.plain ?_
      refine JO.t (ob_assign rfl) rfl ?_
      refine JO.nil ?_
      repeat (first | refine JX.next ?_ | refine JX.normal_block ?_)
      refine J.sel [0, 3, 9] (.cons rfl (.cons rfl (.cons rfl .nil))) ?_
      repeat refine J.seq ?_
      refine J.plain ?_
      refine JO.t (ob_move rfl) rfl ?_
      refine JO.t (ob_move rfl) rfl ?_
      refine JO.apN (en := Rd.cells) l ap_sl_api_Read rfl rfl (src_ownS (e := ty_api_Read) Rd.len (fun x u hu => List.all_eq_true.1 (rd_one x) u hu) un_sl_api_Read (fun p h => Go.Vc.mem_ownO (List.mem_cons_of_mem _ (List.mem_cons_of_mem _ (by rw [h]; exact List.mem_cons_self)))) hG) (by omega) (by omega) rfl (fun st2 cp2 hG2 => ?_)
      refine JO.t (ob_assign rfl) rfl ?_
      refine JO.nil ?_
      repeat (first | refine JX.next ?_ | refine JX.normal_block ?_)
      refine J.sel [3, 9] (.cons rfl (.cons rfl .nil)) ?_
      repeat refine J.seq ?_
      refine J.plain ?_
      refine JO.t (ob_move rfl) rfl ?_
      refine JO.t (ob_ldN (cs := [_, _, _, _, _, _, _, _]) sz_api_Read rfl rfl rfl) rfl ?_
      refine JO.t (ob_buildSlice (cs := [_, _, _, _, _, _, _, _]) sl_sl_api_Read (by omega) (by omega) (.cons rfl .nil) rfl rfl rfl) rfl ?_
      refine JO.apO (en := Rd.cells) (ys := [r]) ap_sl_api_Read Rd.len .here hG2 rfl rfl (fun L => src_new un_sl_api_Read rfl rfl) (by simp) (by simp only [List.length_cons, List.length_nil]; omega) (by simp only [List.length_cons, List.length_nil]; omega) rfl (fun st1 cp1 hG1 => ?_)
      refine JO.t (ob_assign rfl) rfl ?_
      refine JO.nil ?_
      repeat (first | refine JX.next ?_ | refine JX.normal_block ?_)
      refine J.sel [4] (.cons rfl .nil) ?_
      repeat refine J.seq ?_
      refine J.ret ?_
      repeat (first | refine JX.ret_pass ?_ | refine JX.ret_block ?_)
      have hkl : kpL l r = l ++ [r] := by unfold kpL; rw [hnone]; simp only [kpAll, ← hnN]; rw [if_neg (by rw [show _ = false from ht57]; simp)]
      exact JX.retL1 (Lr := ownO sto ty_api_Read (_ :: _ :: ownO rs ty_api_Read [])) (L1 := fun z : Option (Nat × List Value) × Nat => ownO z.1 ty_api_Read []) (R := fun z => .is (sliceO z.1 (kpL l r).length z.2)) rfl (st1, cp1) (by rw [hkl]; exact hG1) (List.Perm.of_eq (ownO_split _ _ _)) (ob_out (ownO_ob _ _ nil_ob)) rfl hb0 rfl (Sub.isEq (by rw [hkl]))
end Go.Proofs.Ytggmifnkgcladaa
namespace Go.Si
open Go Go.Vc Go.Proofs.Ytggmifnkgcladaa
theorem fm_erase {f : RX → List Own} : ∀ {xs : List RX} {i : Nat} {x : RX}, xs[i]? = some x → (xs.flatMap f).Perm (f x ++ (xs.eraseIdx i).flatMap f)
  | [], _, _, h => by simp at h
  | y :: xs, 0, x, h => by
    simp at h
    subst h
    exact .refl _
  | y :: xs, i + 1, x, h => by
    rw [List.flatMap_cons, List.eraseIdx_cons_succ, List.flatMap_cons]
    refine ((fm_erase (by simpa using h)).append_left _).trans ?_
    rw [← List.append_assoc, ← List.append_assoc]
    exact List.perm_append_comm.append_right _
theorem set_erase {xs : List RX} {i : Nat} {v : RX} : (xs.set i v).eraseIdx i = xs.eraseIdx i := by
  induction xs generalizing i with
  | nil => rfl
  | cons x xs ih =>
    cases i with
    | zero => rfl
    | succ i => rw [List.set_cons_succ, List.eraseIdx_cons_succ, List.eraseIdx_cons_succ, ih]
theorem ownO_comm (st : Option (Nat × List Value)) (e : TypeId) (A B : List Own) : (ownO st e (A ++ B)).Perm (A ++ ownO st e B) := by
  rw [ownO_split st e (A ++ B), ownO_split st e B, ← List.append_assoc, ← List.append_assoc]
  exact List.perm_append_comm.append_right _
section
variable {b sp cap : Nat} {st : Option (Nat × List Value)} {xs : List RX}
def FrR (o : Own) (b sp cap n : Nat) (st : Option (Nat × List Value)) (R : List Own) : List Own := o :: ⟨b, ty_cadastreref20_Set, .is (rsV sp st cap n)⟩ :: ownO st ty_cadastreref20_Tx R
def rsR (xs : List RX) (i : Nat) (x : RX) : List Own := ownO x.ws ty_api_Write [] ++ (xs.eraseIdx i).flatMap rxL
def rsW (xs : List RX) (i : Nat) (x : RX) : List Own := ownO x.rs ty_api_Read [] ++ (xs.eraseIdx i).flatMap rxL
theorem rxL_app (x : RX) : rxL x = ownO x.rs ty_api_Read [] ++ ownO x.ws ty_api_Write [] := by unfold rxL; rw [ownO_split x.rs]
theorem fr_perm {i : Nat} {x : RX} (hi : xs[i]? = some x) (o : Own) : (o :: RL b sp st cap xs).Perm (ownO x.rs ty_api_Read [] ++ FrR o b sp cap xs.length st (rsR xs i x)) := by
  unfold RL FrR
  have h1 : (xs.flatMap rxL).Perm (ownO x.rs ty_api_Read [] ++ rsR xs i x) := by
    refine (fm_erase hi).trans ?_
    rw [rxL_app, List.append_assoc]
    exact .refl _
  have h2 : (ownO st ty_cadastreref20_Tx (xs.flatMap rxL)).Perm (ownO x.rs ty_api_Read [] ++ ownO st ty_cadastreref20_Tx (rsR xs i x)) := by
    refine List.Perm.trans ?_ (ownO_comm st _ _ _)
    rw [ownO_split st, ownO_split st _ (_ ++ _)]
    exact h1.append_left _
  refine ((h2.cons _).cons _).trans ?_
  exact perm_bsr [o, _] _ _
theorem fw_perm {i : Nat} {x : RX} (hi : xs[i]? = some x) (o : Own) : (o :: RL b sp st cap xs).Perm (ownO x.ws ty_api_Write [] ++ FrR o b sp cap xs.length st (rsW xs i x)) := by
  unfold RL FrR
  have h1 : (xs.flatMap rxL).Perm (ownO x.ws ty_api_Write [] ++ rsW xs i x) := by
    refine (fm_erase hi).trans ?_
    rw [rxL_app]
    unfold rsW
    rw [← List.append_assoc]
    exact List.perm_append_comm.append_right _
  have h2 : (ownO st ty_cadastreref20_Tx (xs.flatMap rxL)).Perm (ownO x.ws ty_api_Write [] ++ ownO st ty_cadastreref20_Tx (rsW xs i x)) := by
    refine List.Perm.trans ?_ (ownO_comm st _ _ _)
    rw [ownO_split st, ownO_split st _ (_ ++ _)]
    exact h1.append_left _
  refine ((h2.cons _).cons _).trans ?_
  exact perm_bsr [o, _] _ _
theorem rsV_stS {i n : Nat} {v : RX} (h : st = some (bO st, cO st)) : rsV sp (stS st i v) cap n = rsV sp st cap n := by
  unfold rsV stS
  rw [h]
  rfl
theorem fr_upd {i n : Nat} {v : RX} {A R : List Own} {o : Own} (h : st = some (bO st, cO st)) : Upd (A ++ FrR o b sp cap n st R) ⟨bO st, ty_cadastreref20_Tx, .is (.agg (cO st).toArray)⟩ ⟨bO st, ty_cadastreref20_Tx, .is (.agg (splice (cO st) (i * 5) v.cells).toArray)⟩ (A ++ FrR o b sp cap n (stS st i v) R) := by
  unfold FrR
  rw [rsV_stS h]
  exact upd_appR (.there (.there (upd_own h)))
theorem fr_back {i : Nat} {x v : RX} (hi : xs[i]? = some x) (hw : v.ws = x.ws) (o : Own) : (o :: RL b sp (stS st i v) cap (xs.set i v)).Perm (ownO v.rs ty_api_Read [] ++ FrR o b sp cap xs.length (stS st i v) (rsR xs i x)) := by
  have h := fr_perm (b := b) (sp := sp) (st := stS st i v) (cap := cap) (xs := xs.set i v) (i := i) (x := v) (List.getElem?_set_self (List.getElem?_eq_some_iff.1 hi).1) o
  rw [List.length_set] at h
  unfold rsR at h ⊢
  rw [set_erase, hw] at h
  exact h
theorem fw_back {i : Nat} {x v : RX} (hi : xs[i]? = some x) (hw : v.rs = x.rs) (o : Own) : (o :: RL b sp (stS st i v) cap (xs.set i v)).Perm (ownO v.ws ty_api_Write [] ++ FrR o b sp cap xs.length (stS st i v) (rsW xs i x)) := by
  have h := fw_perm (b := b) (sp := sp) (st := stS st i v) (cap := cap) (xs := xs.set i v) (i := i) (x := v) (List.getElem?_set_self (List.getElem?_eq_some_iff.1 hi).1) o
  rw [List.length_set] at h
  unfold rsW at h ⊢
  rw [set_erase, hw] at h
  exact h
end
def putR (z : Option (Nat × List Value) × Nat) (l : List Rd) (x : RX) : RX := { x with rs := z.1, rc := z.2, reads := l }
def putW (z : Option (Nat × List Value) × Nat) (l : List WrA) (x : RX) : RX := { x with ws := z.1, wc := z.2, writes := l }
end Go.Si
set_option maxRecDepth 20000
namespace Go.Proofs.Ytggmifnkgcladaa
open Go Go.Vc
open Go.Si
def rdL (xs : List RX) (k : Int) (r : Rd) (q : Option (Nat × List Value) × Nat) : List RX := xs.set (k - 1).toNat (putR q (kpL (rAt xs (k - 1)).reads r) (rAt xs (k - 1)))
def rdS (st : Option (Nat × List Value)) (xs : List RX) (k : Int) (r : Rd) (q : Option (Nat × List Value) × Nat) : Option (Nat × List Value) := stS st (k - 1).toNat (putR q (kpL (rAt xs (k - 1)).reads r) (rAt xs (k - 1)))
def RdR (st : Option (Nat × List Value)) (xs : List RX) (k : Int) (r : Rd) (z : Option (Nat × List Value) × List RX × Int) : Prop :=
  if actR xs k != 0 then z = (st, xs, actR xs k) else ∃ q : Option (Nat × List Value) × Nat, Grows Rd.cells 8 (kpL (rAt xs (k - 1)).reads r) q.1 q.2 ∧
    z = (if 256 < keptN (rdL xs k r q) (rdL xs k r q).length then (abS (rdS st xs k r q) (rdL xs k r q) k, abL (rdL xs k r q) k, 22) else jgR (rdS st xs k r q) (rdL xs k r q) k)
theorem c_p_ref20_Set_Read (b sp : Nat) (st : Option (Nat × List Value)) (cap : Nat) (xs : List RX) (hW : RWf st cap xs) (U : List WrA) (hU : ∀ x ∈ xs, ∀ w ∈ x.writes, w ∈ U) (hrl : ∀ x ∈ xs, x.reads.length ≤ 4611686018427387904) (hwl : ∀ x ∈ xs, x.writes.length ≤ 4611686018427387904) (hl : xs.length ≤ 1048576) (k : Int) (r : Rd) (hrs : ∀ x ∈ xs, x.reads.length < 1048576) (hk : ∀ q, keptN (rdL xs k r q) (rdL xs k r q).length ≤ 4611686018427387904) : CallL Try.prog f_p_ref20_Set_Read (RL b sp st cap xs) [WrF U] [.is (.pointer (some ⟨b, 0, none⟩)), .is (.int .i64 k), .is (rdA r)] (RdR st xs k r) (fun z => RL b sp z.1 cap z.2.1) (fun z => .is (.int .i64 z.2.2)) :=
CallL.of (fn := Try.f24) Try.func24 (n := 47) rfl rfl rfl (fun _ _ => by kernel_rfl) fun E W hb0 => by
  repeat refine J.seq ?_
  refine J.plain ?_
  refine JO.box rfl rfl fun b5 => ?_
  refine JO.t (ob_assign rfl) rfl ?_
  refine JO.nil ?_
  repeat (first | refine JX.next ?_ | refine JX.normal_block ?_)
  refine J.sel [0, 1, 5] (.cons rfl (.cons rfl (.cons rfl .nil))) ?_
  refine J.nodup fun hnd0 => ?_
  have hnd : ((RL b sp st cap xs).map (·.b)).Nodup := (List.nodup_cons.1 hnd0).2
  repeat refine J.seq ?_
  refine J.plain ?_
  refine JO.t (ob_move rfl) rfl ?_
  refine JO.t (ob_move rfl) rfl ?_
  refine JO.t (ob_callB rfl (c_p_ref20_Set_active b sp st cap xs hW.g hl k) RL_ob (fun o ho => List.mem_cons_of_mem _ ho) (fun _ _ _ => hnd) (fun _ h => by cases h) (.one rfl (.one rfl .nil))) rfl ?_
  refine JO.t (ob_assign rfl) rfl ?_
  refine JO.nil ?_
  repeat (first | refine JX.next ?_ | refine JX.normal_block ?_)
  refine J.sel [0, 1, 5, 7] (.cons rfl (.cons rfl (.cons rfl (.cons rfl .nil)))) ?_
  repeat refine J.seq ?_
  refine J.plain ?_
  refine JO.t (ob_move rfl) rfl ?_
  refine JO.t (ob_neq rfl rfl) rfl ?_
  refine JO.nil ?_
  repeat (first | refine JX.next ?_ | refine JX.normal_block ?_)
  refine J.sel [0, 1, 5, 7, 12] (.cons rfl (.cons rfl (.cons rfl (.cons rfl (.cons rfl .nil))))) ?_
  repeat refine J.seq ?_
  refine J.cond rfl (fun ht12 => ?_) (fun ht12 => ?_)
  ·
    try simp only [decide_eq_true_eq, decide_eq_false_iff_not] at ht12
    repeat refine J.seq ?_
    refine J.plain ?_
    refine JO.t (ob_move rfl) rfl ?_
    refine JO.t (ob_assign rfl) rfl ?_
    refine JO.nil ?_
    repeat (first | refine JX.next ?_ | refine JX.normal_block ?_)
    refine J.sel [6] (.cons rfl .nil) ?_
    repeat refine J.seq ?_
    refine J.ret ?_
    repeat (first | refine JX.ret_pass ?_ | refine JX.ret_block ?_)
    exact JX.retL1 (Lr := [_]) (L1 := fun z : Option (Nat × List Value) × List RX × Int => RL b sp z.1 cap z.2.1) (R := fun z => .is (.int .i64 z.2.2)) rfl (st, xs, actR xs k) (by unfold RdR; rw [if_pos ht12]) (List.perm_append_comm (l₁ := [_])) RL_out rfl hb0 rfl (Sub.isEq (rfl))
  ·
    try simp only [decide_eq_true_eq, decide_eq_false_iff_not] at ht12
    refine J.skip ?_
    repeat (first | refine JX.next ?_ | refine JX.normal_block ?_)
    obtain ⟨hk0, hk1, _⟩ := act_ok (xs := xs) (k := k) (by simpa using ht12)
    have hxm := rAt_mem (xs := xs) (i := k - 1) (by omega) (by omega)
    have hg0 := (rAt_get (xs := xs) (i := k - 1) (by omega) (by omega))
    have hso := st_some hW.g (Nat.lt_of_lt_of_le Nat.zero_lt_one (by omega : 1 ≤ xs.length))
    have hxr := hrs _ hxm
    have hLp : (⟨b5, ty_api_Read, .is (rdA r)⟩ :: RL b sp st cap xs).Perm (ownO (rAt xs (k - 1)).rs ty_api_Read [] ++ (FrR ⟨b5, ty_api_Read, .is (rdA r)⟩ b sp cap xs.length st (rsR xs (k - 1).toNat (rAt xs (k - 1))))) := fr_perm hg0 _
    repeat refine J.seq ?_
    refine J.regBm (G := { z : Option (Nat × List Value) × Nat // Grows Rd.cells 8 (kpL (rAt xs (k - 1)).reads r) z.1 z.2 }) (Tg := fun g => .is (sliceO g.1.1 (kpL (rAt xs (k - 1)).reads r).length g.1.2)) (Lg := fun g => ownO g.1.1 ty_api_Read [] ++ (FrR ⟨b5, ty_api_Read, .is (rdA r)⟩ b sp cap xs.length st (rsR xs (k - 1).toNat (rAt xs (k - 1))))) 16 17 (FrR ⟨b5, ty_api_Read, .is (rdA r)⟩ b sp cap xs.length st (rsR xs (k - 1).toNat (rAt xs (k - 1)))) rfl rfl rfl rfl hmx (by kernel_rfl) rfl (by kernel_rfl) (fun o ho => hLp.mem_iff.2 (List.mem_append_right _ ho)) (fun g o ho => List.mem_append_right _ ho) ?_
    refine RT.t (ob_move rfl) ?_
    refine RT.t (ob_nilCheck rfl) ?_
    refine RT.t (ob_fieldAddr fo_cadastreref20_Set_0 rfl) ?_
    refine RT.t (ob_ld1 sz_sl_cadastreref20_Tx rfl (hm := ⟨List.mem_cons_of_mem _ List.mem_cons_self⟩) rfl) ?_
    refine RT.t (ob_move rfl) ?_
    refine RT.t (ob_subc (cc := k - 1) rfl rfl rfl (by omega) (by omega)) ?_
    refine RT.t (ob_move rfl) ?_
    refine RT.t (ob_nilCheck rfl) ?_
    refine RT.t (ob_fieldAddr fo_cadastreref20_Set_0 rfl) ?_
    refine RT.t (ob_ld1 sz_sl_cadastreref20_Tx rfl (hm := ⟨List.mem_cons_of_mem _ List.mem_cons_self⟩) rfl) ?_
    refine RT.t (ob_move rfl) ?_
    refine RT.t (ob_subc (cc := k - 1) rfl rfl rfl (by omega) (by omega)) ?_
    refine RT.t (ob_idxO el_sl_cadastreref20_Tx rfl hW.g rfl (by omega) (by omega)) ?_
    refine RT.t (ob_fieldAddr fo_cadastreref20_Tx_3 rfl) ?_
    refine RT.t (ob_ldO1 (e := ty_cadastreref20_Tx) RX.len sz_sl_api_Read rfl (fun p h => List.mem_cons_of_mem _ (List.mem_cons_of_mem _ (by rw [h]; exact List.mem_cons_self))) hW.g hg0 rfl rfl) ?_
    refine RT.t (ob_ldN (cs := [_, _, _, _, _, _, _, _]) sz_api_Read rfl (hm := ⟨List.mem_cons_self⟩) rfl rfl) ?_
    refine RT.big (big_callL rfl (c_ref20_Keep (hW.rs _ hxm) (by omega) r) hLp (fun _ h => by cases h) (.one rfl (.one rfl .nil))) ?_
    refine RT.nil ?_
    intro g
    obtain ⟨⟨st1, cp1⟩, hG1⟩ := g
    try dsimp only
    refine JO.t (ob_idxO el_sl_cadastreref20_Tx rfl hW.g rfl (by omega) (by omega)) rfl ?_
    refine JO.t (ob_fieldAddr fo_cadastreref20_Tx_3 rfl) rfl ?_
    refine JO.m (obm_storeO1 RX.len (v' := (putR (st1, cp1) (kpL (rAt xs (k - 1)).reads r) (rAt xs (k - 1)))) (j := 3) (sliceO_cells _ _ _) (sliceO_one _ _ _) ss_sl_api_Read rfl rfl hW.g hg0 rfl (by omega) rfl (fr_upd hso)) (Upd.same (fr_upd (v := (putR (st1, cp1) (kpL (rAt xs (k - 1)).reads r) (rAt xs (k - 1)))) hso) rfl) ?_
    refine JO.subL (L' := ⟨b5, ty_api_Read, .is (rdA r)⟩ :: RL b sp (rdS st xs k r (st1, cp1)) cap (rdL xs k r (st1, cp1))) (fr_back (v := (putR (st1, cp1) (kpL (rAt xs (k - 1)).reads r) (rAt xs (k - 1)))) hg0 rfl _) ?_
    refine JO.nil ?_
    repeat (first | refine JX.next ?_ | refine JX.normal_block ?_)
    refine J.sel [0, 1] (.cons rfl (.cons rfl .nil)) ?_
    have hl1 : (rdL xs k r (st1, cp1)).length = xs.length := List.length_set
    have hW1 : RWf (rdS st xs k r (st1, cp1)) cap (rdL xs k r (st1, cp1)) := hW.set (v' := (putR (st1, cp1) (kpL (rAt xs (k - 1)).reads r) (rAt xs (k - 1)))) hg0 hG1 (by exact hW.ws (rAt xs (k - 1)) hxm)
    refine J.nodup fun hnd2 => ?_
    have hnd3 : ((RL b sp (rdS st xs k r (st1, cp1)) cap (rdL xs k r (st1, cp1))).map (·.b)).Nodup := (List.nodup_cons.1 hnd2).2
    repeat refine J.seq ?_
    refine J.plain ?_
    refine JO.t (ob_move rfl) rfl ?_
    refine JO.t (ob_callB rfl (c_p_ref20_Set_Kept b sp (rdS st xs k r (st1, cp1)) cap (rdL xs k r (st1, cp1)) hW1 (by rw [hl1]; exact hl) (hk _)) RL_ob (fun o ho => List.mem_cons_of_mem _ ho) (fun _ _ _ => hnd3) (fun _ h => by cases h) (.one rfl .nil)) rfl ?_
    refine JO.t (ob_gtr rfl rfl) rfl ?_
    refine JO.nil ?_
    repeat (first | refine JX.next ?_ | refine JX.normal_block ?_)
    refine J.sel [0, 1, 35] (.cons rfl (.cons rfl (.cons rfl .nil))) ?_
    repeat refine J.seq ?_
    refine J.cond rfl (fun ht35 => ?_) (fun ht35 => ?_)
    ·
      try simp only [decide_eq_true_eq, decide_eq_false_iff_not] at ht35
      repeat refine J.seq ?_
      refine J.plain ?_
      refine JO.t (ob_move rfl) rfl ?_
      refine JO.t (ob_nilCheck rfl) rfl ?_
      refine JO.t (ob_fieldAddr fo_cadastreref20_Set_0 rfl) rfl ?_
      refine JO.t (ob_ld1 sz_sl_cadastreref20_Tx rfl rfl) rfl ?_
      refine JO.t (ob_move rfl) rfl ?_
      refine JO.t (ob_subc (cc := k - 1) rfl rfl rfl (by omega) (by omega)) rfl ?_
      refine JO.t (ob_idxO el_sl_cadastreref20_Tx rfl hW1.g rfl (by omega) (by rw [hl1]; omega)) rfl ?_
      refine JO.t (ob_fieldAddr fo_cadastreref20_Tx_0 rfl) rfl ?_
      refine JO.m (obm_storeO1 RX.len (v := rAt (rdL xs k r (st1, cp1)) (k - 1)) (v' := mk3 (rAt (rdL xs k r (st1, cp1)) (k - 1))) (j := 0) rfl rfl ss_int rfl rfl hW1.g (rAt_get (xs := (rdL xs k r (st1, cp1))) (i := k - 1) (by omega) (by rw [hl1]; omega)) rfl (by omega) rfl (.there (upd_rl hW1.g (rAt_get (xs := (rdL xs k r (st1, cp1))) (i := k - 1) (by omega) (by rw [hl1]; omega)) rfl))) (Upd.same (.there (upd_rl hW1.g (rAt_get (xs := (rdL xs k r (st1, cp1))) (i := k - 1) (by omega) (by rw [hl1]; omega)) rfl)) rfl) ?_
      refine JO.nil ?_
      repeat (first | refine JX.next ?_ | refine JX.normal_block ?_)
      refine J.sel [] .nil ?_
      repeat refine J.seq ?_
      refine J.plain ?_
      refine JO.t (ob_assign rfl) rfl ?_
      refine JO.nil ?_
      repeat (first | refine JX.next ?_ | refine JX.normal_block ?_)
      refine J.sel [6] (.cons rfl .nil) ?_
      repeat refine J.seq ?_
      refine J.ret ?_
      repeat (first | refine JX.ret_pass ?_ | refine JX.ret_block ?_)
      exact JX.retL1 (Lr := [_]) (L1 := fun z : Option (Nat × List Value) × List RX × Int => RL b sp z.1 cap z.2.1) (R := fun z => .is (.int .i64 z.2.2)) rfl (abS (rdS st xs k r (st1, cp1)) (rdL xs k r (st1, cp1)) k, abL (rdL xs k r (st1, cp1)) k, 22) (by unfold RdR; rw [if_neg (by rw [ht12]; simp)]; exact ⟨(st1, cp1), hG1, by rw [if_pos (by first | omega | (simp at ht35; omega))]⟩) (List.perm_append_comm (l₁ := [_])) RL_out rfl hb0 rfl (Sub.isEq (rfl))
    ·
      try simp only [decide_eq_true_eq, decide_eq_false_iff_not] at ht35
      refine J.skip ?_
      repeat (first | refine JX.next ?_ | refine JX.normal_block ?_)
      have hU1 : ∀ x ∈ (rdL xs k r (st1, cp1)), ∀ w ∈ x.writes, w ∈ U := fun x hx => by
        rcases List.mem_or_eq_of_mem_set hx with hx | rfl
        · exact hU x hx
        · exact hU (rAt xs (k - 1)) hxm
      have hrl1 : ∀ x ∈ (rdL xs k r (st1, cp1)), x.reads.length ≤ 4611686018427387904 := fun x hx => by
        rcases List.mem_or_eq_of_mem_set hx with hx | rfl
        · exact hrl x hx
        · show (kpL (rAt xs (k - 1)).reads r).length ≤ _
          have := kpL_len (rAt xs (k - 1)).reads r
          omega
      have hwl1 : ∀ x ∈ (rdL xs k r (st1, cp1)), x.writes.length ≤ 4611686018427387904 := fun x hx => by
        rcases List.mem_or_eq_of_mem_set hx with hx | rfl
        · exact hwl x hx
        · exact hwl (rAt xs (k - 1)) hxm
      repeat refine J.seq ?_
      refine J.plain ?_
      refine JO.t (ob_move rfl) rfl ?_
      refine JO.t (ob_move rfl) rfl ?_
      refine JO.callL (Lr := [(⟨b5, ty_api_Read, .is (rdA r)⟩ : Own)]) (c_p_ref20_Set_judge b sp (rdS st xs k r (st1, cp1)) cap (rdL xs k r (st1, cp1)) hW1 U hU1 hrl1 hwl1 (by rw [hl1]; exact hl) k hk0 (by rw [hl1]; exact hk1)) (fun d e => by injection e with e; show d < 47; omega) (List.perm_append_comm (l₁ := [(⟨b5, ty_api_Read, .is (rdA r)⟩ : Own)])) (fun _ h => h) (.one rfl (.one rfl .nil)) ?_
      intro zz hzz
      refine JO.t (ob_assign rfl) rfl ?_
      refine JO.nil ?_
      repeat (first | refine JX.next ?_ | refine JX.normal_block ?_)
      refine J.sel [6] (.cons rfl .nil) ?_
      repeat refine J.seq ?_
      refine J.ret ?_
      repeat (first | refine JX.ret_pass ?_ | refine JX.ret_block ?_)
      exact JX.retL1 (Lr := [_]) (L1 := fun z : Option (Nat × List Value) × List RX × Int => RL b sp z.1 cap z.2.1) (R := fun z => .is (.int .i64 z.2.2)) rfl zz (show RdR st xs k r zz from by unfold RdR; rw [if_neg (by rw [ht12]; simp)]; exact ⟨(st1, cp1), hG1, by rw [if_neg (by first | omega | (simp at ht35; omega))]; exact hzz⟩) (.refl _) RL_out rfl hb0 rfl (Sub.isEq (rfl))
end Go.Proofs.Ytggmifnkgcladaa
set_option maxRecDepth 20000
namespace Go.Proofs.Ytggmifnkgcladaa
open Go Go.Vc
open Go.Si
def wrL (xs : List RX) (k : Int) (w : WrA) (q : Option (Nat × List Value) × Nat) : List RX := xs.set (k - 1).toNat (putW q ((rAt xs (k - 1)).writes ++ [w]) (rAt xs (k - 1)))
def wrS (st : Option (Nat × List Value)) (xs : List RX) (k : Int) (w : WrA) (q : Option (Nat × List Value) × Nat) : Option (Nat × List Value) := stS st (k - 1).toNat (putW q ((rAt xs (k - 1)).writes ++ [w]) (rAt xs (k - 1)))
def WtR (st : Option (Nat × List Value)) (xs : List RX) (k : Int) (w : WrA) (z : Option (Nat × List Value) × List RX × Int) : Prop :=
  if actR xs k != 0 then z = (st, xs, actR xs k) else ∃ q : Option (Nat × List Value) × Nat, Grows WrA.cells 3 ((rAt xs (k - 1)).writes ++ [w]) q.1 q.2 ∧ z = jgR (wrS st xs k w q) (wrL xs k w q) k
theorem c_p_ref20_Set_Write (b sp : Nat) (st : Option (Nat × List Value)) (cap : Nat) (xs : List RX) (hW : RWf st cap xs) (U : List WrA) (hU : ∀ x ∈ xs, ∀ w ∈ x.writes, w ∈ U) (hrl : ∀ x ∈ xs, x.reads.length ≤ 4611686018427387904) (hwl : ∀ x ∈ xs, x.writes.length ≤ 4611686018427387904) (hl : xs.length ≤ 1048576) (k : Int) (w : WrA) (hw : w ∈ U) (hws : ∀ x ∈ xs, x.writes.length < 1048576) : CallL Try.prog f_p_ref20_Set_Write (RL b sp st cap xs) [WrF U] [.is (.pointer (some ⟨b, 0, none⟩)), .is (.int .i64 k), .is (wrV w)] (WtR st xs k w) (fun z => RL b sp z.1 cap z.2.1) (fun z => .is (.int .i64 z.2.2)) :=
CallL.of (fn := Try.f25) Try.func25 (n := 37) rfl rfl rfl (fun _ _ => by kernel_rfl) fun E W hb0 => by
  repeat refine J.seq ?_
  refine J.plain ?_
  refine JO.box rfl rfl fun b5 => ?_
  refine JO.t (ob_assign rfl) rfl ?_
  refine JO.nil ?_
  repeat (first | refine JX.next ?_ | refine JX.normal_block ?_)
  refine J.sel [0, 1, 5] (.cons rfl (.cons rfl (.cons rfl .nil))) ?_
  refine J.nodup fun hnd0 => ?_
  have hnd : ((RL b sp st cap xs).map (·.b)).Nodup := (List.nodup_cons.1 hnd0).2
  repeat refine J.seq ?_
  refine J.plain ?_
  refine JO.t (ob_move rfl) rfl ?_
  refine JO.t (ob_move rfl) rfl ?_
  refine JO.t (ob_callB rfl (c_p_ref20_Set_active b sp st cap xs hW.g hl k) RL_ob (fun o ho => List.mem_cons_of_mem _ ho) (fun _ _ _ => hnd) (fun _ h => by cases h) (.one rfl (.one rfl .nil))) rfl ?_
  refine JO.t (ob_assign rfl) rfl ?_
  refine JO.nil ?_
  repeat (first | refine JX.next ?_ | refine JX.normal_block ?_)
  refine J.sel [0, 1, 5, 7] (.cons rfl (.cons rfl (.cons rfl (.cons rfl .nil)))) ?_
  repeat refine J.seq ?_
  refine J.plain ?_
  refine JO.t (ob_move rfl) rfl ?_
  refine JO.t (ob_neq rfl rfl) rfl ?_
  refine JO.nil ?_
  repeat (first | refine JX.next ?_ | refine JX.normal_block ?_)
  refine J.sel [0, 1, 5, 7, 12] (.cons rfl (.cons rfl (.cons rfl (.cons rfl (.cons rfl .nil))))) ?_
  repeat refine J.seq ?_
  refine J.cond rfl (fun ht12 => ?_) (fun ht12 => ?_)
  ·
    try simp only [decide_eq_true_eq, decide_eq_false_iff_not] at ht12
    repeat refine J.seq ?_
    refine J.plain ?_
    refine JO.t (ob_move rfl) rfl ?_
    refine JO.t (ob_assign rfl) rfl ?_
    refine JO.nil ?_
    repeat (first | refine JX.next ?_ | refine JX.normal_block ?_)
    refine J.sel [6] (.cons rfl .nil) ?_
    repeat refine J.seq ?_
    refine J.ret ?_
    repeat (first | refine JX.ret_pass ?_ | refine JX.ret_block ?_)
    exact JX.retL1 (Lr := [_]) (L1 := fun z : Option (Nat × List Value) × List RX × Int => RL b sp z.1 cap z.2.1) (R := fun z => .is (.int .i64 z.2.2)) rfl (st, xs, actR xs k) (by unfold WtR; rw [if_pos ht12]) (List.perm_append_comm (l₁ := [_])) RL_out rfl hb0 rfl (Sub.isEq (rfl))
  ·
    try simp only [decide_eq_true_eq, decide_eq_false_iff_not] at ht12
    refine J.skip ?_
    repeat (first | refine JX.next ?_ | refine JX.normal_block ?_)
    obtain ⟨hk0, hk1, _⟩ := act_ok (xs := xs) (k := k) (by simpa using ht12)
    have hxm := rAt_mem (xs := xs) (i := k - 1) (by omega) (by omega)
    have hg0 := (rAt_get (xs := xs) (i := k - 1) (by omega) (by omega))
    have hso := st_some hW.g (Nat.lt_of_lt_of_le Nat.zero_lt_one (by omega : 1 ≤ xs.length))
    have hxr := hws _ hxm
    have hLp : ((⟨b5, ty_api_Write, .is (wrV w)⟩ : Own) :: RL b sp st cap xs).Perm (ownO (rAt xs (k - 1)).ws ty_api_Write (FrR ⟨b5, ty_api_Write, .is (wrV w)⟩ b sp cap xs.length st (rsW xs (k - 1).toNat (rAt xs (k - 1))))) := (fw_perm hg0 _).trans (List.Perm.of_eq (ownO_split _ _ _).symm)
    refine J.subL (L' := ownO (rAt xs (k - 1)).ws ty_api_Write (FrR ⟨b5, ty_api_Write, .is (wrV w)⟩ b sp cap xs.length st (rsW xs (k - 1).toNat (rAt xs (k - 1))))) (fun o ho => hLp.mem_iff.2 ho) (fun hn => ((hLp.map (·.b)).nodup_iff).1 hn) ?_
    repeat refine J.seq ?_
    refine J.regBm (G := GrG WrA.cells 3 ((rAt xs (k - 1)).writes ++ [w])) (Tg := fun g => .is (sliceO g.1.1 ((rAt xs (k - 1)).writes ++ [w]).length g.1.2)) (Lg := fun g => ownO g.1.1 ty_api_Write (FrR ⟨b5, ty_api_Write, .is (wrV w)⟩ b sp cap xs.length st (rsW xs (k - 1).toNat (rAt xs (k - 1))))) 17 18 (FrR ⟨b5, ty_api_Write, .is (wrV w)⟩ b sp cap xs.length st (rsW xs (k - 1).toNat (rAt xs (k - 1)))) rfl rfl rfl rfl hmx (by kernel_rfl) rfl (by kernel_rfl) (fun o ho => Go.Vc.mem_ownO ho) (fun g o ho => Go.Vc.mem_ownO ho) ?_
    refine RT.t (ob_move rfl) ?_
    refine RT.t (ob_nilCheck rfl) ?_
    refine RT.t (ob_fieldAddr fo_cadastreref20_Set_0 rfl) ?_
    refine RT.t (ob_ld1 sz_sl_cadastreref20_Tx rfl (hm := ⟨List.mem_cons_of_mem _ List.mem_cons_self⟩) rfl) ?_
    refine RT.t (ob_move rfl) ?_
    refine RT.t (ob_subc (cc := k - 1) rfl rfl rfl (by omega) (by omega)) ?_
    refine RT.t (ob_move rfl) ?_
    refine RT.t (ob_nilCheck rfl) ?_
    refine RT.t (ob_fieldAddr fo_cadastreref20_Set_0 rfl) ?_
    refine RT.t (ob_ld1 sz_sl_cadastreref20_Tx rfl (hm := ⟨List.mem_cons_of_mem _ List.mem_cons_self⟩) rfl) ?_
    refine RT.t (ob_move rfl) ?_
    refine RT.t (ob_subc (cc := k - 1) rfl rfl rfl (by omega) (by omega)) ?_
    refine RT.t (ob_idxO el_sl_cadastreref20_Tx rfl hW.g rfl (by omega) (by omega)) ?_
    refine RT.t (ob_fieldAddr fo_cadastreref20_Tx_4 rfl) ?_
    refine RT.t (ob_ldO1 (e := ty_cadastreref20_Tx) RX.len sz_sl_api_Write rfl (fun p h => List.mem_cons_of_mem _ (List.mem_cons_of_mem _ (by rw [h]; exact List.mem_cons_self))) hW.g hg0 rfl rfl) ?_
    refine RT.t (ob_ldN (cs := [_, _, _]) sz_api_Write rfl (hm := ⟨List.mem_cons_self⟩) rfl rfl) ?_
    refine RT.t (ob_buildSlice (cs := [_, _, _]) sl_sl_api_Write (by omega) (by omega) (.cons rfl .nil) rfl rfl rfl) ?_
    refine RT.big (big_ap (en := WrA.cells) (xs := (rAt xs (k - 1)).writes) (e := ty_api_Write) [w] ap_sl_api_Write .here (hW.ws _ hxm) rfl rfl (fun L => src_new un_sl_api_Write rfl rfl) (by simp) (by simp only [List.length_cons, List.length_nil]; omega) (by simp only [List.length_cons, List.length_nil]; omega)) ?_
    refine RT.nil ?_
    intro g
    obtain ⟨⟨st1, cp1⟩, hG1⟩ := g
    try dsimp only
    refine JO.t (ob_idxO el_sl_cadastreref20_Tx rfl hW.g rfl (by omega) (by omega)) rfl ?_
    refine JO.t (ob_fieldAddr fo_cadastreref20_Tx_4 rfl) rfl ?_
    refine JO.m (obm_storeO1 RX.len (v' := (putW (st1, cp1) ((rAt xs (k - 1)).writes ++ [w]) (rAt xs (k - 1)))) (j := 4) (sliceO_cells _ _ _) (sliceO_one _ _ _) ss_sl_api_Write rfl rfl hW.g hg0 rfl (by omega) rfl (upd_ownO (fr_upd (A := []) hso))) (Upd.same (upd_ownO (fr_upd (A := []) (v := (putW (st1, cp1) ((rAt xs (k - 1)).writes ++ [w]) (rAt xs (k - 1)))) hso)) rfl) ?_
    refine JO.subL (L' := ⟨b5, ty_api_Write, .is (wrV w)⟩ :: RL b sp (wrS st xs k w (st1, cp1)) cap (wrL xs k w (st1, cp1))) ((fw_back (v := (putW (st1, cp1) ((rAt xs (k - 1)).writes ++ [w]) (rAt xs (k - 1)))) hg0 rfl _).trans (List.Perm.of_eq (ownO_split _ _ _).symm)) ?_
    refine JO.nil ?_
    repeat (first | refine JX.next ?_ | refine JX.normal_block ?_)
    refine J.sel [0, 1] (.cons rfl (.cons rfl .nil)) ?_
    have hl1 : (wrL xs k w (st1, cp1)).length = xs.length := List.length_set
    have hW1 : RWf (wrS st xs k w (st1, cp1)) cap (wrL xs k w (st1, cp1)) := hW.set (v' := (putW (st1, cp1) ((rAt xs (k - 1)).writes ++ [w]) (rAt xs (k - 1)))) hg0 (by exact hW.rs (rAt xs (k - 1)) hxm) hG1
    have hU1 : ∀ x ∈ (wrL xs k w (st1, cp1)), ∀ v ∈ x.writes, v ∈ U := fun x hx v hv => by
      rcases List.mem_or_eq_of_mem_set hx with hx | rfl
      · exact hU x hx v hv
      · rcases List.mem_append.1 hv with hv | hv
        · exact hU (rAt xs (k - 1)) hxm v hv
        · rw [List.mem_singleton.1 hv]; exact hw
    have hrl1 : ∀ x ∈ (wrL xs k w (st1, cp1)), x.reads.length ≤ 4611686018427387904 := fun x hx => by
      rcases List.mem_or_eq_of_mem_set hx with hx | rfl
      · exact hrl x hx
      · exact hrl (rAt xs (k - 1)) hxm
    have hwl1 : ∀ x ∈ (wrL xs k w (st1, cp1)), x.writes.length ≤ 4611686018427387904 := fun x hx => by
      rcases List.mem_or_eq_of_mem_set hx with hx | rfl
      · exact hwl x hx
      · show ((rAt xs (k - 1)).writes ++ [w]).length ≤ _
        rw [List.length_append, List.length_singleton]; omega
    repeat refine J.seq ?_
    refine J.plain ?_
    refine JO.t (ob_move rfl) rfl ?_
    refine JO.t (ob_move rfl) rfl ?_
    refine JO.callL (Lr := [(⟨b5, ty_api_Write, .is (wrV w)⟩ : Own)]) (c_p_ref20_Set_judge b sp (wrS st xs k w (st1, cp1)) cap (wrL xs k w (st1, cp1)) hW1 U hU1 hrl1 hwl1 (by rw [hl1]; exact hl) k hk0 (by rw [hl1]; exact hk1)) (fun d e => by injection e with e; show d < 37; omega) (List.perm_append_comm (l₁ := [(⟨b5, ty_api_Write, .is (wrV w)⟩ : Own)])) (fun _ h => h) (.one rfl (.one rfl .nil)) ?_
    intro zz hzz
    refine JO.t (ob_assign rfl) rfl ?_
    refine JO.nil ?_
    repeat (first | refine JX.next ?_ | refine JX.normal_block ?_)
    refine J.sel [6] (.cons rfl .nil) ?_
    repeat refine J.seq ?_
    refine J.ret ?_
    repeat (first | refine JX.ret_pass ?_ | refine JX.ret_block ?_)
    exact JX.retL1 (Lr := [_]) (L1 := fun z : Option (Nat × List Value) × List RX × Int => RL b sp z.1 cap z.2.1) (R := fun z => .is (.int .i64 z.2.2)) rfl zz (show WtR st xs k w zz from by unfold WtR; rw [if_neg (by rw [ht12]; simp)]; exact ⟨(st1, cp1), hG1, hzz⟩) (.refl _) RL_out rfl hb0 rfl (Sub.isEq (rfl))
end Go.Proofs.Ytggmifnkgcladaa
set_option maxRecDepth 20000
namespace Go.Proofs.Ytggmifnkgcladaa
open Go Go.Vc
open Go.Si
theorem n_p_ref20_Set_active (k : Int) : CallTy Try.prog f_p_ref20_Set_active [.is (.pointer none), .is (.int .i64 k)] (.is (.int .i64 2)) :=
  CallTy.of (fn := Try.f45) Try.func45 (n := 30) rfl rfl rfl (fun _ _ => by kernel_rfl) fun E W => by
  repeat refine J.seq ?_
  refine J.plain ?_
  refine JO.t (ob_assign rfl) rfl ?_
  refine JO.nil ?_
  repeat (first | refine JX.next ?_ | refine JX.normal_block ?_)
  refine J.sel [0, 1] (.cons rfl (.cons rfl .nil)) ?_
  repeat refine J.seq ?_
  refine J.plain ?_
  refine JO.t (ob_move rfl) rfl ?_
  refine JO.t (ob_pnil un_p_cadastreref20_Set rfl rfl) rfl ?_
  refine JO.nil ?_
  repeat (first | refine JX.next ?_ | refine JX.normal_block ?_)
  refine J.sel [0, 1, 6] (.cons rfl (.cons rfl (.cons rfl .nil))) ?_
  repeat refine J.seq ?_
  refine J.cond rfl (fun ht6 => ?_) (fun ht6 => ?_)
  ·
    try simp only [decide_eq_true_eq, decide_eq_false_iff_not] at ht6
    repeat refine J.seq ?_
    refine J.plain ?_
    refine JO.t (ob_assign rfl) rfl ?_
    refine JO.nil ?_
    repeat (first | refine JX.next ?_ | refine JX.normal_block ?_)
    refine J.sel [4] (.cons rfl .nil) ?_
    repeat refine J.seq ?_
    refine J.ret ?_
    repeat (first | refine JX.ret_pass ?_ | refine JX.ret_block ?_)
    exact JX.ret1is rfl rfl (rfl)
  ·
    try simp only [decide_eq_true_eq, decide_eq_false_iff_not] at ht6
    exfalso
    cases ht6
theorem n_p_ref20_Set_Begin  : CallTy Try.prog f_p_ref20_Set_Begin [.is (.pointer none)] (.is (.int .i64 0)) :=
  CallTy.of (fn := Try.f18) Try.func18 (n := 31) rfl rfl rfl (fun _ _ => by kernel_rfl) fun E W => by
  repeat refine J.seq ?_
  refine J.plain ?_
  refine JO.t (ob_assign rfl) rfl ?_
  refine JO.nil ?_
  repeat (first | refine JX.next ?_ | refine JX.normal_block ?_)
  refine J.sel [0] (.cons rfl .nil) ?_
  repeat refine J.seq ?_
  refine J.plain ?_
  refine JO.t (ob_move rfl) rfl ?_
  refine JO.t (ob_pnil un_p_cadastreref20_Set rfl rfl) rfl ?_
  refine JO.nil ?_
  repeat (first | refine JX.next ?_ | refine JX.normal_block ?_)
  refine J.sel [0, 4] (.cons rfl (.cons rfl .nil)) ?_
  repeat refine J.seq ?_
  refine J.cond rfl (fun ht4 => ?_) (fun ht4 => ?_)
  ·
    try simp only [decide_eq_true_eq, decide_eq_false_iff_not] at ht4
    repeat refine J.seq ?_
    refine J.plain ?_
    refine JO.t (ob_assign rfl) rfl ?_
    refine JO.nil ?_
    repeat (first | refine JX.next ?_ | refine JX.normal_block ?_)
    refine J.sel [2] (.cons rfl .nil) ?_
    repeat refine J.seq ?_
    refine J.ret ?_
    repeat (first | refine JX.ret_pass ?_ | refine JX.ret_block ?_)
    exact JX.ret1is rfl rfl (rfl)
  ·
    try simp only [decide_eq_true_eq, decide_eq_false_iff_not] at ht4
    exfalso
    cases ht4
theorem n_p_ref20_Set_Read (k : Int) (r : Rd) : CallTy Try.prog f_p_ref20_Set_Read [.is (.pointer none), .is (.int .i64 k), .is (rdA r)] (.is (.int .i64 2)) :=
  CallTy.of (fn := Try.f24) Try.func24 (n := 47) rfl rfl rfl (fun _ _ => by kernel_rfl) fun E W => by
  repeat refine J.seq ?_
  refine J.plain ?_
  refine JO.box rfl rfl fun b5 => ?_
  refine JO.t (ob_assign rfl) rfl ?_
  refine JO.nil ?_
  repeat (first | refine JX.next ?_ | refine JX.normal_block ?_)
  refine J.sel [0, 1, 5] (.cons rfl (.cons rfl (.cons rfl .nil))) ?_
  repeat refine J.seq ?_
  refine J.plain ?_
  refine JO.t (ob_move rfl) rfl ?_
  refine JO.t (ob_move rfl) rfl ?_
  refine JO.t (ob_call rfl (n_p_ref20_Set_active k) (.one rfl (.one rfl .nil))) rfl ?_
  refine JO.t (ob_assign rfl) rfl ?_
  refine JO.nil ?_
  repeat (first | refine JX.next ?_ | refine JX.normal_block ?_)
  refine J.sel [0, 1, 5, 7] (.cons rfl (.cons rfl (.cons rfl (.cons rfl .nil)))) ?_
  repeat refine J.seq ?_
  refine J.plain ?_
  refine JO.t (ob_move rfl) rfl ?_
  refine JO.t (ob_neq rfl rfl) rfl ?_
  refine JO.nil ?_
  repeat (first | refine JX.next ?_ | refine JX.normal_block ?_)
  refine J.sel [0, 1, 5, 7, 12] (.cons rfl (.cons rfl (.cons rfl (.cons rfl (.cons rfl .nil))))) ?_
  repeat refine J.seq ?_
  refine J.cond rfl (fun ht12 => ?_) (fun ht12 => ?_)
  ·
    try simp only [decide_eq_true_eq, decide_eq_false_iff_not] at ht12
    repeat refine J.seq ?_
    refine J.plain ?_
    refine JO.t (ob_move rfl) rfl ?_
    refine JO.t (ob_assign rfl) rfl ?_
    refine JO.nil ?_
    repeat (first | refine JX.next ?_ | refine JX.normal_block ?_)
    refine J.sel [6] (.cons rfl .nil) ?_
    repeat refine J.seq ?_
    refine J.ret ?_
    repeat (first | refine JX.ret_pass ?_ | refine JX.ret_block ?_)
    exact JX.ret1is rfl rfl (rfl)
  ·
    try simp only [decide_eq_true_eq, decide_eq_false_iff_not] at ht12
    exfalso
    cases ht12
theorem n_p_ref20_Set_Write (k : Int) (w : WrA) : CallTy Try.prog f_p_ref20_Set_Write [.is (.pointer none), .is (.int .i64 k), .is (wrV w)] (.is (.int .i64 2)) :=
  CallTy.of (fn := Try.f25) Try.func25 (n := 37) rfl rfl rfl (fun _ _ => by kernel_rfl) fun E W => by
  repeat refine J.seq ?_
  refine J.plain ?_
  refine JO.box rfl rfl fun b5 => ?_
  refine JO.t (ob_assign rfl) rfl ?_
  refine JO.nil ?_
  repeat (first | refine JX.next ?_ | refine JX.normal_block ?_)
  refine J.sel [0, 1, 5] (.cons rfl (.cons rfl (.cons rfl .nil))) ?_
  repeat refine J.seq ?_
  refine J.plain ?_
  refine JO.t (ob_move rfl) rfl ?_
  refine JO.t (ob_move rfl) rfl ?_
  refine JO.t (ob_call rfl (n_p_ref20_Set_active k) (.one rfl (.one rfl .nil))) rfl ?_
  refine JO.t (ob_assign rfl) rfl ?_
  refine JO.nil ?_
  repeat (first | refine JX.next ?_ | refine JX.normal_block ?_)
  refine J.sel [0, 1, 5, 7] (.cons rfl (.cons rfl (.cons rfl (.cons rfl .nil)))) ?_
  repeat refine J.seq ?_
  refine J.plain ?_
  refine JO.t (ob_move rfl) rfl ?_
  refine JO.t (ob_neq rfl rfl) rfl ?_
  refine JO.nil ?_
  repeat (first | refine JX.next ?_ | refine JX.normal_block ?_)
  refine J.sel [0, 1, 5, 7, 12] (.cons rfl (.cons rfl (.cons rfl (.cons rfl (.cons rfl .nil))))) ?_
  repeat refine J.seq ?_
  refine J.cond rfl (fun ht12 => ?_) (fun ht12 => ?_)
  ·
    try simp only [decide_eq_true_eq, decide_eq_false_iff_not] at ht12
    repeat refine J.seq ?_
    refine J.plain ?_
    refine JO.t (ob_move rfl) rfl ?_
    refine JO.t (ob_assign rfl) rfl ?_
    refine JO.nil ?_
    repeat (first | refine JX.next ?_ | refine JX.normal_block ?_)
    refine J.sel [6] (.cons rfl .nil) ?_
    repeat refine J.seq ?_
    refine J.ret ?_
    repeat (first | refine JX.ret_pass ?_ | refine JX.ret_block ?_)
    exact JX.ret1is rfl rfl (rfl)
  ·
    try simp only [decide_eq_true_eq, decide_eq_false_iff_not] at ht12
    exfalso
    cases ht12
theorem n_p_ref20_Set_Commit (k : Int) : CallTy Try.prog f_p_ref20_Set_Commit [.is (.pointer none), .is (.int .i64 k)] (.is (.int .i64 2)) :=
  CallTy.of (fn := Try.f26) Try.func26 (n := 51) rfl rfl rfl (fun _ _ => by kernel_rfl) fun E W => by
  repeat refine J.seq ?_
  refine J.plain ?_
  refine JO.t (ob_assign rfl) rfl ?_
  refine JO.nil ?_
  repeat (first | refine JX.next ?_ | refine JX.normal_block ?_)
  refine J.sel [0, 1] (.cons rfl (.cons rfl .nil)) ?_
  repeat refine J.seq ?_
  refine J.plain ?_
  refine JO.t (ob_move rfl) rfl ?_
  refine JO.t (ob_move rfl) rfl ?_
  refine JO.t (ob_call rfl (n_p_ref20_Set_active k) (.one rfl (.one rfl .nil))) rfl ?_
  refine JO.t (ob_assign rfl) rfl ?_
  refine JO.nil ?_
  repeat (first | refine JX.next ?_ | refine JX.normal_block ?_)
  refine J.sel [0, 1, 5] (.cons rfl (.cons rfl (.cons rfl .nil))) ?_
  repeat refine J.seq ?_
  refine J.plain ?_
  refine JO.t (ob_move rfl) rfl ?_
  refine JO.t (ob_neq rfl rfl) rfl ?_
  refine JO.nil ?_
  repeat (first | refine JX.next ?_ | refine JX.normal_block ?_)
  refine J.sel [0, 1, 5, 10] (.cons rfl (.cons rfl (.cons rfl (.cons rfl .nil)))) ?_
  repeat refine J.seq ?_
  refine J.cond rfl (fun ht10 => ?_) (fun ht10 => ?_)
  ·
    try simp only [decide_eq_true_eq, decide_eq_false_iff_not] at ht10
    repeat refine J.seq ?_
    refine J.plain ?_
    refine JO.t (ob_move rfl) rfl ?_
    refine JO.t (ob_assign rfl) rfl ?_
    refine JO.nil ?_
    repeat (first | refine JX.next ?_ | refine JX.normal_block ?_)
    refine J.sel [4] (.cons rfl .nil) ?_
    repeat refine J.seq ?_
    refine J.ret ?_
    repeat (first | refine JX.ret_pass ?_ | refine JX.ret_block ?_)
    exact JX.ret1is rfl rfl (rfl)
  ·
    try simp only [decide_eq_true_eq, decide_eq_false_iff_not] at ht10
    exfalso
    cases ht10
theorem n_p_ref20_Set_Abort (k : Int) : CallTy Try.prog f_p_ref20_Set_Abort [.is (.pointer none), .is (.int .i64 k)] (.is (.int .i64 2)) :=
  CallTy.of (fn := Try.f27) Try.func27 (n := 20) rfl rfl rfl (fun _ _ => by kernel_rfl) fun E W => by
  repeat refine J.seq ?_
  refine J.plain ?_
  refine JO.t (ob_assign rfl) rfl ?_
  refine JO.nil ?_
  repeat (first | refine JX.next ?_ | refine JX.normal_block ?_)
  refine J.sel [0, 1] (.cons rfl (.cons rfl .nil)) ?_
  repeat refine J.seq ?_
  refine J.plain ?_
  refine JO.t (ob_move rfl) rfl ?_
  refine JO.t (ob_move rfl) rfl ?_
  refine JO.t (ob_call rfl (n_p_ref20_Set_active k) (.one rfl (.one rfl .nil))) rfl ?_
  refine JO.t (ob_assign rfl) rfl ?_
  refine JO.nil ?_
  repeat (first | refine JX.next ?_ | refine JX.normal_block ?_)
  refine J.sel [0, 1, 5] (.cons rfl (.cons rfl (.cons rfl .nil))) ?_
  repeat refine J.seq ?_
  refine J.plain ?_
  refine JO.t (ob_move rfl) rfl ?_
  refine JO.t (ob_eql rfl rfl) rfl ?_
  refine JO.nil ?_
  repeat (first | refine JX.next ?_ | refine JX.normal_block ?_)
  refine J.sel [0, 1, 5, 10] (.cons rfl (.cons rfl (.cons rfl (.cons rfl .nil)))) ?_
  repeat refine J.seq ?_
  refine J.cond rfl (fun ht10 => ?_) (fun ht10 => ?_)
  ·
    try simp only [decide_eq_true_eq, decide_eq_false_iff_not] at ht10
    exfalso
    cases ht10
  ·
    try simp only [decide_eq_true_eq, decide_eq_false_iff_not] at ht10
    refine J.skip ?_
    repeat (first | refine JX.next ?_ | refine JX.normal_block ?_)
    repeat refine J.seq ?_
    refine J.plain ?_
    refine JO.t (ob_move rfl) rfl ?_
    refine JO.t (ob_assign rfl) rfl ?_
    refine JO.nil ?_
    repeat (first | refine JX.next ?_ | refine JX.normal_block ?_)
    refine J.sel [4] (.cons rfl .nil) ?_
    repeat refine J.seq ?_
    refine J.ret ?_
    repeat (first | refine JX.ret_pass ?_ | refine JX.ret_block ?_)
    exact JX.ret1is rfl rfl (rfl)
end Go.Proofs.Ytggmifnkgcladaa
set_option maxRecDepth 20000
namespace Go.Proofs.Ytggmifnkgcladaa
open Go Go.Vc
open Go.Si Go.Vl
def nmV (n : Int) : V3 := ⟨1, n, ⟨#[]⟩⟩
def nmS (q : Nat) (n : Int) : Option (Nat × List Value) := some (q, (nmV n).cells)
theorem nm_grows (q : Nat) (n : Int) : Grows V3.cells 3 [nmV n] (nmS q n) 1 := ⟨rfl, Nat.le_refl _, rfl⟩
theorem c_law20_num (n : Int) : CallL Try.prog f_law20_num [] [] [.is (.int .i64 n)] (fun _ : Nat => True) (fun q => RW (nmS q n)) (fun q => .is (sliceO (nmS q n) 1 1)) :=
CallL.of (fn := Try.f23) Try.func23 (n := 6) rfl rfl rfl (fun _ _ => by kernel_rfl) fun E W hb0 => by
  repeat refine J.seq ?_
  refine J.plain ?_
  refine JO.t (ob_assign rfl) rfl ?_
  refine JO.nil ?_
  repeat (first | refine JX.next ?_ | refine JX.normal_block ?_)
  refine J.sel [0] (.cons rfl .nil) ?_
  repeat refine J.seq ?_
  refine J.plain ?_
  refine JO.t (ob_move rfl) rfl ?_
  refine JO.t (ob_build (cs := [_, _, _]) sh_api_Value (.cons rfl (.cons rfl .nil)) rfl rfl) rfl ?_
  refine JO.buildOwn (cs := [_, _, _]) sl_sl_api_Value (by omega) (by omega) (.cons rfl .nil) rfl rfl rfl rfl (fun b5 => ?_)
  refine JO.t (ob_assign rfl) rfl ?_
  refine JO.nil ?_
  repeat (first | refine JX.next ?_ | refine JX.normal_block ?_)
  refine J.sel [2] (.cons rfl .nil) ?_
  repeat refine J.seq ?_
  refine J.ret ?_
  repeat (first | refine JX.ret_pass ?_ | refine JX.ret_block ?_)
  exact JX.retL1 (Lr := []) (L1 := fun q : Nat => RW (nmS q n)) (R := fun q => .is (sliceO (nmS q n) 1 1)) rfl b5 trivial (.refl _) rfl rfl hb0 rfl (Sub.isEq rfl)
end Go.Proofs.Ytggmifnkgcladaa
