/- value: tuples read. No condition. -/
import Derived.Test.YtlccnpmhmdoapaaDoorXD
import Derived.Test.YtlccnpmhmdoapaaDoorXG4
set_option maxRecDepth 20000
namespace Go.Proofs.YtlccnpmhmdoapaaDoor
open Go Go.Vc
open Go.Vl
theorem and_split {a b : Bool} (h : (a && b) = true) : a = true ∧ b = true := by simpa using h
theorem getL_start (l : List UInt8) : (tkE l 0 1 = 0 → finG [] (getN (kb l) (tkR l 0 1)) = getL l) ∧ (tkE l 0 1 ≠ 0 → getL l = ([], tkE l 0 1)) ∧ kb l ≤ 255 := by
  have hk : kb l < 256 := UInt8.toNat_lt _
  cases l with
  | nil => exact ⟨fun h => absurd h (by decide), fun _ => rfl, by omega⟩
  | cons b r =>
    obtain ⟨q1, q2, q3⟩ := tk_long (l := b :: r) (n := 1) (by simp)
    refine ⟨fun _ => ?_, fun h => absurd q1 h, by omega⟩
    have hkb : kb (b :: r) = b.toNat := by unfold kb; rw [q3]; rfl
    rw [hkb, q2]
    rfl
def InvG (l : List UInt8) (n : Nat) (xs : List V3) (r : List UInt8) (e : Int) : Prop := (e = 0 → finG xs (getN n r) = getL l) ∧ (e ≠ 0 → getL l = ([], e)) ∧ xs.length + n ≤ 255
theorem inv_start (l : List UInt8) : InvG l (kb l) [] (tkR l 0 1) (tkE l 0 1) := by
  obtain ⟨h1, h2, h3⟩ := getL_start l
  exact ⟨h1, h2, by simpa using h3⟩
theorem inv_next {l r : List UInt8} {n : Nat} {xs : List V3} (h : InvG l n xs r 0) (hn : 0 < n) : InvG l (n - 1) (xs ++ [(rv r).1]) (rv r).2.1 (rv r).2.2 := by
  obtain ⟨h1, h2, h3⟩ := h
  obtain ⟨m, rfl⟩ : ∃ m, n = m + 1 := ⟨n - 1, by omega⟩
  obtain ⟨q1, q2⟩ := rv_get r
  have h1 := h1 rfl
  refine ⟨fun e => ?_, fun e => ?_, by simp; omega⟩
  · obtain ⟨r1, r2⟩ := q2 e
    rw [r1, r2, Nat.add_sub_cancel, fin_step (by rw [← q1]; exact e)]
    exact h1
  · rw [q1] at e ⊢
    rw [← h1, fin_bad e]
theorem inv_end {l r : List UInt8} {n : Nat} {xs : List V3} {e : Int} (h : InvG l n xs r e) (hs : (decide ((0 : Int) < n) && (e == 0)) = false) : (muE e ((r.length : Int) == 0) ≠ 0 → getL l = ([], muE e ((r.length : Int) == 0))) ∧ (muE e ((r.length : Int) == 0) = 0 → getL l = (xs, 0)) := by
  obtain ⟨h1, h2, h3⟩ := h
  by_cases he : e = 0
  · subst he
    have hn : n = 0 := by simp at hs; exact hs
    subst hn
    have h1 := h1 rfl
    rw [muE_0]
    unfold finG at h1
    rw [getN, if_neg (by simp)] at h1
    cases r with
    | nil =>
      rw [if_pos rfl] at h1
      rw [if_pos (by decide)]
      exact ⟨fun h => absurd rfl h, fun _ => by rw [← h1]; simp⟩
    | cons b r =>
      rw [if_neg (by simp)] at h1
      rw [if_neg (by simp; omega)]
      exact ⟨fun _ => h1.symm, fun h => absurd h (by decide)⟩
  · rw [muE_e he]
    exact ⟨fun _ => h2 he, fun h => absurd h he⟩
theorem c_value_Get (l : List UInt8) : CallTy Tryd.prog f_value_Get [.rep (SlC bC 1 l)] (.tup2 (.rep (SlC V3.cells 3 (getL l).1)) (.is (.int .i64 (getL l).2))) :=
  CallTy.of (fn := Tryd.f23) Tryd.func23 (n := 49) rfl rfl rfl (fun _ _ => by kernel_rfl) fun E W => by
  refine J.openSlC (s := 0) rfl (fun a len cap b o hlen ha hlc => ?_)
  subst hlen
  have hkb : kb l < 256 := UInt8.toNat_lt _
  repeat refine J.seq ?_
  refine J.plain ?_
  refine JO.t (ob_assign rfl) rfl ?_
  refine JO.t (ob_assign rfl) rfl ?_
  refine JO.nil ?_
  repeat (first | refine JX.next ?_ | refine JX.normal_block ?_)
  refine J.sel [0] (.cons rfl .nil) ?_
  repeat refine J.seq ?_
  refine J.plain ?_
  refine JO.t (ob_move rfl) rfl ?_
  refine JO.t (ob_build (cs := [_, _]) sh_value_reader (.cons rfl .nil) rfl rfl) rfl ?_
  refine JO.box rfl rfl fun b9 => ?_
  refine JO.t (ob_assign rfl) rfl ?_
  refine JO.nil ?_
  repeat (first | refine JX.next ?_ | refine JX.normal_block ?_)
  refine J.sel [4] (.cons rfl .nil) ?_
  refine J.coerO (e := ty_value_reader) (T' := .rep (RdR l 0)) .here (Sub.rd (by repeat (first | exact List.mem_cons_self | apply List.mem_cons_of_mem)) hlc) ?_
  repeat refine J.seq ?_
  refine J.plain ?_
  refine JO.t (ob_assign rfl) rfl ?_
  refine JO.nil ?_
  repeat (first | refine JX.next ?_ | refine JX.normal_block ?_)
  refine J.sel [4, 5] (.cons rfl (.cons rfl .nil)) ?_
  repeat refine J.seq ?_
  refine J.plain ?_
  refine JO.t (ob_move rfl) rfl ?_
  refine JO.md (obm_callT rfl rfl (c_p_value_reader_take l 0 1 (by omega)) (by repeat (first | exact .here | apply Upd.there)) (by simp) (.one rfl .nil)) (by rfl) rfl ?_
  refine JO.openSlC (s := 11) rfl (fun a11 n11 c11 q11 o11 hl11 ha11 hc11 => ?_)
  rw [tkL_len] at hl11
  subst hl11
  refine JO.t (ob_indexAddr el_sl_uint8 rfl (ha11 (by decide)) rfl (by omega) (by omega)) rfl ?_
  refine JO.t (ob_loadG1 (enc := bC) (sz := 1) (len := 1) (i := 0) (j := 0) (xs := tkL l 0 1) (y := (tkL l 0 1).getD 0 0) sz_uint8 rfl (by repeat (first | exact List.mem_cons_self | apply List.mem_cons_of_mem)) (ha11 (by decide)) (u8_get (by rw [tkL_len]; decide)) (by rfl) rfl) rfl ?_
  refine JO.t (ob_convIIe (cc := ((kb l : Nat) : Int)) ⟨_, un_uint8⟩ un_int rfl (wrap64_eq (by omega) (by show ((kb l : Nat) : Int) < _; omega))) rfl ?_
  refine JO.t (ob_assign rfl) rfl ?_
  refine JO.nil ?_
  repeat (first | refine JX.next ?_ | refine JX.normal_block ?_)
  refine J.sel [4, 5, 6] (.cons rfl (.cons rfl (.cons rfl .nil))) ?_
  repeat refine J.seq ?_
  refine J.block ?_
  repeat refine J.seq ?_
  refine J.loopG (α := Nat × List V3 × List UInt8 × Int × Option (Nat × List Value) × Nat) (fun z => [(4, .is (.pointer (some ⟨b9, 0, none⟩))), (5, .is (sliceO z.2.2.2.2.1 z.2.1.length z.2.2.2.2.2)), (6, .is (.int .i64 (z.1 : Nat)))]) (fun z => ⟨b9, ty_value_reader, .rep (RdR z.2.2.1 z.2.2.2.1)⟩ :: ownO z.2.2.2.2.1 ty_api_Value []) (fun z => fun _ => True) (fun z => InvG l z.1 z.2.1 z.2.2.1 z.2.2.2.1 ∧ Grows V3.cells 3 z.2.1 z.2.2.2.2.1 z.2.2.2.2.2) (fun z => z.1) (kb l, [], tkR l 0 1, tkE l 0 1, none, 0) [4, 5, 6] (.cons rfl (.cons rfl (.cons rfl .nil))) rfl (fun _ => trivial) ⟨inv_start l, rfl⟩ fun ⟨n, xs, r, e, st, cp⟩ ⟨hI, hG⟩ => ?_
  try dsimp only
  try dsimp only at xs
  try dsimp only at r
  try dsimp only at e
  try dsimp only at st
  try dsimp only at cp
  try dsimp only at hI
  try dsimp only at hG
  have hn255 := hI.2.2
  refine J.openRd (l := r) (e := e) (C := fun T => ⟨b9, ty_value_reader, T⟩ :: ownO st ty_api_Value []) (fun T => .here) (fun a2 len2 cap2 hlen2 hlc2 => ?_)
  subst hlen2
  repeat refine J.seq ?_
  refine J.reg0 hmx (by kernel_rfl) (by kernel_rfl) ?_
  refine RT.t (ob_move rfl) ?_
  refine RT.t (ob_gtr rfl rfl) ?_
  refine RT.t (ob_move rfl) ?_
  refine RT.g rfl rfl rfl (fun hg => ob_move (.inl rfl)) ?_
  refine RT.g rfl rfl rfl (fun hg => ob_nilCheck (.inr ⟨_, rfl, fun h => h⟩)) ?_
  refine RT.g rfl rfl rfl (fun hg => ob_fieldAddr fo_value_reader_1 (.inr ⟨_, rfl, fun h => h⟩)) ?_
  refine RT.g rfl rfl rfl (fun hg => ob_ld1 sz_api_Errno (.inr ⟨_, rfl, fun h => h⟩) rfl) ?_
  refine RT.g rfl rfl rfl (fun hg => ob_eql (.inr ⟨_, rfl, fun h => h⟩) (.inl rfl)) ?_
  refine RT.t (ob_pickAnd rfl rfl rfl id) ?_
  refine RT.nil ?_
  refine FinS.nil0 ?_
  repeat (first | refine JX.next ?_ | refine JX.normal_block ?_)
  refine J.sel [4, 5, 6, 23] (.cons rfl (.cons rfl (.cons rfl (.cons rfl .nil)))) ?_
  repeat refine J.seq ?_
  refine J.cond rfl (fun ht23 => ?_) (fun ht23 => ?_)
  ·
    try simp only [decide_eq_true_eq, decide_eq_false_iff_not] at ht23
    refine J.skip ?_
    repeat (first | refine JX.next ?_ | refine JX.normal_block ?_)
    repeat refine J.seq ?_
    refine J.block ?_
    have he : e = 0 := by have h := (and_split ht23).2; simpa using h
    subst he
    have hn : 0 < n := by have h := (and_split ht23).1; simp at h; exact h
    refine J.coerO (e := ty_value_reader) (T' := .rep (RdR r 0)) .here (Sub.rd (by repeat (first | exact List.mem_cons_self | apply List.mem_cons_of_mem)) hlc2) ?_
    repeat refine J.seq ?_
    refine J.plain ?_
    refine JO.t (ob_move rfl) rfl ?_
    refine JO.t (ob_move rfl) rfl ?_
    refine JO.md (obm_callT rfl rfl (c_p_value_reader_value r) (by repeat (first | exact .here | apply Upd.there)) (by simp) .nil) (by rfl) rfl ?_
    refine JO.t (ob_buildSlice (cs := [_, _, _]) sl_sl_api_Value (by omega) (by omega) (.cons rfl .nil) rfl rfl rfl) rfl ?_
    refine JO.apX ([(rv r).1]) ap_sl_api_Value v3_len (by repeat (first | exact .here | apply Cx.past | apply Cx.there)) hG rfl rfl (fun L => src_new un_sl_api_Value rfl rfl) (by simp) (by simp <;> omega) (by simp <;> omega) rfl (fun st1 cp1 hG1 => ?_)
    try dsimp only
    refine JO.t (ob_assign rfl) rfl ?_
    refine JO.nil ?_
    repeat (first | refine JX.next ?_ | refine JX.normal_block ?_)
    refine J.sel [4, 5, 6] (.cons rfl (.cons rfl (.cons rfl .nil))) ?_
    repeat refine J.seq ?_
    refine J.plain ?_
    refine JO.t (ob_move rfl) rfl ?_
    refine JO.t (ob_subc (cc := ((n - 1 : Nat) : Int)) rfl rfl (by omega) (by omega) (by omega)) rfl ?_
    refine JO.t (ob_assign rfl) rfl ?_
    refine JO.nil ?_
    repeat refine JX.normal_block ?_
    refine JX.roundG (x := ⟨n, xs, r, 0, st, cp⟩) (n - 1, xs ++ [(rv r).1], (rv r).2.1, (rv r).2.2, st1, cp1) ?_ ?_ [4, 5, 6] ?_ ?_ ?_ ?_
    · exact ⟨inv_next hI hn, hG1⟩
    · exact (by simp only; omega)
    · exact (.cons rfl (.cons rfl (.cons rfl .nil)))
    · repeat (first | exact .all | exact .nil | refine Has.own (by repeat (first | exact .here | apply Tl.past | apply Tl.there)) ?_ | refine Has.cons (by repeat (first | exact .here | apply Pk.past | apply Pk.there)) ?_)
    · exact fun G hG => by repeat (first | exact hG | refine List.mem_cons_of_mem _ ?_)
    · exact fun _ _ _ => fun _ _ => trivial
  ·
    try simp only [decide_eq_true_eq, decide_eq_false_iff_not] at ht23
    repeat refine J.seq ?_
    refine J.exit ?_
    repeat (first | refine JX.hit ?_ | refine JX.miss rfl ?_ | refine JX.exit_pass ?_)
    repeat (first | refine JX.next ?_ | refine JX.normal_block ?_)
    repeat refine J.seq ?_
    refine J.plain ?_
    refine JO.t (ob_move rfl) rfl ?_
    refine JO.t (ob_move rfl) rfl ?_
    refine JO.t (ob_nilCheck rfl) rfl ?_
    refine JO.t (ob_fieldAddr fo_value_reader_0 rfl) rfl ?_
    refine JO.t (ob_ld1 sz_sl_uint8 rfl rfl) rfl ?_
    refine JO.t (ob_len un_sl_uint8 rfl) rfl ?_
    refine JO.t (ob_eql rfl rfl) rfl ?_
    refine JO.coerO (e := ty_value_reader) (T' := .rep (RdR r e)) .here (Sub.rd (by repeat (first | exact List.mem_cons_self | apply List.mem_cons_of_mem)) hlc2) ?_
    refine JO.md (obm_callT rfl rfl (c_p_value_reader_must r e ((r.length : Int) == 0)) (by repeat (first | exact .here | apply Upd.there)) (by simp) (.one rfl .nil)) (by rfl) rfl ?_
    refine JO.nil ?_
    repeat (first | refine JX.next ?_ | refine JX.normal_block ?_)
    refine J.sel [4, 5] (.cons rfl (.cons rfl .nil)) ?_
    have hend := inv_end hI ht23
    refine J.openRd (l := r) (e := muE e ((r.length : Int) == 0)) (C := fun T => ⟨b9, ty_value_reader, T⟩ :: ownO st ty_api_Value []) (fun T => .here) (fun a3 len3 cap3 hlen3 hlc3 => ?_)
    repeat refine J.seq ?_
    refine J.plain ?_
    refine JO.t (ob_move rfl) rfl ?_
    refine JO.t (ob_nilCheck rfl) rfl ?_
    refine JO.t (ob_fieldAddr fo_value_reader_1 rfl) rfl ?_
    refine JO.t (ob_ld1 sz_api_Errno rfl rfl) rfl ?_
    refine JO.t (ob_neq rfl rfl) rfl ?_
    refine JO.nil ?_
    repeat (first | refine JX.next ?_ | refine JX.normal_block ?_)
    refine J.sel [4, 5, 43] (.cons rfl (.cons rfl (.cons rfl .nil))) ?_
    repeat refine J.seq ?_
    refine J.cond rfl (fun ht43 => ?_) (fun ht43 => ?_)
    ·
      try simp only [decide_eq_true_eq, decide_eq_false_iff_not] at ht43
      have hx := hend.1 (by simpa using ht43)
      repeat refine J.seq ?_
      refine J.reg0 hmx (by kernel_rfl) (by kernel_rfl) ?_
      refine RT.t (ob_move rfl) ?_
      refine RT.t (ob_nilCheck rfl) ?_
      refine RT.t (ob_fieldAddr fo_value_reader_1 rfl) ?_
      refine RT.t (ob_ld1 sz_api_Errno rfl rfl) ?_
      refine RT.t (ob_assign rfl) ?_
      refine RT.t (ob_assign rfl) ?_
      refine RT.nil ?_
      refine FinS.nil0 ?_
      repeat (first | refine JX.next ?_ | refine JX.normal_block ?_)
      refine J.sel [2, 3] (.cons rfl (.cons rfl .nil)) ?_
      repeat refine J.seq ?_
      refine J.ret ?_
      repeat (first | refine JX.ret_pass ?_ | refine JX.ret_block ?_)
      exact JX.ret2sub rfl rfl rfl (by rw [hx]; exact Sub.slNilC) rfl (Sub.isEq (by rw [hx]))
    ·
      try simp only [decide_eq_true_eq, decide_eq_false_iff_not] at ht43
      refine J.skip ?_
      repeat (first | refine JX.next ?_ | refine JX.normal_block ?_)
      have hx := hend.2 (by simpa using ht43)
      refine J.freezeO v3_len hG (e := ty_api_Value) (by repeat (first | exact .here | apply Tl.past | apply Tl.there)) (fun _ h => h) rfl rfl ?_
      repeat refine J.seq ?_
      refine J.plain ?_
      refine JO.t (ob_move rfl) rfl ?_
      refine JO.t (ob_assign rfl) rfl ?_
      refine JO.t (ob_assign rfl) rfl ?_
      refine JO.nil ?_
      repeat (first | refine JX.next ?_ | refine JX.normal_block ?_)
      refine J.sel [2, 3] (.cons rfl (.cons rfl .nil)) ?_
      repeat refine J.seq ?_
      refine J.ret ?_
      repeat (first | refine JX.ret_pass ?_ | refine JX.ret_block ?_)
      exact JX.ret2sub rfl rfl rfl (by rw [hx]; exact Sub.slOC hG (by repeat (first | exact List.mem_cons_self | apply List.mem_cons_of_mem))) rfl (Sub.isEq (by rw [hx]))
end Go.Proofs.YtlccnpmhmdoapaaDoor
