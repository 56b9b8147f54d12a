/- one: one call on both; the answers. No condition. -/
import Derived.Test.YtggmifnkgcladaaXLA
import Derived.Test.YtggmifnkgcladaaXN5
import Derived.Test.YtggmifnkgcladaaXG6
set_option maxRecDepth 20000
namespace Go.Proofs.Ytggmifnkgcladaa
open Go Go.Vc
open Go.Si Go.Vl
def OneR (e : Int) (x : WrA) (v : Value) (w : World) : Prop := v = .tuple #[.int .i64 e, .int .i64 e] ∧ WrF [x] w
abbrev v9 : V3 := ⟨9, 0, ⟨#[]⟩⟩
def sO (sn : Option (Nat × List Value)) (cs : List Value) : Option (Nat × List Value) := match sn with | none => none | some p => some (p.1, cs)
theorem sO_val {sn : Option (Nat × List Value)} (h : sn = some (bO sn, cO sn)) (cs : List Value) : sO sn cs = some (bO sn, cs) := by rw [h]; rfl
theorem sO_some {sn : Option (Nat × List Value)} (h : sn = some (bO sn, cO sn)) (cs : List Value) : RW (sO sn cs) = [⟨bO sn, ty_api_Value, .is (.agg cs.toArray)⟩] := by rw [sO_val h]; rfl
theorem v3_oneA (x : V3) : (V3.cells x).all (·.oneCell') = true := rfl
theorem rvnil {p : RV} {w : World} (h : p.ok w) (hn : p.a = none) : p.row = [] := by
  by_cases h0 : p.len = 0
  · exact List.eq_nil_of_length_eq_zero (h.2.1.trans h0)
  · obtain ⟨b, o, e, _⟩ := h.2.2 h0
    rw [hn] at e; cases e
def rvS (xs : List V3) (st : Option (Nat × List Value)) (cap : Nat) : Value := .slice (adO st) (if st.isSome then xs.length else 0) (capO st cap)
theorem rvS_eq {xs : List V3} {st : Option (Nat × List Value)} {cap : Nat} (hG : Grows V3.cells 3 xs st cap) : rvS xs st cap = (rvG xs st cap).v := by
  cases st with
  | none =>
    have h : xs = [] := hG
    subst h; rfl
  | some p => rfl
theorem sO_eq (sn : Option (Nat × List Value)) : sO sn (cO sn) = sn := by cases sn <;> rfl
theorem wr_one {Φ : List (World → Prop)} {E : Nat → Prop} {w : World} {e : Int} {x : WrA} (hG : ∀ G ∈ Φ, Pers E w G) (h1 : WrR' e x (.int .i64 e) ∈ Φ) : Pers E w (WrF [x]) := fun w1 hk => (hG _ h1 w1 hk).2
theorem oneR_of {Φ : List (World → Prop)} {E : Nat → Prop} {w : World} {e : Int} {x : WrA} (hG : ∀ G ∈ Φ, Pers E w G) (h1 : WrF [x] ∈ Φ) : Pers E w (OneR e x (.tuple #[.int .i64 e, .int .i64 e])) := fun w1 hk => ⟨rfl, hG _ h1 w1 hk⟩
theorem oneR_0 {Φ : List (World → Prop)} {E : Nat → Prop} {w : World} {e : Int} (_hG : ∀ G ∈ Φ, Pers E w G) : Pers E w (OneR e wr0 (.tuple #[.int .i64 e, .int .i64 e])) := fun w1 _ => ⟨rfl, wr0_ok w1⟩
structure OneS (o : OpA) (vs : Value) (e nb : Int) (ZS : Type) (LS : List Own) (LSf : ZS → List Own) (ΦS : List (World → Prop)) (PS : ZS → WrA → Prop) : Prop where
  ob : AllOb LS
  obf : ∀ z, AllOb (LSf z)
  b : o.k = 1 → e = 0 ∧ CallL Try.prog f_p_ssi_Set_Begin LS ΦS [.is vs] (fun z => PS z wr0) LSf (fun _ => .is (.int .i64 nb))
  r : o.k = 2 → CallL Try.prog f_p_ssi_Set_Read LS ΦS [.is vs, .is (.int .i64 o.t), .is (rdA o.r)] (fun z => PS z wr0) LSf (fun _ => .is (.int .i64 e))
  w : o.k = 3 → ∀ so sn co cn, Grows V3.cells 3 o.w.o.row so co → Grows V3.cells 3 o.w.n.row sn cn → so.isSome = o.w.o.a.isSome → sn.isSome = o.w.n.a.isSome → CallL Try.prog f_p_ssi_Set_Write (LS ++ (RW so ++ RW sn)) ΦS [.is vs, .is (.int .i64 o.t), .is (wrV (wG o.w.t o.w.o.row o.w.n.row so sn co cn))] (fun z : ZS × WrA => PS z.1 z.2) (fun z => LSf z.1 ++ (RW so ++ RW sn)) (fun z => .rep (WrR' e z.2))
  c : o.k = 4 → CallL Try.prog f_p_ssi_Set_Commit LS ΦS [.is vs, .is (.int .i64 o.t)] (fun z => PS z wr0) LSf (fun _ => .is (.int .i64 e))
  a : o.k = 5 → CallL Try.prog f_p_ssi_Set_Abort LS ΦS [.is vs, .is (.int .i64 o.t)] (fun z => PS z wr0) LSf (fun _ => .is (.int .i64 e))
  n : o.k ≠ 1 → o.k ≠ 2 → o.k ≠ 3 → o.k ≠ 4 → o.k ≠ 5 → e = 0 ∧ ∃ z0, PS z0 wr0 ∧ LSf z0 = LS
structure OneT (o : OpA) (vr : Value) (e nb : Int) (ZR : Type) (LR : List Own) (LRf : ZR → List Own) (ΦR : List (World → Prop)) (PR : ZR → Prop) : Prop where
  ob : AllOb LR
  obf : ∀ z, AllOb (LRf z)
  b : o.k = 1 → CallL Try.prog f_p_ref20_Set_Begin LR ΦR [.is vr] PR LRf (fun _ => .is (.int .i64 nb))
  r : o.k = 2 → CallL Try.prog f_p_ref20_Set_Read LR ΦR [.is vr, .is (.int .i64 o.t), .is (rdA o.r)] PR LRf (fun _ => .is (.int .i64 e))
  w : o.k = 3 → CallL Try.prog f_p_ref20_Set_Write LR ΦR [.is vr, .is (.int .i64 o.t), .is (wrV o.w)] PR LRf (fun _ => .is (.int .i64 e))
  c : o.k = 4 → CallL Try.prog f_p_ref20_Set_Commit LR ΦR [.is vr, .is (.int .i64 o.t)] PR LRf (fun _ => .is (.int .i64 e))
  a : o.k = 5 → CallL Try.prog f_p_ref20_Set_Abort LR ΦR [.is vr, .is (.int .i64 o.t)] PR LRf (fun _ => .is (.int .i64 e))
  n : o.k ≠ 1 → o.k ≠ 2 → o.k ≠ 3 → o.k ≠ 4 → o.k ≠ 5 → ∃ z0, PR z0 ∧ LRf z0 = LR
theorem c_law20_one (o : OpA) (Us : List WrA) (hw : o.w ∈ Us) (hwo : o.w.o.row.length ≤ 1048576) (hwn : o.w.n.row.length ≤ 1048576) (vs vr : Value) (e nb : Int) (ZS ZR : Type) (LS LR : List Own) (LSf : ZS → List Own) (LRf : ZR → List Own) (ΦS ΦR : List (World → Prop)) (PS : ZS → WrA → Prop) (PR : ZR → Prop) (hS : OneS o vs e nb ZS LS LSf ΦS PS) (hT : OneT o vr e nb ZR LR LRf ΦR PR) : CallL Try.prog f_law20_one (LS ++ LR) (ΦS ++ (ΦR ++ [WrF Us])) [.is vs, .is vr, .is (.agg (OpA.cells o).toArray)] (fun z : (ZS × WrA) × ZR => PS z.1.1 z.1.2 ∧ PR z.2) (fun z => LSf z.1.1 ++ LRf z.2) (fun z => .rep (OneR e z.1.2)) :=
CallL.of (fn := Try.f11) Try.func11 (n := 104) rfl rfl rfl (fun _ _ => by kernel_rfl) fun E W hb0 => by
  repeat refine J.seq ?_
  refine J.plain ?_
  refine JO.box rfl rfl fun b5 => ?_
  refine JO.t (ob_assign rfl) rfl ?_
  refine JO.t (ob_assign rfl) rfl ?_
  refine JO.nil ?_
  repeat (first | refine JX.next ?_ | refine JX.normal_block ?_)
  refine J.sel [0, 1, 5] (.cons rfl (.cons rfl (.cons rfl .nil))) ?_
  repeat refine J.seq ?_
  refine J.plain ?_
  refine JO.t (ob_fieldAddr fo_cadastrelaw20_Op_0 rfl) rfl ?_
  refine JO.t (ob_ld1 sz_int rfl rfl) rfl ?_
  refine JO.nil ?_
  repeat (first | refine JX.next ?_ | refine JX.normal_block ?_)
  refine J.sel [0, 1, 5, 12] (.cons rfl (.cons rfl (.cons rfl (.cons rfl .nil)))) ?_
  repeat refine J.seq ?_
  refine J.block ?_
  repeat refine J.seq ?_
  refine J.plain ?_
  refine JO.t (ob_eql rfl rfl) rfl ?_
  refine JO.t (ob_assign rfl) rfl ?_
  refine JO.nil ?_
  repeat (first | refine JX.next ?_ | refine JX.normal_block ?_)
  refine J.sel [0, 1, 5, 12, 13] (.cons rfl (.cons rfl (.cons rfl (.cons rfl (.cons rfl .nil))))) ?_
  repeat refine J.seq ?_
  refine J.cond rfl (fun ht13 => ?_) (fun ht13 => ?_)
  ·
    try simp only [decide_eq_true_eq, decide_eq_false_iff_not] at ht13
    have hk : o.k = 1 := by simpa using ht13
    obtain ⟨he0, hSb⟩ := hS.b hk
    have hTb := hT.b hk
    subst he0
    repeat refine J.seq ?_
    refine J.plain ?_
    refine JO.t (ob_move rfl) rfl ?_
    refine JO.callK (Lr := (⟨b5, ty_cadastrelaw20_Op, .is (.agg (OpA.cells o).toArray)⟩ :: LR)) (hSb) rfl (List.perm_middle (l₁ := LS)).symm (fun F h => by repeat (first | exact List.mem_append_left _ h | apply List.mem_cons_of_mem)) (.one rfl .nil) ?_
    intro zs hzs
    try dsimp only
    refine JO.t (ob_move rfl) rfl ?_
    refine JO.callK (Lr := (LSf zs ++ [⟨b5, ty_cadastrelaw20_Op, .is (.agg (OpA.cells o).toArray)⟩])) (hTb) rfl (pm_r _ [⟨b5, ty_cadastrelaw20_Op, .is (.agg (OpA.cells o).toArray)⟩] _) (fun F h => by repeat (first | exact List.mem_append_right _ (List.mem_append_left _ h) | apply List.mem_cons_of_mem)) (.one rfl .nil) ?_
    intro zr hzr
    try dsimp only
    refine JO.t (ob_neq rfl rfl) rfl ?_
    refine JO.nil ?_
    repeat (first | refine JX.next ?_ | refine JX.normal_block ?_)
    refine J.sel [19] (.cons rfl .nil) ?_
    repeat refine J.seq ?_
    refine J.cond rfl (fun ht19 => ?_) (fun ht19 => ?_)
    ·
      try simp only [decide_eq_true_eq, decide_eq_false_iff_not] at ht19
      exfalso
      simp at ht19
    ·
      try simp only [decide_eq_true_eq, decide_eq_false_iff_not] at ht19
      refine J.skip ?_
      repeat (first | refine JX.next ?_ | refine JX.normal_block ?_)
      repeat refine J.seq ?_
      refine J.plain ?_
      refine JO.t (ob_assign rfl) rfl ?_
      refine JO.t (ob_assign rfl) rfl ?_
      refine JO.nil ?_
      repeat (first | refine JX.next ?_ | refine JX.normal_block ?_)
      refine J.sel [6, 7] (.cons rfl (.cons rfl .nil)) ?_
      repeat refine J.seq ?_
      refine J.ret ?_
      repeat (first | refine JX.ret_pass ?_ | refine JX.ret_block ?_)
      exact JX.retL2R (Lr := [⟨b5, ty_cadastrelaw20_Op, .is (.agg (OpA.cells o).toArray)⟩]) (L1 := fun z : (ZS × WrA) × ZR => LSf z.1.1 ++ LRf z.2) (R := fun z => .rep (OneR 0 z.1.2)) rfl ((zs, wr0), zr) ⟨hzs, hzr⟩ (by have := pm_e (LSf zs) [] [⟨b5, ty_cadastrelaw20_Op, .is (.agg (OpA.cells o).toArray)⟩] (LRf zr); simpa using this) (ob_out (app_ob (hS.obf _) (hT.obf _))) hb0 rfl rfl rfl (fun _ _ hG => oneR_0 hG)
  ·
    try simp only [decide_eq_true_eq, decide_eq_false_iff_not] at ht13
    repeat refine J.seq ?_
    refine J.plain ?_
    refine JO.t (ob_eql rfl rfl) rfl ?_
    refine JO.t (ob_assign rfl) rfl ?_
    refine JO.nil ?_
    repeat (first | refine JX.next ?_ | refine JX.normal_block ?_)
    refine J.sel [0, 1, 5, 12, 20] (.cons rfl (.cons rfl (.cons rfl (.cons rfl (.cons rfl .nil))))) ?_
    repeat refine J.seq ?_
    refine J.cond rfl (fun ht20 => ?_) (fun ht20 => ?_)
    ·
      try simp only [decide_eq_true_eq, decide_eq_false_iff_not] at ht20
      have hk : o.k = 2 := by simpa using ht20
      have hSr := hS.r hk
      have hTr := hT.r hk
      repeat refine J.seq ?_
      refine J.regBm (G := { z : ZS // PS z wr0 }) (Tg := fun _ => .is (.int .i64 e)) (Lg := fun g => LSf g.1 ++ (⟨b5, ty_cadastrelaw20_Op, .is (.agg (OpA.cells o).toArray)⟩ :: LR)) 5 11 [⟨b5, ty_cadastrelaw20_Op, .is (.agg (OpA.cells o).toArray)⟩] rfl rfl rfl rfl hmx (by kernel_rfl) rfl (by kernel_rfl) (fun o1 ho => by rw [List.mem_singleton.1 ho]; exact List.mem_cons_self) (fun g o1 ho => by rw [List.mem_singleton.1 ho]; exact List.mem_append_right _ List.mem_cons_self) ?_
      refine RT.t (ob_move rfl) ?_
      refine RT.t (ob_fieldAddr fo_cadastrelaw20_Op_1 rfl) ?_
      refine RT.t (ob_ld1 sz_int rfl rfl) ?_
      refine RT.t (ob_fieldAddr fo_cadastrelaw20_Op_2 rfl) ?_
      refine RT.t (ob_ldN (cs := [_, _, _, _, _, _, _, _]) sz_api_Read rfl rfl rfl) ?_
      refine RT.big (big_callL (Lr := (⟨b5, ty_cadastrelaw20_Op, .is (.agg (OpA.cells o).toArray)⟩ :: LR)) rfl (hSr) (List.perm_middle (l₁ := LS)).symm (fun F h => by repeat (first | exact List.mem_append_left _ h | apply List.mem_cons_of_mem)) (.one rfl (.one rfl (.one rfl .nil)))) ?_
      refine RT.t (ob_move rfl) ?_
      refine RT.t (ob_fieldAddr fo_cadastrelaw20_Op_1 rfl) ?_
      refine RT.t (ob_ld1 sz_int rfl rfl) ?_
      refine RT.t (ob_fieldAddr fo_cadastrelaw20_Op_2 rfl) ?_
      refine RT.t (ob_ldN (cs := [_, _, _, _, _, _, _, _]) sz_api_Read rfl rfl rfl) ?_
      refine RT.nil ?_
      rintro ⟨zs, hzs⟩
      try dsimp only
      refine JO.callK (Lr := (LSf zs ++ [⟨b5, ty_cadastrelaw20_Op, .is (.agg (OpA.cells o).toArray)⟩])) (hTr) rfl (pm_r _ [⟨b5, ty_cadastrelaw20_Op, .is (.agg (OpA.cells o).toArray)⟩] _) (fun F h => by repeat (first | exact List.mem_append_right _ (List.mem_append_left _ h) | apply List.mem_cons_of_mem)) (.one rfl (.one rfl (.one rfl .nil))) ?_
      intro zr hzr
      try dsimp only
      refine JO.t (ob_assign rfl) rfl ?_
      refine JO.t (ob_assign rfl) rfl ?_
      refine JO.nil ?_
      repeat (first | refine JX.next ?_ | refine JX.normal_block ?_)
      refine J.sel [6, 7] (.cons rfl (.cons rfl .nil)) ?_
      repeat refine J.seq ?_
      refine J.ret ?_
      repeat (first | refine JX.ret_pass ?_ | refine JX.ret_block ?_)
      exact JX.retL2R (Lr := [⟨b5, ty_cadastrelaw20_Op, .is (.agg (OpA.cells o).toArray)⟩]) (L1 := fun z : (ZS × WrA) × ZR => LSf z.1.1 ++ LRf z.2) (R := fun z => .rep (OneR e z.1.2)) rfl ((zs, wr0), zr) ⟨hzs, hzr⟩ (by have := pm_e (LSf zs) [] [⟨b5, ty_cadastrelaw20_Op, .is (.agg (OpA.cells o).toArray)⟩] (LRf zr); simpa using this) (ob_out (app_ob (hS.obf _) (hT.obf _))) hb0 rfl rfl rfl (fun _ _ hG => oneR_0 hG)
    ·
      try simp only [decide_eq_true_eq, decide_eq_false_iff_not] at ht20
      repeat refine J.seq ?_
      refine J.plain ?_
      refine JO.t (ob_eql rfl rfl) rfl ?_
      refine JO.t (ob_assign rfl) rfl ?_
      refine JO.nil ?_
      repeat (first | refine JX.next ?_ | refine JX.normal_block ?_)
      refine J.sel [0, 1, 5, 12, 34] (.cons rfl (.cons rfl (.cons rfl (.cons rfl (.cons rfl .nil))))) ?_
      repeat refine J.seq ?_
      refine J.cond rfl (fun ht34 => ?_) (fun ht34 => ?_)
      ·
        try simp only [decide_eq_true_eq, decide_eq_false_iff_not] at ht34
        have hk : o.k = 3 := by simpa using ht34
        have hSw := hS.w hk
        have hTw := hT.w hk
        refine J.know ((o.w.o.row.length = o.w.o.len ∧ (o.w.o.a = none → o.w.o.row = [])) ∧ (o.w.n.row.length = o.w.n.len ∧ (o.w.n.a = none → o.w.n.row = []))) (fun E0 w0 hG _ => by
          have h := (hG (WrF Us) (by repeat (first | exact List.mem_append_right _ (List.mem_append_right _ (List.mem_singleton_self _)) | apply List.mem_cons_of_mem)) w0 (.refl _ _)) o.w hw
          exact ⟨⟨h.1.2.1, fun hn => rvnil h.1 hn⟩, ⟨h.2.2.1, fun hn => rvnil h.2 hn⟩⟩) (fun hkn => ?_)
        obtain ⟨⟨hol, hon⟩, hnl, hnn⟩ := hkn
        refine J.fact (RowG V3.cells 3 o.w.o.row o.w.o.a o.w.o.len) (fun E0 w0 hG _ w1 hk1 => ((hG (WrF Us) (by repeat (first | exact List.mem_append_right _ (List.mem_append_right _ (List.mem_singleton_self _)) | apply List.mem_cons_of_mem)) w1 hk1) o.w hw).1.2) ?_
        refine J.fact (RowG V3.cells 3 o.w.n.row o.w.n.a o.w.n.len) (fun E0 w0 hG _ w1 hk1 => ((hG (WrF Us) (by repeat (first | exact List.mem_append_right _ (List.mem_append_right _ (List.mem_singleton_self _)) | apply List.mem_cons_of_mem)) w1 hk1) o.w hw).2.2) ?_
        repeat refine J.seq ?_
        refine J.plain ?_
        refine JO.t (ob_fieldAddr fo_cadastrelaw20_Op_3 rfl) rfl ?_
        refine JO.t (ob_fieldAddr fo_api_Write_0 rfl) rfl ?_
        refine JO.t (ob_ld1 sz_string rfl rfl) rfl ?_
        refine JO.t (ob_build (cs := [_, _, _]) sh_api_Write (.cons rfl .nil) rfl rfl) rfl ?_
        refine JO.alloc zo_api_Write rfl fun b8 => ?_
        refine JO.m (obm_store rfl rfl (by repeat (first | exact .here | apply Upd.there)) (by first | exact cnt_is rfl rfl | exact cnt_ex) (by first | exact cnt_is rfl rfl | exact cnt_ex | exact cnt_aggO) ss_api_Write) (by rfl) ?_
        refine JO.nil ?_
        repeat (first | refine JX.next ?_ | refine JX.normal_block ?_)
        refine J.sel [0, 1, 5, 8] (.cons rfl (.cons rfl (.cons rfl (.cons rfl .nil)))) ?_
        repeat refine J.seq ?_
        refine J.plain ?_
        refine JO.t (ob_fieldAddr fo_cadastrelaw20_Op_3 rfl) rfl ?_
        refine JO.t (ob_fieldAddr fo_api_Write_1 rfl) rfl ?_
        refine JO.t (ob_ld1 sz_sl_api_Value rfl rfl) rfl ?_
        refine JO.t (ob_nnilS un_sl_api_Value rfl rfl) rfl ?_
        refine JO.nil ?_
        repeat (first | refine JX.next ?_ | refine JX.normal_block ?_)
        refine J.sel [0, 1, 5, 8, 43] (.cons rfl (.cons rfl (.cons rfl (.cons rfl (.cons rfl .nil))))) ?_
        repeat refine J.seq ?_
        refine J.cutZN (fun z : Option (Nat × List Value) × Nat => [(0, .is vs), (1, .is vr), (5, .is (.pointer (some ⟨b5, 0, none⟩))), (8, .is (.pointer (some ⟨b8, 0, none⟩)))]) (fun z : Option (Nat × List Value) × Nat => ownO z.1 ty_api_Value (⟨b8, ty_api_Write, .is (.agg #[.string o.w.t, rvS o.w.o.row z.1 z.2, (.slice none 0 0)])⟩ :: ⟨b5, ty_cadastrelaw20_Op, .is (.agg (OpA.cells o).toArray)⟩ :: (LS ++ LR))) (fun z : Option (Nat × List Value) × Nat => Grows V3.cells 3 o.w.o.row z.1 z.2 ∧ z.1.isSome = o.w.o.a.isSome) ?_ ?_
        · refine J.cond rfl (fun ht43 => ?_) (fun ht43 => ?_)
          ·
            try simp only [decide_eq_true_eq, decide_eq_false_iff_not] at ht43
            repeat refine J.seq ?_
            refine J.plain ?_
            refine JO.buildOwn0 sl_sl_api_Value rfl (fun b44 => ?_)
            refine JO.t (ob_fieldAddr fo_cadastrelaw20_Op_3 rfl) rfl ?_
            refine JO.t (ob_fieldAddr fo_api_Write_1 rfl) rfl ?_
            refine JO.t (ob_ld1 sz_sl_api_Value rfl rfl) rfl ?_
            refine JO.apSL (o.w.o.row) ap_sl_api_Value .here (xs := []) (en := V3.cells) ⟨rfl, Nat.le_refl _, rfl⟩ rfl rfl (src_slF (a := o.w.o.a) (len := o.w.o.len) v3_len (by decide) v3_one un_sl_api_Value (by repeat (first | exact List.mem_cons_self | apply List.mem_cons_of_mem))) (by simp; omega) (by simp; omega) rfl (fun p1 cp1 hG1 => ?_)
            try dsimp only
            rw [List.nil_append] at hG1 ⊢
            refine JO.t (ob_fieldAddr fo_api_Write_1 rfl) rfl ?_
            refine JO.m (obm_storeF1 (cs' := [.string o.w.t, rvS o.w.o.row (some p1) cp1, .slice none 0 0]) (sliceO_cells _ _ _) (sliceO_one _ _ _) rfl rfl (upd_ownO .here) rfl rfl ss_sl_api_Value) (Upd.same (upd_ownO .here) rfl) ?_
            refine JO.nil ?_
            have hsm : (some p1).isSome = o.w.o.a.isSome := by cases ha : o.w.o.a with
              | none => rw [ha] at ht43; cases ht43
              | some _ => rfl
            refine JX.midZ ((some p1, cp1)) ?_ [0, 1, 5, 8] ?_ ?_ ?_
            · exact ⟨hG1, hsm⟩
            · exact (.cons rfl (.cons rfl (.cons rfl (.cons rfl .nil))))
            · repeat (first | exact .all | exact .nil | refine Has.own (by repeat (first | exact .here | apply Tl.past | apply Tl.there)) ?_ | refine Has.cons (by repeat (first | exact .here | apply Pk.past | apply Pk.there)) ?_)
            · exact fun G hG => by repeat (first | exact hG | refine List.mem_cons_of_mem _ ?_)
          ·
            try simp only [decide_eq_true_eq, decide_eq_false_iff_not] at ht43
            refine J.skip ?_
            have ha0 : o.w.o.a = none := by cases ha : o.w.o.a with
              | none => rfl
              | some _ => rw [ha] at ht43; cases ht43
            have hnone := hon ha0
            have hsm : (none : Option (Nat × List Value)).isSome = o.w.o.a.isSome := by rw [ha0]; rfl
            refine JX.midZ ((none, 0)) ?_ [0, 1, 5, 8] ?_ ?_ ?_
            · exact ⟨hnone, hsm⟩
            · exact (.cons rfl (.cons rfl (.cons rfl (.cons rfl .nil))))
            · repeat (first | exact .all | exact .nil | refine Has.own (by repeat (first | exact .here | apply Tl.past | apply Tl.there)) ?_ | refine Has.cons (by repeat (first | exact .here | apply Pk.past | apply Pk.there)) ?_)
            · exact fun G hG => by repeat (first | exact hG | refine List.mem_cons_of_mem _ ?_)
        · intro ⟨so, co⟩ ⟨hGo, hso⟩
          try dsimp only
          repeat refine J.seq ?_
          refine J.plain ?_
          refine JO.t (ob_fieldAddr fo_cadastrelaw20_Op_3 rfl) rfl ?_
          refine JO.t (ob_fieldAddr fo_api_Write_2 rfl) rfl ?_
          refine JO.t (ob_ld1 sz_sl_api_Value rfl (hm := ⟨Vc.mem_ownO (List.mem_cons_of_mem _ List.mem_cons_self)⟩) rfl) rfl ?_
          refine JO.t (ob_nnilS un_sl_api_Value rfl rfl) rfl ?_
          refine JO.nil ?_
          repeat (first | refine JX.next ?_ | refine JX.normal_block ?_)
          refine J.sel [0, 1, 5, 8, 53] (.cons rfl (.cons rfl (.cons rfl (.cons rfl (.cons rfl .nil))))) ?_
          repeat refine J.seq ?_
          refine J.cutZN (fun z : Option (Nat × List Value) × Nat => [(0, .is vs), (1, .is vr), (5, .is (.pointer (some ⟨b5, 0, none⟩))), (8, .is (.pointer (some ⟨b8, 0, none⟩)))]) (fun z : Option (Nat × List Value) × Nat => ownO z.1 ty_api_Value (ownO so ty_api_Value (⟨b8, ty_api_Write, .is (.agg #[.string o.w.t, rvS o.w.o.row so co, rvS o.w.n.row z.1 z.2])⟩ :: ⟨b5, ty_cadastrelaw20_Op, .is (.agg (OpA.cells o).toArray)⟩ :: (LS ++ LR)))) (fun z : Option (Nat × List Value) × Nat => Grows V3.cells 3 o.w.n.row z.1 z.2 ∧ z.1.isSome = o.w.n.a.isSome) ?_ ?_
          · refine J.cond rfl (fun ht53 => ?_) (fun ht53 => ?_)
            ·
              try simp only [decide_eq_true_eq, decide_eq_false_iff_not] at ht53
              repeat refine J.seq ?_
              refine J.plain ?_
              refine JO.buildOwn0 sl_sl_api_Value rfl (fun b54 => ?_)
              refine JO.t (ob_fieldAddr fo_cadastrelaw20_Op_3 rfl) rfl ?_
              refine JO.t (ob_fieldAddr fo_api_Write_2 rfl) rfl ?_
              refine JO.t (ob_ld1 sz_sl_api_Value rfl (hm := ⟨List.mem_cons_of_mem _ (Vc.mem_ownO (List.mem_cons_of_mem _ List.mem_cons_self))⟩) rfl) rfl ?_
              refine JO.apSL (o.w.n.row) ap_sl_api_Value .here (xs := []) (en := V3.cells) ⟨rfl, Nat.le_refl _, rfl⟩ rfl rfl (src_slF (a := o.w.n.a) (len := o.w.n.len) v3_len (by decide) v3_one un_sl_api_Value (by repeat (first | exact List.mem_cons_self | apply List.mem_cons_of_mem))) (by simp; omega) (by simp; omega) rfl (fun p1 cp1 hG1 => ?_)
              try dsimp only
              rw [List.nil_append] at hG1 ⊢
              refine JO.t (ob_fieldAddr fo_api_Write_2 rfl) rfl ?_
              refine JO.m (obm_storeF1 (cs' := [.string o.w.t, rvS o.w.o.row so co, rvS o.w.n.row (some p1) cp1]) (sliceO_cells _ _ _) (sliceO_one _ _ _) rfl rfl (upd_ownO (upd_ownO .here)) rfl rfl ss_sl_api_Value) (Upd.same (upd_ownO (upd_ownO .here)) rfl) ?_
              refine JO.nil ?_
              have hsm : (some p1).isSome = o.w.n.a.isSome := by cases ha : o.w.n.a with
                | none => rw [ha] at ht53; cases ht53
                | some _ => rfl
              refine JX.midZ ((some p1, cp1)) ?_ [0, 1, 5, 8] ?_ ?_ ?_
              · exact ⟨hG1, hsm⟩
              · exact (.cons rfl (.cons rfl (.cons rfl (.cons rfl .nil))))
              · repeat (first | exact .all | exact .nil | refine Has.own (by repeat (first | exact .here | apply Tl.past | apply Tl.there)) ?_ | refine Has.cons (by repeat (first | exact .here | apply Pk.past | apply Pk.there)) ?_)
              · exact fun G hG => by repeat (first | exact hG | refine List.mem_cons_of_mem _ ?_)
            ·
              try simp only [decide_eq_true_eq, decide_eq_false_iff_not] at ht53
              refine J.skip ?_
              have ha0 : o.w.n.a = none := by cases ha : o.w.n.a with
                | none => rfl
                | some _ => rw [ha] at ht53; cases ht53
              have hnone := hnn ha0
              have hsm : (none : Option (Nat × List Value)).isSome = o.w.n.a.isSome := by rw [ha0]; rfl
              refine JX.midZ ((none, 0)) ?_ [0, 1, 5, 8] ?_ ?_ ?_
              · exact ⟨hnone, hsm⟩
              · exact (.cons rfl (.cons rfl (.cons rfl (.cons rfl .nil))))
              · repeat (first | exact .all | exact .nil | refine Has.own (by repeat (first | exact .here | apply Tl.past | apply Tl.there)) ?_ | refine Has.cons (by repeat (first | exact .here | apply Pk.past | apply Pk.there)) ?_)
              · exact fun G hG => by repeat (first | exact hG | refine List.mem_cons_of_mem _ ?_)
          · intro ⟨sn, cn⟩ ⟨hGn, hsn⟩
            try dsimp only
            dsimp only at hGo hso hGn hsn
            rw [rvS_eq hGo, rvS_eq hGn]
            repeat refine J.seq ?_
            refine J.plain ?_
            refine JO.t (ob_move rfl) rfl ?_
            refine JO.t (ob_fieldAddr fo_cadastrelaw20_Op_1 rfl) rfl ?_
            refine JO.t (ob_ld1 sz_int rfl (hm := ⟨Vc.mem_ownO (Vc.mem_ownO (List.mem_cons_of_mem _ List.mem_cons_self))⟩) rfl) rfl ?_
            refine JO.t (ob_ldN (cs := [_, _, _]) sz_api_Write rfl (hm := ⟨Vc.mem_ownO (Vc.mem_ownO List.mem_cons_self)⟩) rfl rfl) rfl ?_
            refine JO.callK (Lr := (⟨b8, ty_api_Write, .is (.agg #[.string o.w.t, (rvG o.w.o.row so co).v, (rvG o.w.n.row sn cn).v])⟩ :: ⟨b5, ty_cadastrelaw20_Op, .is (.agg (OpA.cells o).toArray)⟩ :: LR)) (hSw so sn co cn hGo hGn hso hsn) rfl (by rw [ownO_split sn, ownO_split so]; exact pm_w (RW sn) (RW so) [⟨b8, ty_api_Write, .is (.agg #[.string o.w.t, (rvG o.w.o.row so co).v, (rvG o.w.n.row sn cn).v])⟩, ⟨b5, ty_cadastrelaw20_Op, .is (.agg (OpA.cells o).toArray)⟩] LS LR) (fun F h => by repeat (first | exact List.mem_append_left _ h | apply List.mem_cons_of_mem)) (.one rfl (.one rfl (.one rfl .nil))) ?_
            rintro ⟨zs, x⟩ hzs
            try dsimp only
            refine JO.open_ (s := 64) (R := WrR' e x) rfl ?_
            rintro _ ⟨_, rfl, _⟩
            refine JO.fact (WrF [x]) (fun E0 w0 hG _ => wr_one hG List.mem_cons_self) ?_
            refine JO.t (ob_assign rfl) rfl ?_
            refine JO.nil ?_
            repeat (first | refine JX.next ?_ | refine JX.normal_block ?_)
            refine J.sel [1, 5, 8, 9] (.cons rfl (.cons rfl (.cons rfl (.cons rfl .nil)))) ?_
            repeat refine J.seq ?_
            refine J.plain ?_
            refine JO.t (ob_assign rfl) rfl ?_
            refine JO.nil ?_
            repeat (first | refine JX.next ?_ | refine JX.normal_block ?_)
            refine J.sel [1, 5, 8, 9, 10] (.cons rfl (.cons rfl (.cons rfl (.cons rfl (.cons rfl .nil))))) ?_
            repeat refine J.seq ?_
            refine J.block ?_
            repeat refine J.seq ?_
            refine J.subS (L' := (LSf zs ++ (RW so ++ RW (sO sn (cO sn)))) ++ (⟨b8, ty_api_Write, .is (.agg #[.string o.w.t, (rvG o.w.o.row so co).v, (rvG o.w.n.row sn cn).v])⟩ :: ⟨b5, ty_cadastrelaw20_Op, .is (.agg (OpA.cells o).toArray)⟩ :: LR)) (by rw [sO_eq]; first | done | exact .refl _) ?_
            refine J.loopG (α := Nat × List Value × List V3) (fun s => [(1, _), (5, _), (8, _), (9, .is (.int .i64 e)), (10, .is (.int .i64 (s.1 : Nat)))]) (fun s => (LSf zs ++ (RW so ++ RW (sO sn s.2.1))) ++ (⟨b8, ty_api_Write, .is (.agg #[.string o.w.t, (rvG o.w.o.row so co).v, (rvG o.w.n.row sn cn).v])⟩ :: ⟨b5, ty_cadastrelaw20_Op, .is (.agg (OpA.cells o).toArray)⟩ :: LR)) (fun s => fun _ => True) (fun s => s.1 ≤ o.w.n.row.length ∧ Grows V3.cells 3 s.2.2 (sO sn s.2.1) cn ∧ s.2.2.length = o.w.n.row.length) (fun s => o.w.n.row.length - s.1) (0, cO sn, o.w.n.row) [1, 5, 8, 9, 10] (.cons rfl (.cons rfl (.cons rfl (.cons rfl (.cons rfl .nil))))) rfl (fun _ => trivial) ⟨Nat.zero_le _, by rw [sO_eq]; exact hGn, rfl⟩ fun ⟨j, cs, xs⟩ ⟨hj, hGx, hxl⟩ => ?_
            try dsimp only
            try dsimp only at cs
            try dsimp only at xs
            try dsimp only at hj
            try dsimp only at hGx
            try dsimp only at hxl
            repeat refine J.seq ?_
            refine J.plain ?_
            refine JO.t (ob_move rfl) rfl ?_
            refine JO.t (ob_fieldAddr fo_api_Write_2 rfl) rfl ?_
            refine JO.t (ob_ld1 sz_sl_api_Value rfl (hm := ⟨List.mem_append_right _ List.mem_cons_self⟩) rfl) rfl ?_
            refine JO.t (ob_len un_sl_api_Value rfl) rfl ?_
            refine JO.t (ob_lss rfl rfl) rfl ?_
            refine JO.nil ?_
            repeat (first | refine JX.next ?_ | refine JX.normal_block ?_)
            refine J.sel [1, 5, 8, 9, 10, 69] (.cons rfl (.cons rfl (.cons rfl (.cons rfl (.cons rfl (.cons rfl .nil)))))) ?_
            repeat refine J.seq ?_
            refine J.cond rfl (fun ht69 => ?_) (fun ht69 => ?_)
            ·
              try simp only [decide_eq_true_eq, decide_eq_false_iff_not] at ht69
              refine J.skip ?_
              repeat (first | refine JX.next ?_ | refine JX.normal_block ?_)
              repeat refine J.seq ?_
              refine J.block ?_
              have hlt0 : (j : Int) < (o.w.n.row.length : Nat) := ht69
              have hlt : j < o.w.n.row.length := by omega
              have hsn1 := st_some hGn (by omega)
              have had : adO sn = some ⟨bO sn, 0, none⟩ := by rw [hsn1]; rfl
              have hGy : Grows V3.cells 3 xs (some (bO sn, cs)) cn := by rw [← sO_val hsn1]; exact hGx
              repeat refine J.seq ?_
              refine J.plain ?_
              refine JO.t (ob_fieldAddr fo_api_Write_2 rfl) rfl ?_
              refine JO.t (ob_ld1 sz_sl_api_Value rfl (hm := ⟨List.mem_append_right _ List.mem_cons_self⟩) rfl) rfl ?_
              refine JO.t (ob_move rfl) rfl ?_
              refine JO.t (ob_build (cs := [_, _, _]) sh_api_Value (.cons rfl .nil) rfl rfl) rfl ?_
              refine JO.t (ob_indexAddr el_sl_api_Value rfl had rfl (by omega) (by omega)) rfl ?_
              refine JO.subL (L' := (LSf zs ++ (RW so ++ [⟨bO sn, ty_api_Value, .is (.agg cs.toArray)⟩])) ++ (⟨b8, ty_api_Write, .is (.agg #[.string o.w.t, (rvG o.w.o.row so co).v, (rvG o.w.n.row sn cn).v])⟩ :: ⟨b5, ty_cadastrelaw20_Op, .is (.agg (OpA.cells o).toArray)⟩ :: LR)) (.of_eq (by rw [sO_some hsn1])) ?_
              refine JO.m (obm_storeGr (en := V3.cells) (xs := xs) (cap := cn) (v := v9) (i := j) v3_len v3_oneA ss_api_Value rfl rfl hGy (by omega) (by omega) (upd_appL (upd_appR (upd_appR .here)))) (Upd.same (upd_appL (upd_appR (upd_appR .here))) rfl) ?_
              refine JO.nil ?_
              repeat (first | refine JX.next ?_ | refine JX.normal_block ?_)
              refine J.sel [1, 5, 8, 9, 10] (.cons rfl (.cons rfl (.cons rfl (.cons rfl (.cons rfl .nil))))) ?_
              refine J.subS (L' := (LSf zs ++ (RW so ++ RW (sO sn (splice cs (j * 3) (V3.cells v9))))) ++ (⟨b8, ty_api_Write, .is (.agg #[.string o.w.t, (rvG o.w.o.row so co).v, (rvG o.w.n.row sn cn).v])⟩ :: ⟨b5, ty_cadastrelaw20_Op, .is (.agg (OpA.cells o).toArray)⟩ :: LR)) (by rw [sO_some hsn1]; first | done | exact .refl _) ?_
              repeat refine J.seq ?_
              refine J.plain ?_
              refine JO.t (ob_move rfl) rfl ?_
              refine JO.t (ob_addc (cc := ((j + 1 : Nat) : Int)) rfl rfl (by omega) (by omega) (by omega)) rfl ?_
              refine JO.t (ob_assign rfl) rfl ?_
              refine JO.nil ?_
              repeat refine JX.normal_block ?_
              refine JX.roundG (x := (j, cs, xs)) (j + 1, splice cs (j * 3) (V3.cells v9), xs.set j v9) ?_ ?_ [1, 5, 8, 9, 10] ?_ ?_ ?_ ?_
              · exact ⟨by simp only; omega, by rw [sO_val hsn1]; exact grows_set v3_len hGy (by omega) v9, by rw [List.length_set]; exact hxl⟩
              · exact (by simp only; omega)
              · exact (.cons rfl (.cons rfl (.cons rfl (.cons rfl (.cons rfl .nil)))))
              · repeat (first | exact .all | exact .nil | refine Has.own (by repeat (first | exact .here | apply Tl.past | apply Tl.there)) ?_ | refine Has.cons (by repeat (first | exact .here | apply Pk.past | apply Pk.there)) ?_)
              · exact fun G hG => by repeat (first | exact hG | refine List.mem_cons_of_mem _ ?_)
              · exact fun _ _ _ => fun _ _ => trivial
            ·
              try simp only [decide_eq_true_eq, decide_eq_false_iff_not] at ht69
              repeat refine J.seq ?_
              refine J.exit ?_
              repeat (first | refine JX.hit ?_ | refine JX.miss rfl ?_ | refine JX.exit_pass ?_)
              repeat (first | refine JX.next ?_ | refine JX.normal_block ?_)
              repeat refine J.seq ?_
              refine J.plain ?_
              refine JO.t (ob_move rfl) rfl ?_
              refine JO.t (ob_move rfl) rfl ?_
              refine JO.t (ob_fieldAddr fo_cadastrelaw20_Op_1 rfl) rfl ?_
              refine JO.t (ob_ld1 sz_int rfl (hm := ⟨List.mem_append_right _ (List.mem_cons_of_mem _ List.mem_cons_self)⟩) rfl) rfl ?_
              refine JO.t (ob_fieldAddr fo_cadastrelaw20_Op_3 rfl) rfl ?_
              refine JO.t (ob_ldN (cs := [_, _, _]) sz_api_Write rfl (hm := ⟨List.mem_append_right _ (List.mem_cons_of_mem _ List.mem_cons_self)⟩) rfl rfl) rfl ?_
              refine JO.callK (Lr := ((LSf zs ++ (RW so ++ RW (sO sn cs))) ++ [⟨b8, ty_api_Write, .is (.agg #[.string o.w.t, (rvG o.w.o.row so co).v, (rvG o.w.n.row sn cn).v])⟩, ⟨b5, ty_cadastrelaw20_Op, .is (.agg (OpA.cells o).toArray)⟩])) (hTw) rfl (pm_r _ [⟨b8, ty_api_Write, .is (.agg #[.string o.w.t, (rvG o.w.o.row so co).v, (rvG o.w.n.row sn cn).v])⟩, ⟨b5, ty_cadastrelaw20_Op, .is (.agg (OpA.cells o).toArray)⟩] _) (fun F h => by repeat (first | exact List.mem_append_right _ (List.mem_append_left _ h) | apply List.mem_cons_of_mem)) (.one rfl (.one rfl (.one rfl .nil))) ?_
              intro zr hzr
              try dsimp only
              refine JO.t (ob_assign rfl) rfl ?_
              refine JO.t (ob_assign rfl) rfl ?_
              refine JO.nil ?_
              repeat (first | refine JX.next ?_ | refine JX.normal_block ?_)
              refine J.sel [6, 7] (.cons rfl (.cons rfl .nil)) ?_
              repeat refine J.seq ?_
              refine J.ret ?_
              repeat (first | refine JX.ret_pass ?_ | refine JX.ret_block ?_)
              exact JX.retL2R (Lr := ((RW so ++ RW (sO sn cs)) ++ [⟨b8, ty_api_Write, .is (.agg #[.string o.w.t, (rvG o.w.o.row so co).v, (rvG o.w.n.row sn cn).v])⟩, ⟨b5, ty_cadastrelaw20_Op, .is (.agg (OpA.cells o).toArray)⟩])) (L1 := fun z : (ZS × WrA) × ZR => LSf z.1.1 ++ LRf z.2) (R := fun z => .rep (OneR e z.1.2)) rfl ((zs, x), zr) ⟨hzs, hzr⟩ (pm_e (LSf zs) (RW so ++ RW (sO sn cs)) [⟨b8, ty_api_Write, .is (.agg #[.string o.w.t, (rvG o.w.o.row so co).v, (rvG o.w.n.row sn cn).v])⟩, ⟨b5, ty_cadastrelaw20_Op, .is (.agg (OpA.cells o).toArray)⟩] (LRf zr)) (ob_out (app_ob (hS.obf _) (hT.obf _))) hb0 rfl rfl rfl (fun _ _ hG => oneR_of hG (by repeat (first | exact List.mem_cons_self | apply List.mem_cons_of_mem)))
      ·
        try simp only [decide_eq_true_eq, decide_eq_false_iff_not] at ht34
        repeat refine J.seq ?_
        refine J.plain ?_
        refine JO.t (ob_eql rfl rfl) rfl ?_
        refine JO.t (ob_assign rfl) rfl ?_
        refine JO.nil ?_
        repeat (first | refine JX.next ?_ | refine JX.normal_block ?_)
        refine J.sel [0, 1, 5, 12, 84] (.cons rfl (.cons rfl (.cons rfl (.cons rfl (.cons rfl .nil))))) ?_
        repeat refine J.seq ?_
        refine J.cond rfl (fun ht84 => ?_) (fun ht84 => ?_)
        ·
          try simp only [decide_eq_true_eq, decide_eq_false_iff_not] at ht84
          have hk : o.k = 4 := by simpa using ht84
          have hSc := hS.c hk
          have hTc := hT.c hk
          repeat refine J.seq ?_
          refine J.regBm (G := { z : ZS // PS z wr0 }) (Tg := fun _ => .is (.int .i64 e)) (Lg := fun g => LSf g.1 ++ (⟨b5, ty_cadastrelaw20_Op, .is (.agg (OpA.cells o).toArray)⟩ :: LR)) 3 7 [⟨b5, ty_cadastrelaw20_Op, .is (.agg (OpA.cells o).toArray)⟩] rfl rfl rfl rfl hmx (by kernel_rfl) rfl (by kernel_rfl) (fun o1 ho => by rw [List.mem_singleton.1 ho]; exact List.mem_cons_self) (fun g o1 ho => by rw [List.mem_singleton.1 ho]; exact List.mem_append_right _ List.mem_cons_self) ?_
          refine RT.t (ob_move rfl) ?_
          refine RT.t (ob_fieldAddr fo_cadastrelaw20_Op_1 rfl) ?_
          refine RT.t (ob_ld1 sz_int rfl rfl) ?_
          refine RT.big (big_callL (Lr := (⟨b5, ty_cadastrelaw20_Op, .is (.agg (OpA.cells o).toArray)⟩ :: LR)) rfl (hSc) (List.perm_middle (l₁ := LS)).symm (fun F h => by repeat (first | exact List.mem_append_left _ h | apply List.mem_cons_of_mem)) (.one rfl (.one rfl .nil))) ?_
          refine RT.t (ob_move rfl) ?_
          refine RT.t (ob_fieldAddr fo_cadastrelaw20_Op_1 rfl) ?_
          refine RT.t (ob_ld1 sz_int rfl rfl) ?_
          refine RT.nil ?_
          rintro ⟨zs, hzs⟩
          try dsimp only
          refine JO.callK (Lr := (LSf zs ++ [⟨b5, ty_cadastrelaw20_Op, .is (.agg (OpA.cells o).toArray)⟩])) (hTc) rfl (pm_r _ [⟨b5, ty_cadastrelaw20_Op, .is (.agg (OpA.cells o).toArray)⟩] _) (fun F h => by repeat (first | exact List.mem_append_right _ (List.mem_append_left _ h) | apply List.mem_cons_of_mem)) (.one rfl (.one rfl .nil)) ?_
          intro zr hzr
          try dsimp only
          refine JO.t (ob_assign rfl) rfl ?_
          refine JO.t (ob_assign rfl) rfl ?_
          refine JO.nil ?_
          repeat (first | refine JX.next ?_ | refine JX.normal_block ?_)
          refine J.sel [6, 7] (.cons rfl (.cons rfl .nil)) ?_
          repeat refine J.seq ?_
          refine J.ret ?_
          repeat (first | refine JX.ret_pass ?_ | refine JX.ret_block ?_)
          exact JX.retL2R (Lr := [⟨b5, ty_cadastrelaw20_Op, .is (.agg (OpA.cells o).toArray)⟩]) (L1 := fun z : (ZS × WrA) × ZR => LSf z.1.1 ++ LRf z.2) (R := fun z => .rep (OneR e z.1.2)) rfl ((zs, wr0), zr) ⟨hzs, hzr⟩ (by have := pm_e (LSf zs) [] [⟨b5, ty_cadastrelaw20_Op, .is (.agg (OpA.cells o).toArray)⟩] (LRf zr); simpa using this) (ob_out (app_ob (hS.obf _) (hT.obf _))) hb0 rfl rfl rfl (fun _ _ hG => oneR_0 hG)
        ·
          try simp only [decide_eq_true_eq, decide_eq_false_iff_not] at ht84
          repeat refine J.seq ?_
          refine J.plain ?_
          refine JO.t (ob_eql rfl rfl) rfl ?_
          refine JO.t (ob_assign rfl) rfl ?_
          refine JO.nil ?_
          repeat (first | refine JX.next ?_ | refine JX.normal_block ?_)
          refine J.sel [0, 1, 5, 94] (.cons rfl (.cons rfl (.cons rfl (.cons rfl .nil)))) ?_
          repeat refine J.seq ?_
          refine J.cond rfl (fun ht94 => ?_) (fun ht94 => ?_)
          ·
            try simp only [decide_eq_true_eq, decide_eq_false_iff_not] at ht94
            have hk : o.k = 5 := by simpa using ht94
            have hSa := hS.a hk
            have hTa := hT.a hk
            repeat refine J.seq ?_
            refine J.regBm (G := { z : ZS // PS z wr0 }) (Tg := fun _ => .is (.int .i64 e)) (Lg := fun g => LSf g.1 ++ (⟨b5, ty_cadastrelaw20_Op, .is (.agg (OpA.cells o).toArray)⟩ :: LR)) 3 7 [⟨b5, ty_cadastrelaw20_Op, .is (.agg (OpA.cells o).toArray)⟩] rfl rfl rfl rfl hmx (by kernel_rfl) rfl (by kernel_rfl) (fun o1 ho => by rw [List.mem_singleton.1 ho]; exact List.mem_cons_self) (fun g o1 ho => by rw [List.mem_singleton.1 ho]; exact List.mem_append_right _ List.mem_cons_self) ?_
            refine RT.t (ob_move rfl) ?_
            refine RT.t (ob_fieldAddr fo_cadastrelaw20_Op_1 rfl) ?_
            refine RT.t (ob_ld1 sz_int rfl rfl) ?_
            refine RT.big (big_callL (Lr := (⟨b5, ty_cadastrelaw20_Op, .is (.agg (OpA.cells o).toArray)⟩ :: LR)) rfl (hSa) (List.perm_middle (l₁ := LS)).symm (fun F h => by repeat (first | exact List.mem_append_left _ h | apply List.mem_cons_of_mem)) (.one rfl (.one rfl .nil))) ?_
            refine RT.t (ob_move rfl) ?_
            refine RT.t (ob_fieldAddr fo_cadastrelaw20_Op_1 rfl) ?_
            refine RT.t (ob_ld1 sz_int rfl rfl) ?_
            refine RT.nil ?_
            rintro ⟨zs, hzs⟩
            try dsimp only
            refine JO.callK (Lr := (LSf zs ++ [⟨b5, ty_cadastrelaw20_Op, .is (.agg (OpA.cells o).toArray)⟩])) (hTa) rfl (pm_r _ [⟨b5, ty_cadastrelaw20_Op, .is (.agg (OpA.cells o).toArray)⟩] _) (fun F h => by repeat (first | exact List.mem_append_right _ (List.mem_append_left _ h) | apply List.mem_cons_of_mem)) (.one rfl (.one rfl .nil)) ?_
            intro zr hzr
            try dsimp only
            refine JO.t (ob_assign rfl) rfl ?_
            refine JO.t (ob_assign rfl) rfl ?_
            refine JO.nil ?_
            repeat (first | refine JX.next ?_ | refine JX.normal_block ?_)
            refine J.sel [6, 7] (.cons rfl (.cons rfl .nil)) ?_
            repeat refine J.seq ?_
            refine J.ret ?_
            repeat (first | refine JX.ret_pass ?_ | refine JX.ret_block ?_)
            exact JX.retL2R (Lr := [⟨b5, ty_cadastrelaw20_Op, .is (.agg (OpA.cells o).toArray)⟩]) (L1 := fun z : (ZS × WrA) × ZR => LSf z.1.1 ++ LRf z.2) (R := fun z => .rep (OneR e z.1.2)) rfl ((zs, wr0), zr) ⟨hzs, hzr⟩ (by have := pm_e (LSf zs) [] [⟨b5, ty_cadastrelaw20_Op, .is (.agg (OpA.cells o).toArray)⟩] (LRf zr); simpa using this) (ob_out (app_ob (hS.obf _) (hT.obf _))) hb0 rfl rfl rfl (fun _ _ hG => oneR_0 hG)
          ·
            try simp only [decide_eq_true_eq, decide_eq_false_iff_not] at ht94
            refine J.skip ?_
            repeat (first | refine JX.next ?_ | refine JX.normal_block ?_)
            repeat refine J.seq ?_
            refine J.plain ?_
            refine JO.t (ob_assign rfl) rfl ?_
            refine JO.t (ob_assign rfl) rfl ?_
            refine JO.nil ?_
            repeat (first | refine JX.next ?_ | refine JX.normal_block ?_)
            refine J.sel [6, 7] (.cons rfl (.cons rfl .nil)) ?_
            repeat refine J.seq ?_
            refine J.ret ?_
            repeat (first | refine JX.ret_pass ?_ | refine JX.ret_block ?_)
            obtain ⟨he0, zs, hzs, hLz⟩ := hS.n (by simpa using ht13) (by simpa using ht20) (by simpa using ht34) (by simpa using ht84) (by simpa using ht94)
            obtain ⟨zr, hzr, hLr⟩ := hT.n (by simpa using ht13) (by simpa using ht20) (by simpa using ht34) (by simpa using ht84) (by simpa using ht94)
            subst he0
            exact JX.retL2R (Lr := [⟨b5, ty_cadastrelaw20_Op, .is (.agg (OpA.cells o).toArray)⟩]) (L1 := fun z : (ZS × WrA) × ZR => LSf z.1.1 ++ LRf z.2) (R := fun z => .rep (OneR 0 z.1.2)) rfl ((zs, wr0), zr) ⟨hzs, hzr⟩ (by rw [hLz, hLr]; exact (List.perm_append_singleton _ _).symm) (ob_out (app_ob (hS.obf _) (hT.obf _))) hb0 rfl rfl rfl (fun _ _ hG => oneR_0 hG)
end Go.Proofs.Ytggmifnkgcladaa
