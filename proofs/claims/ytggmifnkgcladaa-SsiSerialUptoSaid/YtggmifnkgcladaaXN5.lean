/- slices.Clone of a row: what nil is stays nil. No condition. -/
import Derived.Test.YtggmifnkgcladaaXN4
import Derived.Test.YtggmifnkgcladaaXG6
set_option maxRecDepth 20000
namespace Go.Proofs.Ytggmifnkgcladaa
open Go Go.Vc
open Go.Vl Go.Si
theorem v3_len (v : V3) : v.cells.length = 3 := rfl
theorem v3_one (x : V3) : ∀ u ∈ x.cells, u.oneCell' = true := fun u hu => by
  simp only [V3.cells, List.mem_cons, List.not_mem_nil, or_false] at hu
  rcases hu with rfl | rfl | rfl <;> rfl
def ClR (i : Bool) (xs : List V3) (v : Value) (w : World) : Prop := ∃ s : RV, v = s.v ∧ s.row = xs ∧ s.a.isSome = i ∧ s.ok w
theorem Sub.clR {L : List Own} {Φ : List (World → Prop)} {xs : List V3} {p : Nat × List Value} {cap : Nat} (hG : Grows V3.cells 3 xs (some p) cap) (hR : RowG V3.cells 3 xs (adO (some p)) xs.length ∈ Φ) : Sub L Φ (.is (sliceO (some p) xs.length cap)) (.rep (ClR true xs)) := fun E v w hf e => by
  rw [show v = _ from e]
  exact fun w' hk => ⟨⟨xs, adO (some p), xs.length, cap⟩, rfl, rfl, rfl, hG.2.1, hf.2 _ hR w' hk⟩
theorem Sub.clN {L : List Own} {Φ : List (World → Prop)} : Sub L Φ (.is (.slice none 0 0)) (.rep (ClR false [])) := fun E v w hf e => by
  rw [show v = _ from e]
  exact fun w' hk => ⟨⟨[], none, 0, 0⟩, rfl, rfl, rfl, Nat.le_refl _, rfl, fun h => absurd rfl h⟩
def rvG (xs : List V3) (st : Option (Nat × List Value)) (cap : Nat) : RV := ⟨xs, adO st, xs.length, capO st cap⟩
def RW (st : Option (Nat × List Value)) : List Own := ownO st ty_api_Value []
theorem RW_ob {st : Option (Nat × List Value)} : AllOb (RW st) := ownO_ob _ _ nil_ob
theorem c_slices_Clone_sl_api_Value_api_Value (st : Option (Nat × List Value)) (cap : Nat) (xs : List V3) (hG : Grows V3.cells 3 xs st cap) (hl : xs.length ≤ 1048576) : CallL Try.prog f_slices_Clone_sl_api_Value_api_Value (RW st) [] [.is (rvG xs st cap).v] (fun _ : Unit => True) (fun _ => RW st) (fun _ => .rep (ClR st.isSome xs)) :=
CallL.of (fn := Try.f40) Try.func40 (n := 8) rfl rfl rfl (fun _ _ => by kernel_rfl) fun E W hb0 => by
  repeat refine J.seq ?_
  refine J.plain ?_
  refine JO.t (ob_assign rfl) rfl ?_
  refine JO.nil ?_
  repeat (first | refine JX.next ?_ | refine JX.normal_block ?_)
  refine J.sel [0] (.cons rfl .nil) ?_
  repeat refine J.seq ?_
  refine J.plain ?_
  refine JO.t (ob_move rfl) rfl ?_
  refine JO.t (ob_nilS un_sl_api_Value rfl rfl) rfl ?_
  refine JO.nil ?_
  repeat (first | refine JX.next ?_ | refine JX.normal_block ?_)
  refine J.sel [0, 4] (.cons rfl (.cons rfl .nil)) ?_
  repeat refine J.seq ?_
  refine J.cond rfl (fun ht4 => ?_) (fun ht4 => ?_)
  ·
    try simp only [decide_eq_true_eq, decide_eq_false_iff_not] at ht4
    repeat refine J.seq ?_
    refine J.plain ?_
    refine JO.t (ob_assign rfl) rfl ?_
    refine JO.nil ?_
    repeat (first | refine JX.next ?_ | refine JX.normal_block ?_)
    refine J.sel [2] (.cons rfl .nil) ?_
    repeat refine J.seq ?_
    refine J.ret ?_
    repeat (first | refine JX.ret_pass ?_ | refine JX.ret_block ?_)
    have hn : st = none := by
      cases st with
      | none => rfl
      | some p => exact absurd ht4 (by simp [adO, rvG])
    subst hn
    have hx : xs = [] := hG
    subst hx
    exact JX.retL1 (Lr := []) (L1 := fun _ : Unit => RW none) (R := fun _ => .rep (ClR false [])) rfl () trivial (.refl _) rfl rfl hb0 rfl Sub.clN
  ·
    try simp only [decide_eq_true_eq, decide_eq_false_iff_not] at ht4
    refine J.skip ?_
    repeat (first | refine JX.next ?_ | refine JX.normal_block ?_)
    obtain ⟨p, rfl⟩ : ∃ p, st = some p := by
      cases st with
      | none => exact absurd ht4 (by simp [adO, rvG])
      | some p => exact ⟨p, rfl⟩
    repeat refine J.seq ?_
    refine J.plain ?_
    refine JO.buildOwn0 sl_sl_api_Value rfl (fun b5 => ?_)
    refine JO.t (ob_move rfl) rfl ?_
    refine JO.apSL (xs) ap_sl_api_Value .here (xs := []) (en := V3.cells) ⟨rfl, Nat.le_refl _, rfl⟩ rfl rfl (src_ownG (e := ty_api_Value) v3_len v3_one un_sl_api_Value (fun q e => by cases e; exact List.mem_cons_of_mem _ List.mem_cons_self) hG) (by simp; omega) (by simp; omega) rfl (fun p1 cp1 hG1 => ?_)
    try dsimp only
    rw [List.nil_append] at hG1 ⊢
    refine JO.t (ob_assign rfl) rfl ?_
    refine JO.nil ?_
    repeat (first | refine JX.next ?_ | refine JX.normal_block ?_)
    refine J.sel [2] (.cons rfl .nil) ?_
    repeat refine J.seq ?_
    refine J.freezeOM (L' := RW (some p)) v3_len hG1 (e := ty_api_Value) .here (fun q h => by obtain ⟨m, hm, e⟩ := List.mem_map.1 h; exact ⟨m, hm, e⟩) rfl rfl ?_
    refine J.ret ?_
    repeat (first | refine JX.ret_pass ?_ | refine JX.ret_block ?_)
    exact JX.retL1 (Lr := []) (L1 := fun _ : Unit => RW (some p)) (R := fun _ => .rep (ClR true xs)) rfl () trivial (.refl _) rfl rfl hb0 rfl (Sub.clR hG1 (by repeat (first | exact List.mem_cons_self | apply List.mem_cons_of_mem)))
end Go.Proofs.Ytggmifnkgcladaa
set_option maxRecDepth 20000
namespace Go.Proofs.Ytggmifnkgcladaa
open Go Go.Vc
open Go.Si
def bxW (b k bR bT bS : Nat) (w : WrA) : List Own := [boxW bR w, ⟨bT, ty_int, .is (.int .i64 (k : Nat))⟩, ⟨bS, ty_p_ssi_Set, .is (.pointer (some ⟨b, 0, none⟩))⟩]
theorem bxW_ob {b k bR bT bS : Nat} {w : WrA} : AllOb (bxW b k bR bT bS w) := ob_cons (.inl ⟨_, rfl⟩) (ob_cons (.inl ⟨_, rfl⟩) (ob_cons (.inl ⟨_, rfl⟩) nil_ob))
def hitW (w : WrA) (txs : List TM) (j : Nat) : Bool := txs.any fun y => decide (y.n = j) && y.reads.any (fun r => mtA r w)
def pW (k : Nat) (w : WrA) (txs : List TM) (ks : List Nat) (a b : Nat) : Bool := decide (b = k) && (ks.contains a && hitW w txs a)
theorem hitW_mem {cl : Nat} {txs : List TM} (h : Wf cl txs) {y : TM} (hy : y ∈ txs) (w : WrA) : hitW w txs y.n = y.reads.any (fun r => mtA r w) := by
  unfold hitW
  rw [Bool.eq_iff_iff, List.any_eq_true]
  constructor
  · rintro ⟨z, hz, hp⟩
    simp only [Bool.and_eq_true, decide_eq_true_eq] at hp
    have := n_inj h hz hy hp.1
    subst this
    exact hp.2
  · intro hp
    exact ⟨y, hy, by simp [hp]⟩
def wrT (w : WrA) (x y : TM) (cur : List TM) : List TM := if y.reads.any (fun r => mtA r w) then edM y.n x.n cur else cur
theorem IE.stepW {cl : Nat} {txs cur : List TM} (h : Wf cl txs) {ks : List Nat} {w : WrA} {x y x' : TM} (hx : x ∈ txs) (hI : IE cl txs (pW x.n w txs) ks cur) (hx' : x' ∈ cur) (hxx : coreT x' = coreT x) (hy : y ∈ cur) (hne : x'.n ≠ y.n) : IE cl txs (pW x.n w txs) (y.n :: ks) (wrT w x' y cur) := by
  obtain ⟨y0, hy0, hyc⟩ := core_mem hI.core hy
  have hh : hitW w txs y.n = y.reads.any (fun r => mtA r w) := by rw [core_n hyc, core_reads hyc]; exact hitW_mem h hy0 w
  have hxn : x'.n = x.n := core_n hxx
  unfold wrT
  split
  · rename_i hm
    refine ⟨by rw [edM_core]; exact hI.core, hI.wf.ed hy hx' (Ne.symm hne), fun a b => ?_⟩
    rw [edP_ed hI.wf hy, hI.ed, hxn, Bool.or_assoc]
    congr 1
    unfold pW
    rw [Bool.eq_iff_iff]
    simp only [Bool.or_eq_true, Bool.and_eq_true, decide_eq_true_eq, List.contains_iff_mem, List.mem_cons]
    constructor
    · rintro (⟨h1, h2, h3⟩ | ⟨h1, h2⟩)
      · exact ⟨h1, .inr h2, h3⟩
      · exact ⟨h2, .inl h1, by rw [h1, hh]; exact hm⟩
    · rintro ⟨h1, h2 | h2, h3⟩
      · exact .inr ⟨h2, h1⟩
      · exact .inl ⟨h1, h2, h3⟩
  · rename_i hm
    refine ⟨hI.core, hI.wf, fun a b => ?_⟩
    rw [hI.ed]
    congr 1
    unfold pW
    rw [Bool.eq_iff_iff]
    simp only [Bool.and_eq_true, decide_eq_true_eq, List.contains_iff_mem, List.mem_cons]
    constructor
    · rintro ⟨h1, h2, h3⟩
      exact ⟨h1, .inr h2, h3⟩
    · rintro ⟨h1, h2 | h2, h3⟩
      · rw [h2, hh] at h3; exact absurd h3 hm
      · exact ⟨h1, h2, h3⟩
theorem c_p_ssi_Set_Write_1 (b ba nx sp cl : Nat) (txs : List TM) (hW : Wf cl txs) (U : List WrA) (hrl : ∀ y ∈ txs, y.reads.length ≤ 4611686018427387904) (x y : TM) (hx : x ∈ txs) (hy : y ∈ txs) (hxy : x.n ≠ y.n) (w : WrA) (hw : w ∈ U) (bR bT bS : Nat) : CallL Try.prog f_p_ssi_Set_Write_1 (bxW b x.n bR bT bS w ++ SL b ba nx sp cl txs) [WrF U] [.is (.int .i64 (y.n : Nat)), .is (.pointer (some ⟨y.b, 0, none⟩)), .is (.pointer (some ⟨bR, 0, none⟩)), .is (.pointer (some ⟨bS, 0, none⟩)), .is (.pointer (some ⟨bT, 0, none⟩))] (fun _ : Unit => True) (fun _ => bxW b x.n bR bT bS w ++ SL b ba nx sp cl (wrT w x y txs)) (fun _ => .is (.tuple #[])) :=
CallL.of (fn := Try.f41) Try.func41 (n := 17) rfl rfl rfl (fun _ _ => by kernel_rfl) fun E W hb0 => by
  show J _ _ _ (boxW bR w :: ⟨bT, ty_int, .is (.int .i64 (x.n : Nat))⟩ :: ⟨bS, ty_p_ssi_Set, .is (.pointer (some ⟨b, 0, none⟩))⟩ :: SL b ba nx sp cl txs) _ _ _
  refine J.nodup fun hnd => ?_
  haveI : HasOwn (SL b ba nx sp cl txs) y.b ty_ssi_tx (.is (.agg y.cs.toArray)) := ⟨mem_b hy⟩
  repeat refine J.seq ?_
  refine J.plain ?_
  refine JO.t (ob_move rfl) rfl ?_
  refine JO.t (ob_nilCheck rfl) rfl ?_
  refine JO.t (ob_fieldAddr fo_ssi_tx_2 rfl) rfl ?_
  refine JO.t (ob_ld1 sz_sl_api_Read rfl rfl) rfl ?_
  refine JO.t (ob_makeFunc .nil (.cons rfl .nil)) rfl ?_
  refine JO.t (ob_callB rfl (c_slices_ContainsFunc_sl_api_Read_api_Read (hW.rs y hy) (hrl y hy) 43 [.pointer (some ⟨bR, 0, none⟩)] [boxW bR w] boxW_ob [WrF U] (fun r => mtA r w) (fun r hr => c_p_ssi_Set_Write_1_1 U bR w hw r)) (ownO_ob _ _ boxW_ob) (fun o ho => by
      rw [ownO_split] at ho
      rcases List.mem_append.1 ho with ho | ho
      · exact List.mem_cons_of_mem _ (List.mem_cons_of_mem _ (List.mem_cons_of_mem _ (rs_mem hy ho)))
      · rw [List.mem_singleton.1 ho]; exact List.mem_cons_self) (fun _ _ _ => by rw [ownO_split]; exact box_nd (B := [_, _]) (rs_sub hy) hnd) (fun _ h => h) (.one rfl (.one rfl .nil))) rfl ?_
  refine JO.nil ?_
  repeat (first | refine JX.next ?_ | refine JX.normal_block ?_)
  refine J.sel [0, 3, 4, 12] (.cons rfl (.cons rfl (.cons rfl (.cons rfl .nil)))) ?_
  repeat refine J.seq ?_
  refine J.cond rfl (fun ht12 => ?_) (fun ht12 => ?_)
  ·
    try simp only [decide_eq_true_eq, decide_eq_false_iff_not] at ht12
    repeat refine J.seq ?_
    refine J.plain ?_
    refine JO.t (ob_ld1 sz_p_ssi_Set rfl rfl) rfl ?_
    refine JO.t (ob_move rfl) rfl ?_
    refine JO.t (ob_ld1 sz_int rfl rfl) rfl ?_
    refine JO.callL (Lr := bxW b x.n bR bT bS w) (c_p_ssi_Set_edge b ba nx sp cl txs hW.n y x hy hx (Ne.symm hxy) (hW.out y hy) (hW.inn x hx)) (fun d e => by injection e with e; show d < 17; omega) (List.perm_append_comm (l₁ := bxW b x.n bR bT bS w)) (fun _ h => by cases h) (.one rfl (.one rfl (.one rfl .nil))) ?_
    intro _ _
    refine JO.subL (L' := bxW b x.n bR bT bS w ++ SL b ba nx sp cl (edM y.n x.n txs)) List.perm_append_comm ?_
    refine JO.nil ?_
    refine JX.normal_ret ?_
    first
      | exact JX.retL0 (Lr := []) (L1 := fun _ : Unit => bxW b x.n bR bT bS w ++ SL b ba nx sp cl (wrT w x y txs)) rfl () trivial (by unfold wrT; rw [if_pos ht12, List.append_nil]) (ob_out (app_ob bxW_ob SL_ob)) hb0 rfl
      | exact JX.retL0 (Lr := []) (L1 := fun _ : Unit => bxW b x.n bR bT bS w ++ SL b ba nx sp cl (wrT w x y txs)) rfl () trivial (by unfold wrT; rw [if_neg (by rw [ht12]; simp), List.append_nil]; exact .refl _) (ob_out (app_ob bxW_ob SL_ob)) hb0 rfl
  ·
    try simp only [decide_eq_true_eq, decide_eq_false_iff_not] at ht12
    refine J.skip ?_
    refine JX.normal_ret ?_
    first
      | exact JX.retL0 (Lr := []) (L1 := fun _ : Unit => bxW b x.n bR bT bS w ++ SL b ba nx sp cl (wrT w x y txs)) rfl () trivial (by unfold wrT; rw [if_pos ht12, List.append_nil]) (ob_out (app_ob bxW_ob SL_ob)) hb0 rfl
      | exact JX.retL0 (Lr := []) (L1 := fun _ : Unit => bxW b x.n bR bT bS w ++ SL b ba nx sp cl (wrT w x y txs)) rfl () trivial (by unfold wrT; rw [if_neg (by rw [ht12]; simp), List.append_nil]; exact .refl _) (ob_out (app_ob bxW_ob SL_ob)) hb0 rfl
end Go.Proofs.Ytggmifnkgcladaa
set_option maxRecDepth 20000
namespace Go.Proofs.Ytggmifnkgcladaa
open Go Go.Vc
open Go.Si
def setWr (z : Option (Nat × List Value) × Nat) (l : List WrA) (x : TM) : TM := { x with ws := z.1, wc := z.2, writes := l }
def KW (b ba nx sp cl : Nat) (txs : List TM) (x : TM) : List Own := ⟨b, ty_ssi_Set, .is (setV ba nx sp)⟩ :: ⟨ba, 0, .ob (mObj (txs.map TM.ent) cl)⟩ :: ⟨x.bi, 0, .ob (mObj x.inn x.ic)⟩ :: ⟨x.bo, 0, .ob (mObj x.out x.oc)⟩ :: (ownO x.rs ty_api_Read [] ++ (delTx x.n txs).flatMap txL)
theorem wr_perm {b ba nx sp cl : Nat} {txs : List TM} (hn : (txs.map TM.n).Nodup) {x : TM} (hx : x ∈ txs) : (SL b ba nx sp cl txs).Perm (⟨x.b, ty_ssi_tx, .is (.agg x.cs.toArray)⟩ :: ownO x.ws ty_api_Write (KW b ba nx sp cl txs x)) := by
  unfold SL KW
  refine (((flat_perm hn hx).cons _).cons _).trans ?_
  have e1 : txL x = ⟨x.b, ty_ssi_tx, .is (.agg x.cs.toArray)⟩ :: ⟨x.bi, 0, .ob (mObj x.inn x.ic)⟩ :: ⟨x.bo, 0, .ob (mObj x.out x.oc)⟩ :: (ownO x.rs ty_api_Read [] ++ ownO x.ws ty_api_Write []) := by
    unfold txL
    rw [ownO_split x.rs]
  rw [e1, ownO_split x.ws ty_api_Write (_ :: _)]
  generalize ownO x.rs ty_api_Read [] = A
  generalize ownO x.ws ty_api_Write [] = B
  generalize (delTx x.n txs).flatMap txL = C
  generalize (⟨b, ty_ssi_Set, .is (setV ba nx sp)⟩ : Own) = s1
  generalize (⟨ba, 0, .ob (mObj (txs.map TM.ent) cl)⟩ : Own) = s2
  generalize (⟨x.b, ty_ssi_tx, .is (.agg x.cs.toArray)⟩ : Own) = s3
  generalize (⟨x.bi, 0, .ob (mObj x.inn x.ic)⟩ : Own) = s4
  generalize (⟨x.bo, 0, .ob (mObj x.out x.oc)⟩ : Own) = s5
  show (s1 :: s2 :: s3 :: s4 :: s5 :: ((A ++ B) ++ C)).Perm (s3 :: (B ++ s1 :: s2 :: s4 :: s5 :: (A ++ C)))
  refine ((List.Perm.swap s3 s2 _).cons s1).trans ((List.Perm.swap s3 s1 _).trans (List.Perm.cons _ ?_))
  have : (s1 :: s2 :: s4 :: s5 :: ((A ++ B) ++ C)) = ([s1, s2, s4, s5] ++ A) ++ B ++ C := by simp
  rw [this]
  have h2 : (B ++ s1 :: s2 :: s4 :: s5 :: (A ++ C)) = B ++ ([s1, s2, s4, s5] ++ A) ++ C := by simp
  rw [h2]
  exact (List.perm_append_comm).append_right _
theorem wr_back {b ba nx sp cl : Nat} {txs : List TM} (hn : (txs.map TM.n).Nodup) {x : TM} (hx : x ∈ txs) (z : Option (Nat × List Value) × Nat) (l : List WrA) : (SL b ba nx sp cl (setTx x.n (setWr z l) txs)).Perm (⟨x.b, ty_ssi_tx, .is (.agg (setWr z l x).cs.toArray)⟩ :: ownO z.1 ty_api_Write (KW b ba nx sp cl txs x)) := by
  have h := wr_perm (b := b) (ba := ba) (nx := nx) (sp := sp) (cl := cl) (txs := setTx x.n (setWr z l) txs) (x := setWr z l x) (by rw [setTx_n (f := setWr z l) (fun _ => rfl)]; exact hn) (List.mem_map.2 ⟨x, hx, if_pos rfl⟩)
  have e : KW b ba nx sp cl (setTx x.n (setWr z l) txs) (setWr z l x) = KW b ba nx sp cl txs x := by
    unfold KW
    rw [setTx_ent (f := setWr z l) (fun _ => rfl)]
    show _ :: _ :: _ :: _ :: (_ ++ (delTx x.n (setTx x.n (setWr z l) txs)).flatMap txL) = _
    rw [del_set (f := setWr z l) (fun _ => rfl)]
    rfl
  rw [e] at h
  exact h
theorem _root_.Go.Si.Wf.wr {cl : Nat} {txs : List TM} (h : Wf cl txs) {x : TM} {st : Option (Nat × List Value) × Nat} {l : List WrA} (hG : Grows WrA.cells 3 l st.1 st.2) : Wf cl (setTx x.n (setWr st l) txs) :=
  h.map (fun z => if z.n = x.n then setWr st l z else z) (fun z => by split <;> rfl) (fun z => by split <;> exact ⟨rfl, rfl, rfl, rfl⟩) (fun z hz => by split <;> exact h.rs z hz) (fun z hz => by split; exact hG; exact h.ws z hz)
theorem set_reads {k : Nat} {st : Option (Nat × List Value) × Nat} {l : List WrA} {txs : List TM} {y : TM} (hy : y ∈ setTx k (setWr st l) txs) : ∃ z ∈ txs, z.reads = y.reads := by
  obtain ⟨z, hz, rfl⟩ := List.mem_map.1 hy
  refine ⟨z, hz, ?_⟩
  split <;> rfl
def wG (t : ByteArray) (xo xn : List V3) (so sn : Option (Nat × List Value)) (co cn : Nat) : WrA := ⟨t, rvG xo so co, rvG xn sn cn⟩
def wr0 : WrA := ⟨ByteArray.empty, ⟨[], none, 0, 0⟩, ⟨[], none, 0, 0⟩⟩
theorem wr0_ok (w : World) : WrF [wr0] w := fun x hx => by
  rw [List.mem_singleton.1 hx]
  exact ⟨⟨Nat.le_refl _, rfl, fun h => absurd rfl h⟩, Nat.le_refl _, rfl, fun h => absurd rfl h⟩
theorem ownO_app (st : Option (Nat × List Value)) (e : TypeId) (L M : List Own) : ownO st e L ++ M = ownO st e (L ++ M) := by cases st <;> rfl
theorem perm_bsr (B S R : List Own) : (B ++ (S ++ R)).Perm (S ++ (B ++ R)) := by
  rw [← List.append_assoc, ← List.append_assoc]
  exact List.perm_append_comm.append_right _
theorem perm_srb (B S R : List Own) : (S ++ (B ++ R)).Perm ((S ++ R) ++ B) := by
  rw [List.append_assoc]
  exact List.perm_append_comm.append_left _
theorem wr_permR {b ba nx sp cl : Nat} {txs : List TM} (hn : (txs.map TM.n).Nodup) {x : TM} (hx : x ∈ txs) (R : List Own) : (SL b ba nx sp cl txs ++ R).Perm (⟨x.b, ty_ssi_tx, .is (.agg x.cs.toArray)⟩ :: ownO x.ws ty_api_Write (KW b ba nx sp cl txs x ++ R)) := by
  rw [← ownO_app]
  exact (wr_perm hn hx).append_right R
theorem wr_backR {b ba nx sp cl : Nat} {txs : List TM} (hn : (txs.map TM.n).Nodup) {x : TM} (hx : x ∈ txs) (z : Option (Nat × List Value) × Nat) (l : List WrA) (R : List Own) : (SL b ba nx sp cl (setTx x.n (setWr z l) txs) ++ R).Perm (⟨x.b, ty_ssi_tx, .is (.agg (setWr z l x).cs.toArray)⟩ :: ownO z.1 ty_api_Write (KW b ba nx sp cl txs x ++ R)) := by
  rw [← ownO_app]
  exact (wr_back hn hx z l).append_right R
theorem adO_some (st : Option (Nat × List Value)) : (adO st).isSome = st.isSome := by cases st <;> rfl
def Cpy (w v : WrA) : Prop := v.t = w.t ∧ v.o.row = w.o.row ∧ v.o.a.isSome = w.o.a.isSome ∧ v.n.row = w.n.row ∧ v.n.a.isSome = w.n.a.isSome
def WrZ (cl : Nat) (txs : List TM) (k : Int) (w : WrA) (z : List TM × Int × WrA) : Prop :=
  match liveM k txs with
  | none => z.1 = txs ∧ z.2.1 = 41
  | some x => ∃ (st : Option (Nat × List Value) × Nat) (ks : List Nat) (cur : List TM), Cpy w z.2.2 ∧ Grows WrA.cells 3 (x.writes ++ [z.2.2]) st.1 st.2 ∧ IE cl (setTx x.n (setWr st (x.writes ++ [z.2.2])) txs) (pW x.n z.2.2 (setTx x.n (setWr st (x.writes ++ [z.2.2])) txs)) ks cur ∧
      (∀ y ∈ setTx x.n (setWr st (x.writes ++ [z.2.2])) txs, othM x y = true ↔ y.n ∈ ks) ∧ z.1 = jgT k cur ∧ z.2.1 = jgE cur
def WrR (z : List TM × Int × WrA) (v : Value) (w : World) : Prop := v = .int .i64 z.2.1 ∧ WrF [z.2.2] w
theorem Sub.wrR {L : List Own} {Φ : List (World → Prop)} {z : List TM × Int × WrA} {U : List WrA} (hm : z.2.2 ∈ U) (h : WrF U ∈ Φ) {e : Int} (he : e = z.2.1) : Sub L Φ (.is (.int .i64 e)) (.rep (WrR z)) := fun E v w hf e1 => by
  rw [show v = _ from e1, he]
  exact fun w' hk => ⟨rfl, fun x hx => by rw [List.mem_singleton.1 hx]; exact hf.2 _ h w' hk _ hm⟩
theorem clR_ok {i : Bool} {xs : List V3} {s : RV} (hs : s.row = xs) {w : World} (h : ClR i xs s.v w) : s.ok w := by
  obtain ⟨t, e, h1, _, h2⟩ := h
  obtain ⟨row, a, len, cap⟩ := s
  obtain ⟨row', a', len', cap'⟩ := t
  injection e with e1 e2 e3
  subst e1 e2 e3
  have : row = row' := hs.trans h1.symm
  subst this
  exact h2
theorem Sub.wr0R {L : List Own} {Φ : List (World → Prop)} {txs : List TM} : Sub L Φ (.is (.int .i64 41)) (.rep (WrR (txs, 41, wr0))) := fun E v w hf e1 => by
  rw [show v = _ from e1]
  exact fun w' hk => ⟨rfl, wr0_ok w'⟩
theorem edP_startW (cl : Nat) {txs : List TM} (h : Wf cl txs) (k : Nat) (w : WrA) : IE cl txs (pW k w txs) [] txs := ⟨rfl, h, fun a b => by simp [pW]⟩
theorem c_p_ssi_Set_WriteG (b ba nx sp cl : Nat) (txs : List TM) (hW : Wf cl txs) (k : Int) (w : WrA) (RR : List Own) (hRR : AllOb RR) (Φc : List (World → Prop)) (hco : CallL Try.prog f_slices_Clone_sl_api_Value_api_Value RR Φc [.is w.o.v] (fun _ : Unit => True) (fun _ => RR) (fun _ => .rep (ClR w.o.a.isSome w.o.row))) (hcn : CallL Try.prog f_slices_Clone_sl_api_Value_api_Value RR Φc [.is w.n.v] (fun _ : Unit => True) (fun _ => RR) (fun _ => .rep (ClR w.n.a.isSome w.n.row))) (U : List WrA) (hwl : ∀ y ∈ txs, y.writes.length < 1048576) (hrl : ∀ y ∈ txs, y.reads.length ≤ 4611686018427387904) : CallL Try.prog f_p_ssi_Set_Write ((SL b ba nx sp cl txs) ++ RR) (WrF U :: Φc) [.is (.pointer (some ⟨b, 0, none⟩)), .is (.int .i64 k), .is (wrV w)] (WrZ cl txs k w) (fun z => SL b ba nx sp cl z.1 ++ RR) (fun z => .rep (WrR z)) :=
CallL.of (fn := Try.f20) Try.func20 (n := 43) rfl rfl rfl (fun _ _ => by kernel_rfl) fun E W hb0 => by
  repeat refine J.seq ?_
  refine J.plain ?_
  refine JO.box rfl rfl fun b3 => ?_
  refine JO.box rfl rfl fun b4 => ?_
  refine JO.box rfl rfl fun b5 => ?_
  refine JO.t (ob_assign rfl) rfl ?_
  refine JO.nil ?_
  repeat (first | refine JX.next ?_ | refine JX.normal_block ?_)
  refine J.sel [3, 4, 5] (.cons rfl (.cons rfl (.cons rfl .nil))) ?_
  refine J.nodup fun hnd => ?_
  have hndS : ((SL b ba nx sp cl txs).map (·.b)).Nodup := ((((List.sublist_append_left (SL b ba nx sp cl txs) RR).trans (List.sublist_append_right [_, _, _] _))).map _).nodup hnd
  repeat refine J.seq ?_
  refine J.plain ?_
  refine JO.t (ob_ld1 sz_p_ssi_Set rfl rfl) rfl ?_
  refine JO.t (ob_ld1 sz_int rfl rfl) rfl ?_
  refine JO.t (ob_callB rfl (c_p_ssi_Set_active b ba nx sp cl txs k) SL_ob (fun o ho => List.mem_cons_of_mem _ (List.mem_cons_of_mem _ (List.mem_cons_of_mem _ (List.mem_append_left _ ho)))) (fun _ _ _ => hndS) (fun _ h => by cases h) (.one rfl (.one rfl .nil))) rfl ?_
  refine JO.t (ob_move rfl) rfl ?_
  refine JO.t (ob_exI rfl rfl) rfl ?_
  refine JO.t (ob_exI rfl rfl) rfl ?_
  refine JO.t (ob_assign rfl) rfl ?_
  refine JO.t (ob_assign rfl) rfl ?_
  refine JO.nil ?_
  repeat (first | refine JX.next ?_ | refine JX.normal_block ?_)
  refine J.sel [3, 4, 5, 7, 8] (.cons rfl (.cons rfl (.cons rfl (.cons rfl (.cons rfl .nil))))) ?_
  repeat refine J.seq ?_
  refine J.plain ?_
  refine JO.t (ob_move rfl) rfl ?_
  refine JO.t (ob_neq rfl rfl) rfl ?_
  refine JO.nil ?_
  repeat (first | refine JX.next ?_ | refine JX.normal_block ?_)
  refine J.sel [3, 4, 5, 7, 8, 16] (.cons rfl (.cons rfl (.cons rfl (.cons rfl (.cons rfl (.cons rfl .nil)))))) ?_
  repeat refine J.seq ?_
  refine J.cond rfl (fun ht16 => ?_) (fun ht16 => ?_)
  ·
    try simp only [decide_eq_true_eq, decide_eq_false_iff_not] at ht16
    repeat refine J.seq ?_
    refine J.plain ?_
    refine JO.t (ob_move rfl) rfl ?_
    refine JO.t (ob_assign rfl) rfl ?_
    refine JO.nil ?_
    repeat (first | refine JX.next ?_ | refine JX.normal_block ?_)
    refine J.sel [6] (.cons rfl .nil) ?_
    repeat refine J.seq ?_
    refine J.ret ?_
    repeat (first | refine JX.ret_pass ?_ | refine JX.ret_block ?_)
    obtain ⟨hl0, he0⟩ := act_dead ht16
    exact JX.retL1 (Lr := [_, _, _]) (L1 := fun z : List TM × Int × WrA => SL b ba nx sp cl z.1 ++ RR) (R := fun z => .rep (WrR z)) rfl (txs, 41, wr0) (by unfold WrZ; rw [hl0]; exact ⟨rfl, rfl⟩) (List.perm_append_comm (l₁ := [_, _, _])) (ob_out (app_ob SL_ob hRR)) rfl hb0 rfl (by rw [he0]; exact Sub.wr0R)
  ·
    try simp only [decide_eq_true_eq, decide_eq_false_iff_not] at ht16
    refine J.skip ?_
    repeat (first | refine JX.next ?_ | refine JX.normal_block ?_)
    have hndR : (RR.map (·.b)).Nodup := (((List.sublist_append_right (SL b ba nx sp cl txs) _).trans (List.sublist_append_right [_, _, _] _)).map _).nodup hnd
    obtain ⟨x, hx, rfl, hxd, hxa, hxl, hxP⟩ := act_live ht16
    repeat refine J.seq ?_
    refine J.regS 7 hmx (by kernel_rfl) (by kernel_rfl) ?_
    refine RT.t (ob_fieldAddr fo_api_Write_1 rfl) ?_
    refine RT.t (ob_ld1 sz_sl_api_Value rfl rfl) ?_
    refine RT.t (ob_callR rfl hco hRR (fun o ho => List.mem_cons_of_mem _ (List.mem_cons_of_mem _ (List.mem_cons_of_mem _ (List.mem_append_right _ ho)))) (fun _ _ _ => hndR) (fun _ h => List.mem_cons_of_mem _ h) (.one rfl .nil)) ?_
    refine RT.t (ob_fieldAddr fo_api_Write_2 rfl) ?_
    refine RT.t (ob_ld1 sz_sl_api_Value rfl rfl) ?_
    refine RT.t (ob_callR rfl hcn hRR (fun o ho => List.mem_cons_of_mem _ (List.mem_cons_of_mem _ (List.mem_cons_of_mem _ (List.mem_append_right _ ho)))) (fun _ _ _ => hndR) (fun _ h => List.mem_cons_of_mem _ h) (.one rfl .nil)) ?_
    refine RT.t (ob_fieldAddr fo_api_Write_1 rfl) ?_
    refine RT.nil ?_
    refine FinS.tail0 ?_
    refine JO.open_ (s := 20) (R := ClR w.o.a.isSome w.o.row) rfl ?_
    rintro _ ⟨_, s1, rfl, hs1, hn1, -⟩
    refine JO.open_ (s := 23) (R := ClR w.n.a.isSome w.n.row) rfl ?_
    rintro _ ⟨_, s2, rfl, hs2, hn2, -⟩
    refine JO.m (obm_storeF1 (cs' := WrA.cells ⟨w.t, s1, w.n⟩) rfl rfl rfl rfl (by repeat (first | exact .here | apply Upd.there)) rfl rfl ss_sl_api_Value) (by rfl) ?_
    refine JO.t (ob_fieldAddr fo_api_Write_2 rfl) rfl ?_
    refine JO.m (obm_storeF1 (cs' := WrA.cells (⟨w.t, s1, s2⟩ : WrA)) rfl rfl rfl rfl (by repeat (first | exact .here | apply Upd.there)) rfl rfl ss_sl_api_Value) (by rfl) ?_
    refine JO.nil ?_
    repeat (first | refine JX.next ?_ | refine JX.normal_block ?_)
    refine J.sel [3, 4, 5, 7] (.cons rfl (.cons rfl (.cons rfl (.cons rfl .nil)))) ?_
    refine J.fact (WrF ((⟨w.t, s1, s2⟩ : WrA) :: U)) (fun E0 w0 hG _ => fun w1 hk v hv => by
      rcases List.mem_cons.1 hv with rfl | hv
      · exact ⟨clR_ok hs1 (hG _ (List.mem_cons_of_mem _ List.mem_cons_self) w1 hk), clR_ok hs2 (hG _ List.mem_cons_self w1 hk)⟩
      · exact hG _ (List.mem_cons_of_mem _ (List.mem_cons_of_mem _ List.mem_cons_self)) w1 hk v hv) ?_
    rw [hxP]
    refine J.subL (L' := ⟨b5, ty_api_Write, .is (wrV (⟨w.t, s1, s2⟩ : WrA))⟩ :: ⟨b4, ty_int, .is (.int .i64 (x.n : Nat))⟩ :: ⟨b3, ty_p_ssi_Set, .is (.pointer (some ⟨b, 0, none⟩))⟩ :: ⟨x.b, ty_ssi_tx, .is (.agg x.cs.toArray)⟩ :: ownO x.ws ty_api_Write (KW b ba nx sp cl txs x ++ RR)) (fun o ho => ((((wr_permR hW.n hx _).cons _).cons _).cons _).mem_iff.2 ho) (fun hn => ((((((wr_permR hW.n hx _).cons _).cons _).cons _).map (·.b)).nodup_iff).1 hn) ?_
    repeat refine J.seq ?_
    refine J.regSf 7 0 hmx (by kernel_rfl) rfl rfl rfl rfl (by kernel_rfl) rfl (by kernel_rfl) (by kernel_rfl) (by kernel_rfl) ?_
    refine RT.t (ob_move rfl) ?_
    refine RT.t (ob_move rfl) ?_
    refine RT.t (ob_nilCheck rfl) ?_
    refine RT.t (ob_fieldAddr fo_ssi_tx_3 rfl) ?_
    refine RT.t (ob_ld1 sz_sl_api_Write rfl rfl) ?_
    refine RT.t (ob_ldN (cs := [_, _, _]) sz_api_Write rfl rfl rfl) ?_
    refine RT.t (ob_buildSlice (cs := [_, _, _]) sl_sl_api_Write (by omega) (by omega) (.cons rfl .nil) rfl rfl rfl) ?_
    refine RT.nil ?_
    refine FinS.tail0 ?_
    refine JO.apO (en := WrA.cells) (ys := [(⟨w.t, s1, s2⟩ : WrA)]) ap_sl_api_Write WrA.len (.there (.there (.there (.there .here)))) (hW.ws x hx) rfl rfl (fun L => src_new un_sl_api_Write rfl rfl) (by simp) (by simp only [List.length_cons, List.length_nil]; have := hwl x hx; omega) (by simp only [List.length_cons, List.length_nil]; have := hwl x hx; omega) rfl (fun st1 cp1 hG1 => ?_)
    refine JO.t (ob_nilCheck rfl) rfl ?_
    refine JO.t (ob_fieldAddr fo_ssi_tx_3 rfl) rfl ?_
    refine JO.m (obm_storeF1 (cs' := (setWr (st1, cp1) (x.writes ++ [(⟨w.t, s1, s2⟩ : WrA)]) x).cs) (sliceO_cells _ _ _) (sliceO_one _ _ _) rfl rfl (upd_ownO (.there (.there (.there .here)))) rfl rfl ss_sl_api_Write) (Upd.same (upd_ownO (.there (.there (.there .here)))) rfl) ?_
    refine JO.subL (L' := ⟨b5, ty_api_Write, .is (wrV (⟨w.t, s1, s2⟩ : WrA))⟩ :: ⟨b4, ty_int, .is (.int .i64 (x.n : Nat))⟩ :: ⟨b3, ty_p_ssi_Set, .is (.pointer (some ⟨b, 0, none⟩))⟩ :: (SL b ba nx sp cl (setTx x.n (setWr (st1, cp1) (x.writes ++ [(⟨w.t, s1, s2⟩ : WrA)])) txs) ++ RR)) ((((((wr_backR hW.n hx (st1, cp1) (x.writes ++ [(⟨w.t, s1, s2⟩ : WrA)]) _).cons _).cons _).cons _)).trans (Tl.perm (.there (.there (.there (.there .here))))).symm) ?_
    refine JO.nil ?_
    refine JX.nrm ?_
    repeat (first | refine JX.next ?_ | refine JX.normal_block ?_)
    refine J.sel [3, 4, 5] (.cons rfl (.cons rfl (.cons rfl .nil))) ?_
    obtain ⟨st, hst, hste⟩ : ∃ st : Option (Nat × List Value) × Nat, Grows WrA.cells 3 (x.writes ++ [(⟨w.t, s1, s2⟩ : WrA)]) st.1 st.2 ∧ st = (st1, cp1) := ⟨(st1, cp1), hG1, rfl⟩
    rw [← hste]
    have hW1 : Wf cl (setTx x.n (setWr st (x.writes ++ [(⟨w.t, s1, s2⟩ : WrA)])) txs) := hW.wr hst
    have hx1 : setWr st (x.writes ++ [(⟨w.t, s1, s2⟩ : WrA)]) x ∈ (setTx x.n (setWr st (x.writes ++ [(⟨w.t, s1, s2⟩ : WrA)])) txs) := List.mem_map.2 ⟨x, hx, if_pos rfl⟩
    repeat refine J.seq ?_
    refine J.plain ?_
    refine JO.t (ob_ld1 sz_p_ssi_Set rfl rfl) rfl ?_
    refine JO.t (ob_ld1 sz_int rfl rfl) rfl ?_
    refine JO.t (ob_makeFunc .nil (.cons rfl (.cons rfl (.cons rfl .nil)))) rfl ?_
    refine JO.callL (Lr := RR) (c_p_ssi_Set_others b ba nx sp cl (setTx x.n (setWr st (x.writes ++ [(⟨w.t, s1, s2⟩ : WrA)])) txs) hW1 (setWr st (x.writes ++ [(⟨w.t, s1, s2⟩ : WrA)]) x) hx1 (bxW b x.n b5 b4 b3 (⟨w.t, s1, s2⟩ : WrA)) bxW_ob 41 [.pointer (some ⟨b5, 0, none⟩), .pointer (some ⟨b3, 0, none⟩), .pointer (some ⟨b4, 0, none⟩)] [WrF ((⟨w.t, s1, s2⟩ : WrA) :: U)] (IE cl (setTx x.n (setWr st (x.writes ++ [(⟨w.t, s1, s2⟩ : WrA)])) txs) (pW x.n (⟨w.t, s1, s2⟩ : WrA) (setTx x.n (setWr st (x.writes ++ [(⟨w.t, s1, s2⟩ : WrA)])) txs))) (edP_startW cl hW1 _ _) (fun ks cur h => h.core) (fun ks cur y hI hy hnk ho => by
      obtain ⟨x2, hx2, hxc⟩ := core_find hI.core hx1
      have hn2 : x2.n = x.n := (core_n hxc : x2.n = (setWr st (x.writes ++ [(⟨w.t, s1, s2⟩ : WrA)]) x).n)
      have hne : x2.n ≠ y.n := fun e => by
        unfold othM at ho
        rw [Bool.and_eq_true, bne_iff_ne] at ho
        exact ho.1 (by rw [← e, hn2]; rfl)
      have hrc : ∀ q ∈ cur, q.reads.length ≤ 4611686018427387904 := fun q hq => by
        obtain ⟨q1, hq1, hqc⟩ := core_mem hI.core hq
        obtain ⟨q2, hq2, hq3⟩ := set_reads hq1
        rw [core_reads hqc, ← hq3]; exact hrl q2 hq2
      have hc := c_p_ssi_Set_Write_1 b ba nx sp cl cur hI.wf ((⟨w.t, s1, s2⟩ : WrA) :: U) hrc x2 y hx2 hy hne (⟨w.t, s1, s2⟩ : WrA) List.mem_cons_self b5 b4 b3
      rw [hn2] at hc
      exact CallL.toZ (wrT (⟨w.t, s1, s2⟩ : WrA) x2 y cur) (IE.stepW (x := setWr st (x.writes ++ [(⟨w.t, s1, s2⟩ : WrA)]) x) hW1 hx1 hI hx2 hxc hy hne) rfl hc)) (fun d e => by injection e with e; show d < 43; omega) (.refl _) (fun F h => by rw [List.mem_singleton.1 h]; exact List.mem_cons_self) (.one rfl (.one rfl (.one rfl .nil))) ?_
    intro zz hzz
    refine JO.nil ?_
    repeat (first | refine JX.next ?_ | refine JX.normal_block ?_)
    refine J.sel [3, 4] (.cons rfl (.cons rfl .nil)) ?_
    obtain ⟨ks, cur⟩ := zz
    obtain ⟨hI, hks⟩ := hzz
    refine J.subS (L' := boxW b5 (⟨w.t, s1, s2⟩ : WrA) :: ⟨b4, ty_int, .is (.int .i64 (x.n : Nat))⟩ :: ⟨b3, ty_p_ssi_Set, .is (.pointer (some ⟨b, 0, none⟩))⟩ :: (SL b ba nx sp cl cur ++ RR)) (List.Sublist.refl _) ?_
    repeat refine J.seq ?_
    refine J.plain ?_
    refine JO.t (ob_ld1 sz_p_ssi_Set rfl rfl) rfl ?_
    refine JO.t (ob_ld1 sz_int rfl rfl) rfl ?_
    refine JO.callL (Lr := bxW b x.n b5 b4 b3 (⟨w.t, s1, s2⟩ : WrA) ++ RR) (c_p_ssi_Set_judge b ba nx sp cl cur hI.wf (x.n : Int)) (fun d e => by injection e with e; show d < 43; omega) (perm_bsr (bxW b x.n b5 b4 b3 (⟨w.t, s1, s2⟩ : WrA)) (SL b ba nx sp cl cur) RR) (fun _ h => by cases h) (.one rfl (.one rfl .nil)) ?_
    intro _ _
    refine JO.t (ob_assign rfl) rfl ?_
    refine JO.nil ?_
    repeat (first | refine JX.next ?_ | refine JX.normal_block ?_)
    refine J.sel [6] (.cons rfl .nil) ?_
    repeat refine J.seq ?_
    refine J.ret ?_
    repeat (first | refine JX.ret_pass ?_ | refine JX.ret_block ?_)
    exact JX.retL1 (Lr := bxW b x.n b5 b4 b3 (⟨w.t, s1, s2⟩ : WrA)) (L1 := fun z : List TM × Int × WrA => SL b ba nx sp cl z.1 ++ RR) (R := fun z => .rep (WrR z)) rfl (jgT x.n cur, jgE cur, (⟨w.t, s1, s2⟩ : WrA)) (by unfold WrZ; rw [hxl]; exact ⟨st, ks, cur, ⟨rfl, hs1, hn1, hs2, hn2⟩, hst, hI, hks, rfl, rfl⟩) (perm_srb _ _ _) (ob_out (app_ob SL_ob hRR)) rfl hb0 rfl (Sub.wrR (z := (jgT x.n cur, jgE cur, (⟨w.t, s1, s2⟩ : WrA))) (e := jgE cur) List.mem_cons_self List.mem_cons_self rfl)
end Go.Proofs.Ytggmifnkgcladaa
set_option maxRecDepth 20000
namespace Go.Proofs.Ytggmifnkgcladaa
open Go Go.Vc
open Go.Si
end Go.Proofs.Ytggmifnkgcladaa
