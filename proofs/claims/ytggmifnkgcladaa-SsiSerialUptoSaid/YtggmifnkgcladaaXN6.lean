/- The reference of the set, in memory. No condition. -/
import Derived.Test.YtggmifnkgcladaaXN5
namespace Go.Si
open Go Go.Vc Go.Proofs.Ytggmifnkgcladaa
structure RX where
  s : Int
  begun : Nat
  done : Nat
  rs : Option (Nat × List Value)
  rc : Nat
  reads : List Rd
  ws : Option (Nat × List Value)
  wc : Nat
  writes : List WrA
def RX.cells (x : RX) : List Value := [.int .i64 x.s, .int .i64 (x.begun : Nat), .int .i64 (x.done : Nat), sliceO x.rs x.reads.length x.rc, sliceO x.ws x.writes.length x.wc]
theorem RX.len (x : RX) : x.cells.length = 5 := rfl
theorem RX.one (x : RX) : x.cells.all (·.oneCell') = true := by
  simp only [RX.cells, List.all_cons, List.all_nil, sliceO_one, Bool.and_true]
  rfl
def rx0 (b : Nat) : RX := ⟨1, b, 0, none, 0, [], none, 0, []⟩
def rxL (x : RX) : List Own := ownO x.rs ty_api_Read (ownO x.ws ty_api_Write [])
def rsV (sp : Nat) (st : Option (Nat × List Value)) (cap n : Nat) : Value := .agg #[sliceO st n cap, .int .i64 (sp : Nat)]
def RL (b sp : Nat) (st : Option (Nat × List Value)) (cap : Nat) (xs : List RX) : List Own := ⟨b, ty_cadastreref20_Set, .is (rsV sp st cap xs.length)⟩ :: ownO st ty_cadastreref20_Tx (xs.flatMap rxL)
structure RWf (st : Option (Nat × List Value)) (cap : Nat) (xs : List RX) : Prop where
  g : Grows RX.cells 5 xs st cap
  rs : ∀ x ∈ xs, Grows Rd.cells 8 x.reads x.rs x.rc
  ws : ∀ x ∈ xs, Grows WrA.cells 3 x.writes x.ws x.wc
section
variable {b sp cap : Nat} {st : Option (Nat × List Value)} {xs : List RX}
instance : HasOwn (RL b sp st cap xs) b ty_cadastreref20_Set (.is (rsV sp st cap xs.length)) := ⟨List.mem_cons_self⟩
theorem rmem_l {p : Nat × List Value} (h : st = some p) : (⟨p.1, ty_cadastreref20_Tx, .is (.agg p.2.toArray)⟩ : Own) ∈ RL b sp st cap xs := by
  subst h
  exact List.mem_cons_of_mem _ List.mem_cons_self
theorem mem_ownO {st : Option (Nat × List Value)} {e : TypeId} {L : List Own} {o : Own} (h : o ∈ L) : o ∈ ownO st e L := by
  cases st with
  | none => exact h
  | some p => exact List.mem_cons_of_mem _ h
theorem rmem_x {x : RX} (hx : x ∈ xs) {o : Own} (ho : o ∈ rxL x) : o ∈ RL b sp st cap xs :=
  List.mem_cons_of_mem _ (mem_ownO (List.mem_flatMap.2 ⟨x, hx, ho⟩))
theorem rmem_r {x : RX} (hx : x ∈ xs) {p : Nat × List Value} (h : x.rs = some p) : (⟨p.1, ty_api_Read, .is (.agg p.2.toArray)⟩ : Own) ∈ RL b sp st cap xs := rmem_x hx (by unfold rxL; rw [h]; exact List.mem_cons_self)
theorem rmem_w {x : RX} (hx : x ∈ xs) {p : Nat × List Value} (h : x.ws = some p) : (⟨p.1, ty_api_Write, .is (.agg p.2.toArray)⟩ : Own) ∈ RL b sp st cap xs := rmem_x hx (by unfold rxL; rw [h]; exact mem_ownO List.mem_cons_self)
theorem rxL_ob (x : RX) : AllOb (rxL x) := ownO_ob _ _ (ownO_ob _ _ nil_ob)
theorem RL_ob : AllOb (RL b sp st cap xs) := by
  intro o ho
  rcases List.mem_cons.1 ho with rfl | ho
  · exact .inl ⟨_, rfl⟩
  refine ownO_ob st ty_cadastreref20_Tx ?_ o ho
  intro o ho
  obtain ⟨x, _, hx⟩ := List.mem_flatMap.1 ho
  exact rxL_ob x o hx
theorem RL_out : (RL b sp st cap xs).all (fun o => o.T.out) = true := ob_out RL_ob
end
section
variable {P : Program} {L : List Own} {Φ : List (World → Prop)} {H : Know} {dst : Option Nat} {ty : TypeId} {pos : String} {after : Array Edge} {g : Option (Nat × Bool)}
theorem ob_ldGr1 {α : Type} {en : α → List Value} {sz : Nat} (hen : ∀ x, (en x).length = sz) {xs : List α} {b off i j cap : Nat} {e t : TypeId} {x : Operand} {st : Option (Nat × List Value)} {cs : List Value} {v : α} {u : Value} (hs : szOf P t = some none) (hx : H x (.is (.pointer (some ⟨b, off, none⟩)))) (hm : ⟨b, e, .is (.agg cs.toArray)⟩ ∈ L) (hG : Grows en sz xs (some (b, cs)) cap) (hi : xs[i]? = some v) (ho : off = i * sz + j) (hj : (en v)[j]? = some u) :
    Ob P L Φ H ⟨dst, .load t x, ty, pos, after, g⟩ (.is u) := by
  subst ho
  refine ob_load hx (loads_own1 hs hm ?_)
  have hjl : j < sz := by rw [← hen v]; exact (List.getElem?_eq_some_iff.1 hj).1
  have h1 := grows_at hen hG hi
  rw [← h1, List.getElem?_take, if_pos hjl, List.getElem?_drop] at hj
  show (cs.toArray)[i * sz + j]? = some u
  simpa using hj
def bO (st : Option (Nat × List Value)) : Nat := match st with | some p => p.1 | none => 0
def cO (st : Option (Nat × List Value)) : List Value := match st with | some p => p.2 | none => []
theorem st_some {α : Type} {en : α → List Value} {sz : Nat} {xs : List α} {st : Option (Nat × List Value)} {cap : Nat} (hG : Grows en sz xs st cap) (hne : 0 < xs.length) : st = some (bO st, cO st) := by
  cases st with
  | none => rw [show xs = [] from hG] at hne; exact absurd hne (by simp)
  | some p => rfl
theorem ob_idxO {α : Type} {en : α → List Value} {sz : Nat} {xs : List α} {st : Option (Nat × List Value)} {cap : Nat} {t : TypeId} {x y : Operand} {i : Int} (he : elSize P t = some sz) (hx : H x (.is (sliceO st xs.length cap))) (hG : Grows en sz xs st cap) (hy : H y (.is (.int .i64 i))) (h0 : 0 ≤ i) (h1 : i < xs.length) :
    Ob P L Φ H ⟨dst, .indexAddr t x y, ty, pos, after, g⟩ (.is (.pointer (some ⟨bO st, i.toNat * sz, none⟩))) := by
  rw [st_some hG (by omega)] at hx
  have := ob_indexAddr (P := P) (L := L) (Φ := Φ) (dst := dst) (ty := ty) (pos := pos) (after := after) (g := g) he hx rfl hy h0 h1
  rw [Nat.zero_add] at this
  exact this
theorem ob_ldO {α : Type} {en : α → List Value} {sz : Nat} (hen : ∀ x, (en x).length = sz) {xs : List α} {off i cap : Nat} {e t : TypeId} {x : Operand} {st : Option (Nat × List Value)} {v : α} (hs : szOf P t = some (some sz)) (hx : H x (.is (.pointer (some ⟨bO st, off, none⟩)))) (hm : ∀ p, st = some p → (⟨p.1, e, .is (.agg p.2.toArray)⟩ : Own) ∈ L) (hG : Grows en sz xs st cap) (hi : xs[i]? = some v) (ho : off = i * sz) :
    Ob P L Φ H ⟨dst, .load t x, ty, pos, after, g⟩ (.is (.agg (en v).toArray)) := by
  have h1 := st_some hG (Nat.lt_of_le_of_lt (Nat.zero_le _) (List.getElem?_eq_some_iff.1 hi).1)
  exact ob_ldGr hen hs hx (hm _ h1) (h1 ▸ hG) hi ho
theorem ob_ldO1 {α : Type} {en : α → List Value} {sz : Nat} (hen : ∀ x, (en x).length = sz) {xs : List α} {off i j cap : Nat} {e t : TypeId} {x : Operand} {st : Option (Nat × List Value)} {v : α} {u : Value} (hs : szOf P t = some none) (hx : H x (.is (.pointer (some ⟨bO st, off, none⟩)))) (hm : ∀ p, st = some p → (⟨p.1, e, .is (.agg p.2.toArray)⟩ : Own) ∈ L) (hG : Grows en sz xs st cap) (hi : xs[i]? = some v) (ho : off = i * sz + j) (hj : (en v)[j]? = some u) :
    Ob P L Φ H ⟨dst, .load t x, ty, pos, after, g⟩ (.is u) := by
  have h1 := st_some hG (Nat.lt_of_le_of_lt (Nat.zero_le _) (List.getElem?_eq_some_iff.1 hi).1)
  exact ob_ldGr1 (st := none) hen hs hx (hm _ h1) (h1 ▸ hG) hi ho hj
end
def rAt (xs : List RX) (i : Int) : RX := xs.getD i.toNat (rx0 0)
theorem rAt_get {xs : List RX} {i : Int} (h0 : 0 ≤ i) (h1 : i < xs.length) : xs[i.toNat]? = some (rAt xs i) := by
  unfold rAt
  rw [List.getD_eq_getElem?_getD]
  have : i.toNat < xs.length := by omega
  rw [List.getElem?_eq_getElem this]
  rfl
theorem rAt_mem {xs : List RX} {i : Int} (h0 : 0 ≤ i) (h1 : i < xs.length) : rAt xs i ∈ xs := List.mem_of_getElem? (rAt_get h0 h1)
end Go.Si
set_option maxRecDepth 20000
namespace Go.Proofs.Ytggmifnkgcladaa
open Go Go.Vc
open Go.Si
theorem fm_snoc (xs : List RX) (n : Nat) : (xs ++ [rx0 n]).flatMap rxL = xs.flatMap rxL := by
  rw [List.flatMap_append]
  exact List.append_nil _
def actR (xs : List RX) (k : Int) : Int := if (decide (k < 1) || decide (k > (xs.length : Nat)) || (rAt xs (k - 1)).s != 1) then 41 else 0
def aheadR (a b : RX) : Bool := (a.s == 2) && decide (a.done < b.begun)
theorem c_p_ref20_Set_Begin (b sp : Nat) (st : Option (Nat × List Value)) (cap : Nat) (xs : List RX) (hG : Grows RX.cells 5 xs st cap) (hl : xs.length ≤ 1048576) (hsp : sp ≤ 4611686018427387904) : CallL Try.prog f_p_ref20_Set_Begin (RL b sp st cap xs) [] [.is (.pointer (some ⟨b, 0, none⟩))] (fun z : Option (Nat × List Value) × Nat => Grows RX.cells 5 (xs ++ [rx0 (sp + 1)]) z.1 z.2) (fun z => RL b (sp + 1) z.1 z.2 (xs ++ [rx0 (sp + 1)])) (fun _ => .is (.int .i64 ((xs.length + 1 : Nat) : Int))) :=
CallL.of (fn := Try.f18) Try.func18 (n := 31) rfl rfl rfl (fun _ _ => by kernel_rfl) fun E W hb0 => by
  repeat refine J.seq ?_
  refine J.plain ?_
  refine JO.t (ob_assign rfl) rfl ?_
  refine JO.nil ?_
  repeat (first | refine JX.next ?_ | refine JX.normal_block ?_)
  refine J.sel [0] (.cons rfl .nil) ?_
  repeat refine J.seq ?_
  refine J.plain ?_
  refine JO.t (ob_move rfl) rfl ?_
  refine JO.t (ob_pnil un_p_cadastreref20_Set rfl rfl) rfl ?_
  refine JO.nil ?_
  repeat (first | refine JX.next ?_ | refine JX.normal_block ?_)
  refine J.sel [0, 4] (.cons rfl (.cons rfl .nil)) ?_
  repeat refine J.seq ?_
  refine J.cond rfl (fun ht4 => ?_) (fun ht4 => ?_)
  ·
    try simp only [decide_eq_true_eq, decide_eq_false_iff_not] at ht4
    exfalso
    cases ht4
  ·
    try simp only [decide_eq_true_eq, decide_eq_false_iff_not] at ht4
    refine J.skip ?_
    repeat (first | refine JX.next ?_ | refine JX.normal_block ?_)
    repeat refine J.seq ?_
    refine J.plain ?_
    refine JO.t (ob_move rfl) rfl ?_
    refine JO.t (ob_nilCheck rfl) rfl ?_
    refine JO.t (ob_fieldAddr fo_cadastreref20_Set_1 rfl) rfl ?_
    refine JO.t (ob_ld1 sz_int rfl rfl) rfl ?_
    refine JO.t (ob_addc (cc := ((sp + 1 : Nat) : Int)) rfl rfl (by omega) (by omega) (by omega)) rfl ?_
    refine JO.t (ob_nilCheck rfl) rfl ?_
    refine JO.t (ob_fieldAddr fo_cadastreref20_Set_1 rfl) rfl ?_
    refine JO.m (obm_storeF (cs' := [_, _]) rfl rfl (show Upd (RL b sp st cap xs) _ _ (RL b (sp + 1) st cap xs) from .here) rfl rfl rfl rfl ss_int) (by rfl) ?_
    refine JO.nil ?_
    repeat (first | refine JX.next ?_ | refine JX.normal_block ?_)
    refine J.sel [0] (.cons rfl .nil) ?_
    repeat refine J.seq ?_
    refine J.regSf 11 0 hmx (by kernel_rfl) rfl rfl rfl rfl (by kernel_rfl) rfl (by kernel_rfl) (by kernel_rfl) (by kernel_rfl) ?_
    refine RT.t (ob_move rfl) ?_
    refine RT.t (ob_move rfl) ?_
    refine RT.t (ob_nilCheck rfl) ?_
    refine RT.t (ob_fieldAddr fo_cadastreref20_Set_0 rfl) ?_
    refine RT.t (ob_ld1 sz_sl_cadastreref20_Tx rfl rfl) ?_
    refine RT.t (ob_move rfl) ?_
    refine RT.t (ob_nilCheck rfl) ?_
    refine RT.t (ob_fieldAddr fo_cadastreref20_Set_1 rfl) ?_
    refine RT.t (ob_ld1 sz_int rfl rfl) ?_
    refine RT.t (ob_build (cs := [_, _, _, _, _]) sh_cadastreref20_Tx (.cons rfl (.cons rfl .nil)) rfl rfl) ?_
    refine RT.t (ob_buildSlice (cs := [_, _, _, _, _]) sl_sl_cadastreref20_Tx (by omega) (by omega) (.cons rfl .nil) rfl rfl rfl) ?_
    refine RT.nil ?_
    refine FinS.tail0 ?_
    refine JO.apO (en := RX.cells) (ys := [rx0 (sp + 1)]) ap_sl_cadastreref20_Tx RX.len (.there .here) hG rfl rfl (fun L => src_new un_sl_cadastreref20_Tx rfl rfl) (by simp) (by simp only [List.length_cons, List.length_nil]; omega) (by simp only [List.length_cons, List.length_nil]; omega) rfl (fun st1 cp1 hG1 => ?_)
    refine JO.t (ob_nilCheck rfl) rfl ?_
    refine JO.t (ob_fieldAddr fo_cadastreref20_Set_0 rfl) rfl ?_
    refine JO.m (obm_storeF1 (cs' := [sliceO st1 (xs ++ [rx0 (sp + 1)]).length cp1, .int .i64 ((sp + 1 : Nat) : Int)]) (sliceO_cells _ _ _) (sliceO_one _ _ _) rfl rfl (upd_ownO .here) rfl rfl ss_sl_cadastreref20_Tx) (Upd.same (upd_ownO .here) rfl) ?_
    refine JO.subL (L' := RL b (sp + 1) st1 cp1 (xs ++ [rx0 (sp + 1)])) (by unfold RL; rw [fm_snoc]; exact (Tl.perm (.there .here)).symm) ?_
    refine JO.nil ?_
    refine JX.nrm ?_
    repeat (first | refine JX.next ?_ | refine JX.normal_block ?_)
    refine J.sel [0] (.cons rfl .nil) ?_
    repeat refine J.seq ?_
    refine J.plain ?_
    refine JO.t (ob_move rfl) rfl ?_
    refine JO.t (ob_nilCheck rfl) rfl ?_
    refine JO.t (ob_fieldAddr fo_cadastreref20_Set_0 rfl) rfl ?_
    refine JO.t (ob_ld1 sz_sl_cadastreref20_Tx rfl rfl) rfl ?_
    refine JO.t (ob_lenO un_sl_cadastreref20_Tx rfl (grows_none hG1)) rfl ?_
    refine JO.t (ob_assign rfl) rfl ?_
    refine JO.nil ?_
    repeat (first | refine JX.next ?_ | refine JX.normal_block ?_)
    refine J.sel [2] (.cons rfl .nil) ?_
    repeat refine J.seq ?_
    refine J.ret ?_
    repeat (first | refine JX.ret_pass ?_ | refine JX.ret_block ?_)
    exact JX.retL1 (Lr := []) (L1 := fun z : Option (Nat × List Value) × Nat => RL b (sp + 1) z.1 z.2 (xs ++ [rx0 (sp + 1)])) (R := fun _ => .is (.int .i64 ((xs.length + 1 : Nat) : Int))) rfl (st1, cp1) hG1 (List.Perm.of_eq (List.append_nil _).symm) RL_out rfl hb0 rfl (Sub.isEq (by simp))
theorem c_ref20_ahead (x y : RX) : CallTy Try.prog f_ref20_ahead [.is (.agg x.cells.toArray), .is (.agg y.cells.toArray)] (.is (.bool (aheadR x y))) :=
  CallTy.of (fn := Try.f54) Try.func54 (n := 15) rfl rfl rfl (fun _ _ => by kernel_rfl) fun E W => by
  repeat refine J.seq ?_
  refine J.plain ?_
  refine JO.box rfl rfl fun b2 => ?_
  refine JO.box rfl rfl fun b3 => ?_
  refine JO.t (ob_assign rfl) rfl ?_
  refine JO.nil ?_
  repeat (first | refine JX.next ?_ | refine JX.normal_block ?_)
  refine J.sel [2, 3] (.cons rfl (.cons rfl .nil)) ?_
  repeat refine J.seq ?_
  refine J.reg0 hmx (by kernel_rfl) (by kernel_rfl) ?_
  refine RT.t (ob_fieldAddr fo_cadastreref20_Tx_0 rfl) ?_
  refine RT.t (ob_ld1 sz_int rfl rfl) ?_
  refine RT.t (ob_eql rfl rfl) ?_
  refine RT.t (ob_move rfl) ?_
  refine RT.g rfl rfl rfl (fun hg => ob_fieldAddr fo_cadastreref20_Tx_2 (.inl rfl)) ?_
  refine RT.g rfl rfl rfl (fun hg => ob_ld1 sz_int (.inr ⟨_, rfl, fun h => h⟩) rfl) ?_
  refine RT.g rfl rfl rfl (fun hg => ob_fieldAddr fo_cadastreref20_Tx_1 (.inl rfl)) ?_
  refine RT.g rfl rfl rfl (fun hg => ob_ld1 sz_int (.inr ⟨_, rfl, fun h => h⟩) rfl) ?_
  refine RT.g rfl rfl rfl (fun hg => ob_lss (.inr ⟨_, rfl, fun h => h⟩) (.inr ⟨_, rfl, fun h => h⟩)) ?_
  refine RT.t (ob_pickAnd rfl rfl rfl id) ?_
  refine RT.t (ob_assign rfl) ?_
  refine RT.nil ?_
  refine FinS.nil0 ?_
  repeat (first | refine JX.next ?_ | refine JX.normal_block ?_)
  refine J.sel [4] (.cons rfl .nil) ?_
  repeat refine J.seq ?_
  refine J.ret ?_
  repeat (first | refine JX.ret_pass ?_ | refine JX.ret_block ?_)
  exact JX.ret1is rfl rfl ((by simp [aheadR]))
end Go.Proofs.Ytggmifnkgcladaa
set_option maxRecDepth 20000
namespace Go.Proofs.Ytggmifnkgcladaa
open Go Go.Vc
open Go.Si
theorem cnt_rx (x : RX) : Cnt (.is (.agg x.cells.toArray)) 5 := cnt_is rfl (by simpa [Value.cells] using RX.one x)
def hitE (x y : RX) : Bool := x.reads.any fun r => y.writes.any fun w => mtA r w
def offE (xs : List RX) (i k : Int) : Bool := (i == k) || ((rAt xs i).s == 3) || ((rAt xs k).s == 3) || aheadR (rAt xs i) (rAt xs k) || aheadR (rAt xs k) (rAt xs i)
def edR (xs : List RX) (i k : Int) : Bool := if offE xs i k then false else hitE (rAt xs i) (rAt xs k)
theorem c_p_ref20_Set_Edge (b sp : Nat) (st : Option (Nat × List Value)) (cap : Nat) (xs : List RX) (hW : RWf st cap xs) (U : List WrA) (hU : ∀ x ∈ xs, ∀ w ∈ x.writes, w ∈ U) (hrl : ∀ x ∈ xs, x.reads.length ≤ 4611686018427387904) (hwl : ∀ x ∈ xs, x.writes.length ≤ 4611686018427387904) (i k : Int) (hi0 : 0 ≤ i) (hi1 : i < xs.length) (hk0 : 0 ≤ k) (hk1 : k < xs.length) : CallL Try.prog f_p_ref20_Set_Edge (RL b sp st cap xs) [WrF U] [.is (.pointer (some ⟨b, 0, none⟩)), .is (.int .i64 i), .is (.int .i64 k)] (fun _ : Unit => True) (fun _ => (RL b sp st cap xs)) (fun _ => .is (.bool (edR xs i k))) :=
CallL.of (fn := Try.f44) Try.func44 (n := 73) rfl rfl rfl (fun _ _ => by kernel_rfl) fun E W hb0 => by
  have hx := rAt_mem hi0 hi1
  have hy := rAt_mem hk0 hk1
  have hrx := hW.rs _ hx
  have hwy := hW.ws _ hy
  have hxl := hrl _ hx
  have hyl := hwl _ hy
  repeat refine J.seq ?_
  refine J.plain ?_
  refine JO.t (ob_assign rfl) rfl ?_
  refine JO.nil ?_
  repeat (first | refine JX.next ?_ | refine JX.normal_block ?_)
  refine J.sel [0, 1, 2] (.cons rfl (.cons rfl (.cons rfl .nil))) ?_
  repeat refine J.seq ?_
  refine J.plain ?_
  refine JO.t (ob_move rfl) rfl ?_
  refine JO.t (ob_nilCheck rfl) rfl ?_
  refine JO.t (ob_fieldAddr fo_cadastreref20_Set_0 rfl) rfl ?_
  refine JO.t (ob_ld1 sz_sl_cadastreref20_Tx rfl rfl) rfl ?_
  refine JO.t (ob_move rfl) rfl ?_
  refine JO.t (ob_idxO el_sl_cadastreref20_Tx rfl hW.g rfl hi0 hi1) rfl ?_
  refine JO.t (ob_ldO RX.len sz_cadastreref20_Tx rfl (fun p h => rmem_l h) hW.g (rAt_get hi0 hi1) rfl) rfl ?_
  refine JO.alloc zo_cadastreref20_Tx rfl fun b7 => ?_
  refine JO.m (obm_store (n := 5) rfl rfl (by repeat (first | exact .here | apply Upd.there)) (cnt_is rfl rfl) (cnt_rx _) ss_cadastreref20_Tx) (by rfl) ?_
  refine JO.nil ?_
  repeat (first | refine JX.next ?_ | refine JX.normal_block ?_)
  refine J.sel [0, 1, 2, 7] (.cons rfl (.cons rfl (.cons rfl (.cons rfl .nil)))) ?_
  repeat refine J.seq ?_
  refine J.plain ?_
  refine JO.t (ob_move rfl) rfl ?_
  refine JO.t (ob_nilCheck rfl) rfl ?_
  refine JO.t (ob_fieldAddr fo_cadastreref20_Set_0 rfl) rfl ?_
  refine JO.t (ob_ld1 sz_sl_cadastreref20_Tx rfl rfl) rfl ?_
  refine JO.t (ob_move rfl) rfl ?_
  refine JO.t (ob_idxO el_sl_cadastreref20_Tx rfl hW.g rfl hk0 hk1) rfl ?_
  refine JO.t (ob_ldO RX.len sz_cadastreref20_Tx rfl (fun p h => List.mem_cons_of_mem _ (rmem_l h)) hW.g (rAt_get hk0 hk1) rfl) rfl ?_
  refine JO.alloc zo_cadastreref20_Tx rfl fun b8 => ?_
  refine JO.m (obm_store (n := 5) rfl rfl (by repeat (first | exact .here | apply Upd.there)) (cnt_is rfl rfl) (cnt_rx _) ss_cadastreref20_Tx) (by rfl) ?_
  refine JO.nil ?_
  repeat (first | refine JX.next ?_ | refine JX.normal_block ?_)
  refine J.sel [1, 2, 7, 8] (.cons rfl (.cons rfl (.cons rfl (.cons rfl .nil)))) ?_
  repeat refine J.seq ?_
  refine J.reg0 hmx (by kernel_rfl) (by kernel_rfl) ?_
  refine RT.t (ob_move rfl) ?_
  refine RT.t (ob_move rfl) ?_
  refine RT.t (ob_eql rfl rfl) ?_
  refine RT.t (ob_move rfl) ?_
  refine RT.g rfl rfl rfl (fun hg => ob_fieldAddr fo_cadastreref20_Tx_0 (.inl rfl)) ?_
  refine RT.g rfl rfl rfl (fun hg => ob_ld1 sz_int (.inr ⟨_, rfl, fun h => h⟩) rfl) ?_
  refine RT.g rfl rfl rfl (fun hg => ob_eql (.inr ⟨_, rfl, fun h => h⟩) (.inl rfl)) ?_
  refine RT.t (ob_pickOr rfl rfl rfl id) ?_
  refine RT.t (ob_move rfl) ?_
  refine RT.g rfl rfl rfl (fun hg => ob_fieldAddr fo_cadastreref20_Tx_0 (.inl rfl)) ?_
  refine RT.g rfl rfl rfl (fun hg => ob_ld1 sz_int (.inr ⟨_, rfl, fun h => h⟩) rfl) ?_
  refine RT.g rfl rfl rfl (fun hg => ob_eql (.inr ⟨_, rfl, fun h => h⟩) (.inl rfl)) ?_
  refine RT.t (ob_pickOr rfl rfl rfl id) ?_
  refine RT.t (ob_move rfl) ?_
  refine RT.g rfl rfl rfl (fun hg => ob_ldN (cs := [_, _, _, _, _]) sz_cadastreref20_Tx (.inl rfl) rfl rfl) ?_
  refine RT.g rfl rfl rfl (fun hg => ob_ldN (cs := [_, _, _, _, _]) sz_cadastreref20_Tx (.inl rfl) rfl rfl) ?_
  refine RT.g rfl rfl rfl (fun hg => ob_call (.inl rfl) (c_ref20_ahead (rAt xs i) (rAt xs k)) (.one (.inr ⟨_, rfl, fun h => h⟩) (.one (.inr ⟨_, rfl, fun h => h⟩) .nil))) ?_
  refine RT.t (ob_pickOr rfl rfl rfl id) ?_
  refine RT.t (ob_move rfl) ?_
  refine RT.g rfl rfl rfl (fun hg => ob_ldN (cs := [_, _, _, _, _]) sz_cadastreref20_Tx (.inl rfl) rfl rfl) ?_
  refine RT.g rfl rfl rfl (fun hg => ob_ldN (cs := [_, _, _, _, _]) sz_cadastreref20_Tx (.inl rfl) rfl rfl) ?_
  refine RT.g rfl rfl rfl (fun hg => ob_call (.inl rfl) (c_ref20_ahead (rAt xs k) (rAt xs i)) (.one (.inr ⟨_, rfl, fun h => h⟩) (.one (.inr ⟨_, rfl, fun h => h⟩) .nil))) ?_
  refine RT.t (ob_pickOr rfl rfl rfl id) ?_
  refine RT.nil ?_
  refine FinS.nil0 ?_
  repeat (first | refine JX.next ?_ | refine JX.normal_block ?_)
  refine J.sel [7, 8, 47] (.cons rfl (.cons rfl (.cons rfl .nil))) ?_
  repeat refine J.seq ?_
  refine J.cond rfl (fun ht47 => ?_) (fun ht47 => ?_)
  ·
    try simp only [decide_eq_true_eq, decide_eq_false_iff_not] at ht47
    repeat refine J.seq ?_
    refine J.plain ?_
    refine JO.t (ob_assign rfl) rfl ?_
    refine JO.nil ?_
    repeat (first | refine JX.next ?_ | refine JX.normal_block ?_)
    refine J.sel [6] (.cons rfl .nil) ?_
    repeat refine J.seq ?_
    refine J.ret ?_
    repeat (first | refine JX.ret_pass ?_ | refine JX.ret_block ?_)
    exact JX.retL1 (Lr := [_, _]) (L1 := fun _ : Unit => RL b sp st cap xs) rfl () trivial (List.perm_append_comm (l₁ := [_, _])) RL_out rfl hb0 rfl (Sub.isEq (by unfold edR offE; rw [if_pos ht47]))
  ·
    try simp only [decide_eq_true_eq, decide_eq_false_iff_not] at ht47
    refine J.skip ?_
    repeat (first | refine JX.next ?_ | refine JX.normal_block ?_)
    repeat refine J.seq ?_
    refine J.plain ?_
    refine JO.t (ob_assign rfl) rfl ?_
    refine JO.nil ?_
    repeat (first | refine JX.next ?_ | refine JX.normal_block ?_)
    refine J.sel [7, 8, 9] (.cons rfl (.cons rfl (.cons rfl .nil))) ?_
    repeat refine J.seq ?_
    refine J.block ?_
    repeat refine J.seq ?_
    refine J.loopG (α := Nat) (fun p => [(7, .is (.pointer (some ⟨b7, 0, none⟩))), (8, .is (.pointer (some ⟨b8, 0, none⟩))), (9, .is (.int .i64 (p : Nat)))]) (fun p => ⟨b8, ty_cadastreref20_Tx, .is (.agg (rAt xs k).cells.toArray)⟩ :: ⟨b7, ty_cadastreref20_Tx, .is (.agg (rAt xs i).cells.toArray)⟩ :: RL b sp st cap xs) (fun p => fun _ => True) (fun p => p ≤ (rAt xs i).reads.length ∧ ∀ a r, a < p → (rAt xs i).reads[a]? = some r → (rAt xs k).writes.any (fun w => mtA r w) = false) (fun p => (rAt xs i).reads.length - p) 0 [7, 8, 9] (.cons rfl (.cons rfl (.cons rfl .nil))) rfl (fun _ => trivial) ⟨Nat.zero_le _, fun a r h => absurd h (Nat.not_lt_zero _)⟩ fun p ⟨hp, hno⟩ => ?_
    try dsimp only
    try dsimp only at hp
    try dsimp only at hno
    repeat refine J.seq ?_
    refine J.plain ?_
    refine JO.t (ob_move rfl) rfl ?_
    refine JO.t (ob_fieldAddr fo_cadastreref20_Tx_3 rfl) rfl ?_
    refine JO.t (ob_ld1 sz_sl_api_Read rfl rfl) rfl ?_
    refine JO.t (ob_lenO un_sl_api_Read rfl (grows_none hrx)) rfl ?_
    refine JO.t (ob_lss rfl rfl) rfl ?_
    refine JO.nil ?_
    repeat (first | refine JX.next ?_ | refine JX.normal_block ?_)
    refine J.sel [7, 8, 9, 52] (.cons rfl (.cons rfl (.cons rfl (.cons rfl .nil)))) ?_
    repeat refine J.seq ?_
    refine J.cond rfl (fun ht52 => ?_) (fun ht52 => ?_)
    ·
      try simp only [decide_eq_true_eq, decide_eq_false_iff_not] at ht52
      refine J.skip ?_
      repeat (first | refine JX.next ?_ | refine JX.normal_block ?_)
      repeat refine J.seq ?_
      refine J.block ?_
      have hpl : p < (rAt xs i).reads.length := by omega
      obtain ⟨r, hr⟩ : ∃ r, (rAt xs i).reads[p]? = some r := ⟨_, List.getElem?_eq_getElem hpl⟩
      repeat refine J.seq ?_
      refine J.plain ?_
      refine JO.t (ob_assign rfl) rfl ?_
      refine JO.nil ?_
      repeat (first | refine JX.next ?_ | refine JX.normal_block ?_)
      refine J.sel [7, 8, 9, 10] (.cons rfl (.cons rfl (.cons rfl (.cons rfl .nil)))) ?_
      repeat refine J.seq ?_
      refine J.block ?_
      repeat refine J.seq ?_
      refine J.loopG (α := Nat) (fun q => [(7, .is (.pointer (some ⟨b7, 0, none⟩))), (8, .is (.pointer (some ⟨b8, 0, none⟩))), (9, .is (.int .i64 (p : Nat))), (10, .is (.int .i64 (q : Nat)))]) (fun q => ⟨b8, ty_cadastreref20_Tx, .is (.agg (rAt xs k).cells.toArray)⟩ :: ⟨b7, ty_cadastreref20_Tx, .is (.agg (rAt xs i).cells.toArray)⟩ :: RL b sp st cap xs) (fun q => fun _ => True) (fun q => q ≤ (rAt xs k).writes.length ∧ ∀ c w, c < q → (rAt xs k).writes[c]? = some w → mtA r w = false) (fun q => (rAt xs k).writes.length - q) 0 [7, 8, 9, 10] (.cons rfl (.cons rfl (.cons rfl (.cons rfl .nil)))) rfl (fun _ => trivial) ⟨Nat.zero_le _, fun c w h => absurd h (Nat.not_lt_zero _)⟩ fun q ⟨hq, hnq⟩ => ?_
      try dsimp only
      try dsimp only at hq
      try dsimp only at hnq
      repeat refine J.seq ?_
      refine J.plain ?_
      refine JO.t (ob_move rfl) rfl ?_
      refine JO.t (ob_fieldAddr fo_cadastreref20_Tx_4 rfl) rfl ?_
      refine JO.t (ob_ld1 sz_sl_api_Write rfl rfl) rfl ?_
      refine JO.t (ob_lenO un_sl_api_Write rfl (grows_none hwy)) rfl ?_
      refine JO.t (ob_lss rfl rfl) rfl ?_
      refine JO.nil ?_
      repeat (first | refine JX.next ?_ | refine JX.normal_block ?_)
      refine J.sel [7, 8, 9, 10, 59] (.cons rfl (.cons rfl (.cons rfl (.cons rfl (.cons rfl .nil))))) ?_
      repeat refine J.seq ?_
      refine J.cond rfl (fun ht59 => ?_) (fun ht59 => ?_)
      ·
        try simp only [decide_eq_true_eq, decide_eq_false_iff_not] at ht59
        refine J.skip ?_
        repeat (first | refine JX.next ?_ | refine JX.normal_block ?_)
        repeat refine J.seq ?_
        refine J.block ?_
        have hql : q < (rAt xs k).writes.length := by omega
        obtain ⟨w, hw⟩ : ∃ w, (rAt xs k).writes[q]? = some w := ⟨_, List.getElem?_eq_getElem hql⟩
        repeat refine J.seq ?_
        refine J.reg0 hmx (by kernel_rfl) (by kernel_rfl) ?_
        refine RT.t (ob_fieldAddr fo_cadastreref20_Tx_3 rfl) ?_
        refine RT.t (ob_ld1 sz_sl_api_Read rfl rfl) ?_
        refine RT.t (ob_move rfl) ?_
        refine RT.t (ob_idxO el_sl_api_Read rfl hrx rfl (by omega) (by omega)) ?_
        refine RT.t (ob_ldO Rd.len sz_api_Read rfl (fun p h => List.mem_cons_of_mem _ (List.mem_cons_of_mem _ (rmem_r hx h))) hrx hr (by simp)) ?_
        refine RT.t (ob_fieldAddr fo_cadastreref20_Tx_4 rfl) ?_
        refine RT.t (ob_ld1 sz_sl_api_Write rfl rfl) ?_
        refine RT.t (ob_move rfl) ?_
        refine RT.t (ob_idxO el_sl_api_Write rfl hwy rfl (by omega) (by omega)) ?_
        refine RT.t (ob_ldO WrA.len sz_api_Write rfl (fun p h => List.mem_cons_of_mem _ (List.mem_cons_of_mem _ (rmem_w hy h))) hwy hw (by simp)) ?_
        refine RT.t (ob_callB rfl (c_ref20_Meets U r w (hU _ hy w (List.mem_of_getElem? hw))) nil_ob (fun _ h => by cases h) (fun _ _ _ => List.nodup_nil) (fun _ h => List.mem_cons_of_mem _ (List.mem_cons_of_mem _ h)) (.one rfl (.one rfl .nil))) ?_
        refine RT.nil ?_
        refine FinS.nil0 ?_
        repeat (first | refine JX.next ?_ | refine JX.normal_block ?_)
        refine J.sel [7, 8, 9, 10, 72] (.cons rfl (.cons rfl (.cons rfl (.cons rfl (.cons rfl .nil))))) ?_
        repeat refine J.seq ?_
        refine J.cond rfl (fun ht72 => ?_) (fun ht72 => ?_)
        ·
          try simp only [decide_eq_true_eq, decide_eq_false_iff_not] at ht72
          repeat refine J.seq ?_
          refine J.plain ?_
          refine JO.t (ob_assign rfl) rfl ?_
          refine JO.nil ?_
          repeat (first | refine JX.next ?_ | refine JX.normal_block ?_)
          refine J.sel [6] (.cons rfl .nil) ?_
          repeat refine J.seq ?_
          refine J.ret ?_
          repeat (first | refine JX.ret_pass ?_ | refine JX.ret_block ?_)
          exact JX.retL1 (Lr := [_, _]) (L1 := fun _ : Unit => RL b sp st cap xs) rfl () trivial (List.perm_append_comm (l₁ := [_, _])) RL_out rfl hb0 rfl (Sub.isEq (by unfold edR offE; rw [if_neg (by rw [ht47]; simp)]; refine congrArg Value.bool ?_; unfold hitE; exact (List.any_eq_true.2 ⟨r, List.mem_of_getElem? hr, List.any_eq_true.2 ⟨w, List.mem_of_getElem? hw, ht72⟩⟩).symm))
        ·
          try simp only [decide_eq_true_eq, decide_eq_false_iff_not] at ht72
          refine J.skip ?_
          repeat (first | refine JX.next ?_ | refine JX.normal_block ?_)
          repeat refine J.seq ?_
          refine J.plain ?_
          refine JO.t (ob_move rfl) rfl ?_
          refine JO.t (ob_addc (cc := ((q + 1 : Nat) : Int)) rfl rfl (by omega) (by omega) (by omega)) rfl ?_
          refine JO.t (ob_assign rfl) rfl ?_
          refine JO.nil ?_
          repeat refine JX.normal_block ?_
          refine JX.roundG (x := q) (q + 1) ?_ ?_ [7, 8, 9, 10] ?_ ?_ ?_ ?_
          · exact ⟨by omega, fun c w2 hc hw2 => by
    rcases Nat.lt_or_ge c q with h | h
    · exact hnq c w2 h hw2
    · have : c = q := by omega
      subst this
      rw [hw] at hw2; injection hw2 with hw2; subst hw2
      exact ht72⟩
          · exact (by omega)
          · exact (.cons rfl (.cons rfl (.cons rfl (.cons rfl .nil))))
          · repeat (first | exact .all | exact .nil | refine Has.own (by repeat (first | exact .here | apply Tl.past | apply Tl.there)) ?_ | refine Has.cons (by repeat (first | exact .here | apply Pk.past | apply Pk.there)) ?_)
          · exact fun G hG => by repeat (first | exact hG | refine List.mem_cons_of_mem _ ?_)
          · exact fun _ _ _ => fun _ _ => trivial
      ·
        try simp only [decide_eq_true_eq, decide_eq_false_iff_not] at ht59
        repeat refine J.seq ?_
        refine J.exit ?_
        repeat (first | refine JX.hit ?_ | refine JX.miss rfl ?_ | refine JX.exit_pass ?_)
        repeat (first | refine JX.next ?_ | refine JX.normal_block ?_)
        repeat refine J.seq ?_
        refine J.plain ?_
        refine JO.t (ob_move rfl) rfl ?_
        refine JO.t (ob_addc (cc := ((p + 1 : Nat) : Int)) rfl rfl (by omega) (by omega) (by omega)) rfl ?_
        refine JO.t (ob_assign rfl) rfl ?_
        refine JO.nil ?_
        repeat refine JX.normal_block ?_
        refine JX.roundG (x := p) (p + 1) ?_ ?_ [7, 8, 9] ?_ ?_ ?_ ?_
        · exact ⟨by omega, fun a r2 ha hr2 => by
    rcases Nat.lt_or_ge a p with h | h
    · exact hno a r2 h hr2
    · have : a = p := by omega
      subst this
      rw [hr] at hr2; injection hr2 with hr2; subst hr2
      exact List.any_eq_false.2 fun w hw => by
        obtain ⟨c, hc, rfl⟩ := List.mem_iff_getElem.1 hw
        rw [hnq c _ (by omega) (List.getElem?_eq_getElem hc)]; simp⟩
        · exact (by omega)
        · exact (.cons rfl (.cons rfl (.cons rfl .nil)))
        · repeat (first | exact .all | exact .nil | refine Has.own (by repeat (first | exact .here | apply Tl.past | apply Tl.there)) ?_ | refine Has.cons (by repeat (first | exact .here | apply Pk.past | apply Pk.there)) ?_)
        · exact fun G hG => by repeat (first | exact hG | refine List.mem_cons_of_mem _ ?_)
        · exact fun _ _ _ => fun _ _ => trivial
    ·
      try simp only [decide_eq_true_eq, decide_eq_false_iff_not] at ht52
      repeat refine J.seq ?_
      refine J.exit ?_
      repeat (first | refine JX.hit ?_ | refine JX.miss rfl ?_ | refine JX.exit_pass ?_)
      repeat (first | refine JX.next ?_ | refine JX.normal_block ?_)
      repeat refine J.seq ?_
      refine J.plain ?_
      refine JO.t (ob_assign rfl) rfl ?_
      refine JO.nil ?_
      repeat (first | refine JX.next ?_ | refine JX.normal_block ?_)
      refine J.sel [6] (.cons rfl .nil) ?_
      repeat refine J.seq ?_
      refine J.ret ?_
      repeat (first | refine JX.ret_pass ?_ | refine JX.ret_block ?_)
      exact JX.retL1 (Lr := [_, _]) (L1 := fun _ : Unit => RL b sp st cap xs) rfl () trivial (List.perm_append_comm (l₁ := [_, _])) RL_out rfl hb0 rfl (Sub.isEq (by unfold edR offE; rw [if_neg (by rw [ht47]; simp)]; refine congrArg Value.bool ?_; unfold hitE; refine (List.any_eq_false.2 fun r hr => ?_).symm; obtain ⟨a, ha, rfl⟩ := List.mem_iff_getElem.1 hr; rw [hno a _ (by omega) (List.getElem?_eq_getElem ha)]; simp))
end Go.Proofs.Ytggmifnkgcladaa
set_option maxRecDepth 20000
namespace Go.Proofs.Ytggmifnkgcladaa
open Go Go.Vc
open Go.Si
def inP (xs : List RX) (i : Int) (n : Nat) : Bool := (List.range n).any fun a => edR xs (a : Nat) i
def outP (xs : List RX) (i : Int) (n : Nat) : Bool := (List.range n).any fun a => edR xs i (a : Nat)
def pvR (xs : List RX) (i : Int) : Bool := inP xs i xs.length && outP xs i xs.length
def pivR (xs : List RX) (k : Int) : Bool := decide (k ≥ 1) && decide (k ≤ (xs.length : Nat)) && pvR xs (k - 1)
end Go.Proofs.Ytggmifnkgcladaa
namespace Go.Si
open Go Go.Vc Go.Proofs.Ytggmifnkgcladaa
section
variable {P : Program} {L : List Own} {Φ : List (World → Prop)} {H : Know} {ty : TypeId} {pos : String} {after : Array Edge} {g : Option (Nat × Bool)}
theorem splice_cell {l : List Value} {k j sz : Nat} {e e' : List Value} {V : Value} (he : (l.drop k).take sz = e) (hel : e.length = sz) (hj : j < sz) (hs : e.set j V = e') (hkl : k + sz ≤ l.length) : splice l (k + j) [V] = splice l k e' := by
  subst hs he
  apply List.ext_getElem?
  intro n
  simp only [splice, List.length_set, List.length_take, List.length_drop, List.length_cons, List.length_nil]
  rw [show min sz (l.length - k) = sz by omega]
  simp only [List.getElem?_append, List.length_take, List.length_append, List.length_cons, List.length_nil, List.length_set, List.length_drop, List.getElem?_take, List.getElem?_drop, List.getElem?_set]
  rw [show min sz (l.length - k) = sz by omega, show min (k + j) l.length = k + j by omega, show min k l.length = k by omega]
  by_cases h1 : n < k
  · rw [if_pos (by omega), if_pos (by omega), if_pos (by omega), if_pos (by omega), if_pos (by omega), if_pos (by omega)]
  · by_cases h2 : n < k + sz
    · rw [if_pos (c := n < k + sz) (by omega), if_neg (c := n < k) (by omega)]
      by_cases h3 : n = k + j
      · subst h3
        simp [hj]
      · by_cases h4 : n < k + j
        · rw [if_pos (by omega), if_pos (by omega), if_pos (by omega), if_neg (by omega), if_pos (by omega)]
          congr 1; omega
        · rw [if_neg (by omega), if_neg (by omega), if_pos (by omega)]
          congr 1; omega
    · rw [if_neg (by omega), if_neg (by omega)]
      congr 1; omega
theorem obm_storeO1 {α : Type} {en : α → List Value} {sz : Nat} (hen : ∀ x, (en x).length = sz) {xs : List α} {M M' : List Own} {t : TypeId} {p x : Operand} {off i j cap : Nat} {e : TypeId} {st : Option (Nat × List Value)} {v v' : α} {V : Value} (hV : V.cells = #[V]) (hV1 : V.oneCell' = true) (hs : (P.info? t).map (·.size) = some 1) (hp' : H p (.is (.pointer (some ⟨bO st, off, none⟩)))) (hx : H x (.is V)) (hG : Grows en sz xs st cap) (hi : xs[i]? = some v) (ho : off = i * sz + j) (hj : j < sz) (hv : (en v).set j V = en v')
    (hu : Upd M ⟨bO st, e, .is (.agg (cO st).toArray)⟩ ⟨bO st, e, .is (.agg (splice (cO st) (i * sz) (en v')).toArray)⟩ M') : ObM P L Φ H M ⟨none, .store t p x, ty, pos, after, g⟩ .any M' := by
  subst ho
  have hil := (List.getElem?_eq_some_iff.1 hi).1
  have h1 := st_some hG (Nat.lt_of_le_of_lt (Nat.zero_le _) hil)
  have hG' : Grows en sz xs (some (bO st, cO st)) cap := h1 ▸ hG
  have h4 : (i + 1) * sz ≤ cap * sz := Nat.mul_le_mul_right sz (by have := hG'.2.1; omega)
  rw [Nat.succ_mul] at h4
  have h5 := hG'.1
  exact obm_storeF1 hV hV1 hp' hx hu (splice_cell (grows_at hen hG' hi) (hen v) hj hv (by omega)) (Nat.ble_eq_true_of_le (by omega)) hs
end
def stS (st : Option (Nat × List Value)) (i : Nat) (v : RX) : Option (Nat × List Value) := some (bO st, splice (cO st) (i * 5) v.cells)
theorem upd_own {st : Option (Nat × List Value)} {e : TypeId} {L : List Own} {cs : List Value} (h : st = some (bO st, cO st)) : Upd (ownO st e L) ⟨bO st, e, .is (.agg (cO st).toArray)⟩ ⟨bO st, e, .is (.agg cs.toArray)⟩ (ownO (some (bO st, cs)) e L) := by
  have : ownO st e L = ownO (some (bO st, cO st)) e L := by rw [← h]
  rw [this]
  exact .here
theorem fm_set {xs : List RX} {i : Nat} {v v' : RX} (hi : xs[i]? = some v) (hr : rxL v' = rxL v) : (xs.set i v').flatMap rxL = xs.flatMap rxL := by
  induction xs generalizing i with
  | nil => simp at hi
  | cons x xs ih =>
    cases i with
    | zero =>
      simp at hi
      subst hi
      rw [List.set_cons_zero, List.flatMap_cons, List.flatMap_cons, hr]
    | succ i => rw [List.set_cons_succ, List.flatMap_cons, List.flatMap_cons, ih (by simpa using hi)]
section
variable {b sp cap : Nat} {st : Option (Nat × List Value)} {xs : List RX}
theorem upd_rl {i : Nat} {v v' : RX} (hG : Grows RX.cells 5 xs st cap) (hi : xs[i]? = some v) (hr : rxL v' = rxL v) : Upd (RL b sp st cap xs) ⟨bO st, ty_cadastreref20_Tx, .is (.agg (cO st).toArray)⟩ ⟨bO st, ty_cadastreref20_Tx, .is (.agg (splice (cO st) (i * 5) v'.cells).toArray)⟩ (RL b sp (stS st i v') cap (xs.set i v')) := by
  have h1 := st_some hG (Nat.lt_of_le_of_lt (Nat.zero_le _) (List.getElem?_eq_some_iff.1 hi).1)
  unfold RL
  rw [List.length_set, fm_set hi hr]
  have e : rsV sp (stS st i v') cap xs.length = rsV sp st cap xs.length := by
    unfold rsV stS
    rw [h1]
    rfl
  rw [e]
  exact .there (upd_own h1)
theorem RWf.set {i : Nat} {v v' : RX} (h : RWf st cap xs) (hi : xs[i]? = some v) (h1 : Grows Rd.cells 8 v'.reads v'.rs v'.rc) (h2 : Grows WrA.cells 3 v'.writes v'.ws v'.wc) : RWf (stS st i v') cap (xs.set i v') := by
  have hil := (List.getElem?_eq_some_iff.1 hi).1
  have hs := st_some h.g (Nat.lt_of_le_of_lt (Nat.zero_le _) hil)
  refine ⟨grows_set RX.len (hs ▸ h.g) hil v', fun x hx => ?_, fun x hx => ?_⟩
  · rcases List.mem_or_eq_of_mem_set hx with hx | rfl
    · exact h.rs x hx
    · exact h1
  · rcases List.mem_or_eq_of_mem_set hx with hx | rfl
    · exact h.ws x hx
    · exact h2
end
def mk3 (x : RX) : RX := { x with s := 3 }
def abL (xs : List RX) (k : Int) : List RX := xs.set (k - 1).toNat (mk3 (rAt xs (k - 1)))
def abS (st : Option (Nat × List Value)) (xs : List RX) (k : Int) : Option (Nat × List Value) := stS st (k - 1).toNat (mk3 (rAt xs (k - 1)))
def jR (xs : List RX) (n : Nat) : Bool := (List.range n).any fun a => (rAt xs (a : Nat)).s == 2 && pvR xs (a : Nat)
end Go.Si
set_option maxRecDepth 20000
namespace Go.Proofs.Ytggmifnkgcladaa
open Go Go.Vc
open Go.Si
def jgR (st : Option (Nat × List Value)) (xs : List RX) (k : Int) : Option (Nat × List Value) × List RX × Int := if jR xs xs.length then (abS st xs k, abL xs k, 40) else (st, xs, 0)
def abR (st : Option (Nat × List Value)) (xs : List RX) (k : Int) : Option (Nat × List Value) × List RX × Int := if actR xs k == 0 then (abS st xs k, abL xs k, 0) else (st, xs, actR xs k)
end Go.Proofs.Ytggmifnkgcladaa
