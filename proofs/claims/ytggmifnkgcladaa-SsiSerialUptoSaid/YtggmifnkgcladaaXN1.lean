/- Ssi: the set in memory. No condition. -/
import Derived.Test.YtggmifnkgcladaaXFacts
namespace Go.Si
open Go Go.Vc Go.Proofs.Ytggmifnkgcladaa
def Rd.cells (r : Rd) : List Value := [.string r.t, .int .i64 r.col, .int .i64 r.lo.k, .int .i64 r.lo.n, .string r.lo.s, .int .i64 r.hi.k, .int .i64 r.hi.n, .string r.hi.s]
theorem Rd.len (r : Rd) : (Rd.cells r).length = 8 := rfl
structure WrA where
  t : ByteArray
  o : RV
  n : RV
def WrA.cells (w : WrA) : List Value := [.string w.t, .slice w.o.a w.o.len w.o.cap, .slice w.n.a w.n.len w.n.cap]
theorem WrA.len (w : WrA) : w.cells.length = 3 := rfl
def WrF (U : List WrA) (w : World) : Prop := ∀ x ∈ U, x.o.ok w ∧ x.n.ok w
structure Wr where
  t : ByteArray
  o : Option (List V3)
  n : Option (List V3)
def rvO (r : RV) : Option (List V3) := if r.a.isSome then some r.row else none
def WrA.abs (w : WrA) : Wr := ⟨w.t, rvO w.o, rvO w.n⟩
structure TM where
  n : Nat
  st : Nat
  b : Nat
  bi : Nat
  bo : Nat
  begun : Nat
  done : Nat
  rs : Option (Nat × List Value)
  rc : Nat
  reads : List Rd
  ws : Option (Nat × List Value)
  wc : Nat
  writes : List WrA
  inn : MEs
  ic : Nat
  out : MEs
  oc : Nat
  wi : Bool
  wo : Bool
def TM.cs (t : TM) : List Value := [.int .i64 (t.begun : Nat), .int .i64 (t.done : Nat), sliceO t.rs t.reads.length t.rc, sliceO t.ws t.writes.length t.wc, .map (some t.bi), .map (some t.bo), .bool t.wi, .bool t.wo]
def TM.ent (t : TM) : Int × Value × Nat := ((t.n : Int), .pointer (some ⟨t.b, 0, none⟩), t.st)
def tx3 (t : TM) : List Own := [⟨t.b, ty_ssi_tx, .is (.agg t.cs.toArray)⟩, ⟨t.bi, 0, .ob (mObj t.inn t.ic)⟩, ⟨t.bo, 0, .ob (mObj t.out t.oc)⟩]
def txL (t : TM) : List Own := ⟨t.b, ty_ssi_tx, .is (.agg t.cs.toArray)⟩ :: ⟨t.bi, 0, .ob (mObj t.inn t.ic)⟩ :: ⟨t.bo, 0, .ob (mObj t.out t.oc)⟩ :: ownO t.rs ty_api_Read (ownO t.ws ty_api_Write [])
theorem txL_eq (t : TM) : txL t = tx3 t ++ ownO t.rs ty_api_Read (ownO t.ws ty_api_Write []) := rfl
def setV (ba nx sp : Nat) : Value := .agg #[.int .i64 (nx : Nat), .int .i64 (sp : Nat), .map (some ba)]
def SL (b ba nx sp cl : Nat) (txs : List TM) : List Own := ⟨b, ty_ssi_Set, .is (setV ba nx sp)⟩ :: ⟨ba, 0, .ob (mObj (txs.map TM.ent) cl)⟩ :: txs.flatMap txL
section
variable {b ba nx sp cl : Nat} {txs : List TM}
instance : HasOwn (SL b ba nx sp cl txs) b ty_ssi_Set (.is (setV ba nx sp)) := ⟨List.mem_cons_self⟩
theorem mem_all : (⟨ba, 0, .ob (mObj (txs.map TM.ent) cl)⟩ : Own) ∈ SL b ba nx sp cl txs := List.mem_cons_of_mem _ List.mem_cons_self
instance : HasOwn (SL b ba nx sp cl txs) ba 0 (.ob (mObj (txs.map TM.ent) cl)) := ⟨mem_all⟩
theorem mem_tx {y : TM} (hy : y ∈ txs) {o : Own} (ho : o ∈ txL y) : o ∈ SL b ba nx sp cl txs := List.mem_cons_of_mem _ (List.mem_cons_of_mem _ (List.mem_flatMap.2 ⟨y, hy, ho⟩))
theorem mem_b {y : TM} (hy : y ∈ txs) : (⟨y.b, ty_ssi_tx, .is (.agg y.cs.toArray)⟩ : Own) ∈ SL b ba nx sp cl txs := mem_tx hy List.mem_cons_self
theorem mem_bi {y : TM} (hy : y ∈ txs) : (⟨y.bi, 0, .ob (mObj y.inn y.ic)⟩ : Own) ∈ SL b ba nx sp cl txs := mem_tx hy (List.mem_cons_of_mem _ List.mem_cons_self)
theorem mem_bo {y : TM} (hy : y ∈ txs) : (⟨y.bo, 0, .ob (mObj y.out y.oc)⟩ : Own) ∈ SL b ba nx sp cl txs := mem_tx hy (List.mem_cons_of_mem _ (List.mem_cons_of_mem _ List.mem_cons_self))
theorem ownO_ob (st : Option (Nat × List Value)) (e : TypeId) {L : List Own} (h : AllOb L) : AllOb (ownO st e L) := by
  cases st with
  | none => exact h
  | some p =>
    intro o ho
    rcases List.mem_cons.1 ho with rfl | ho
    · exact .inl ⟨_, rfl⟩
    · exact h o ho
theorem txL_ob (t : TM) : AllOb (txL t) := by
  intro o ho
  rcases List.mem_cons.1 ho with rfl | ho
  · exact .inl ⟨_, rfl⟩
  rcases List.mem_cons.1 ho with rfl | ho
  · exact .inr ⟨_, rfl⟩
  rcases List.mem_cons.1 ho with rfl | ho
  · exact .inr ⟨_, rfl⟩
  exact ownO_ob _ _ (ownO_ob _ _ (fun _ h => by cases h)) o ho
theorem tx3_ob (t : TM) : AllOb (tx3 t) := fun o ho => txL_ob t o (by rw [txL_eq]; exact List.mem_append_left _ ho)
theorem SL_ob : AllOb (SL b ba nx sp cl txs) := by
  intro o ho
  rcases List.mem_cons.1 ho with rfl | ho
  · exact .inl ⟨_, rfl⟩
  rcases List.mem_cons.1 ho with rfl | ho
  · exact .inr ⟨_, rfl⟩
  obtain ⟨t, _, ht⟩ := List.mem_flatMap.1 ho
  exact txL_ob t o ht
theorem ob_out {L : List Own} (h : AllOb L) : L.all (fun o => o.T.out) = true := List.all_eq_true.2 fun o ho => by
  rcases h o ho with ⟨V, e⟩ | ⟨x, e⟩ <;> rw [e] <;> rfl
theorem SL_out : (SL b ba nx sp cl txs).all (fun o => o.T.out) = true := ob_out SL_ob
theorem upd_appL {L L' M : List Own} {o o' : Own} (h : Upd L o o' L') : Upd (L ++ M) o o' (L' ++ M) := by
  induction h with
  | here => exact .here
  | there _ ih => exact .there ih
theorem upd_appR {L M M' : List Own} {o o' : Own} (h : Upd M o o' M') : Upd (L ++ M) o o' (L ++ M') := by
  induction L with
  | nil => exact h
  | cons x L ih => exact .there ih
def setTx (k : Nat) (f : TM → TM) (txs : List TM) : List TM := txs.map fun z => if z.n = k then f z else z
theorem setTx_none {k : Nat} {f : TM → TM} : ∀ {txs : List TM}, k ∉ txs.map TM.n → setTx k f txs = txs
  | [], _ => rfl
  | z :: txs, h => by
    rw [List.map_cons, List.mem_cons, not_or] at h
    show (if z.n = k then f z else z) :: setTx k f txs = _
    rw [if_neg (fun e => h.1 e.symm), setTx_none h.2]
theorem upd_flat {f : TM → TM} {y : TM} {o o' : Own} : ∀ {txs : List TM}, (txs.map TM.n).Nodup → y ∈ txs → Upd (txL y) o o' (txL (f y)) → Upd (txs.flatMap txL) o o' ((setTx y.n f txs).flatMap txL)
  | [], _, h, _ => by cases h
  | z :: txs, hn, hy, hu => by
    rw [List.map_cons, List.nodup_cons] at hn
    show Upd (txL z ++ txs.flatMap txL) o o' (((if z.n = y.n then f z else z) :: setTx y.n f txs).flatMap txL)
    rw [List.flatMap_cons]
    rcases List.mem_cons.1 hy with rfl | hy
    · rw [if_pos rfl, setTx_none hn.1]
      exact upd_appL hu
    · rw [if_neg (fun e => hn.1 (by rw [e]; exact List.mem_map_of_mem hy))]
      exact upd_appR (upd_flat hn.2 hy hu)
theorem setTx_ent {k : Nat} {f : TM → TM} (hf : ∀ z, (f z).ent = z.ent) (txs : List TM) : (setTx k f txs).map TM.ent = txs.map TM.ent := by
  unfold setTx
  rw [List.map_map]
  refine List.map_congr_left fun z _ => ?_
  show (if z.n = k then f z else z).ent = z.ent
  split
  · exact hf z
  · rfl
theorem setTx_n {k : Nat} {f : TM → TM} (hf : ∀ z, (f z).n = z.n) (txs : List TM) : (setTx k f txs).map TM.n = txs.map TM.n := by
  unfold setTx
  rw [List.map_map]
  refine List.map_congr_left fun z _ => ?_
  show (if z.n = k then f z else z).n = z.n
  split
  · exact hf z
  · rfl
theorem upd_tx {f : TM → TM} {y : TM} {o o' : Own} (hn : (txs.map TM.n).Nodup) (hy : y ∈ txs) (hf : ∀ z, (f z).ent = z.ent) (hu : Upd (txL y) o o' (txL (f y))) : Upd (SL b ba nx sp cl txs) o o' (SL b ba nx sp cl (setTx y.n f txs)) := by
  unfold SL
  rw [setTx_ent hf]
  exact .there (.there (upd_flat hn hy hu))
def getTx (k : Nat) (txs : List TM) : Option TM := txs.find? fun z => decide (z.n = k)
theorem get_mem {k : Nat} {txs : List TM} {y : TM} (h : getTx k txs = some y) : y ∈ txs ∧ y.n = k := by
  unfold getTx at h
  exact ⟨List.mem_of_find?_eq_some h, by simpa using List.find?_some h⟩
theorem get_of_mem {txs : List TM} (hn : (txs.map TM.n).Nodup) {y : TM} (hy : y ∈ txs) : getTx y.n txs = some y := by
  induction txs with
  | nil => cases hy
  | cons z txs ih =>
    rw [List.map_cons, List.nodup_cons] at hn
    rw [getTx, List.find?_cons]
    rcases List.mem_cons.1 hy with rfl | hy
    · simp
    · have : z.n ≠ y.n := fun e => hn.1 (by rw [e]; exact List.mem_map_of_mem hy)
      simp only [this, decide_false]
      exact ih hn.2 hy
def txP (k : Nat) (txs : List TM) : Value := match getTx k txs with | some y => .pointer (some ⟨y.b, 0, none⟩) | none => .pointer none
theorem mget_all (k : Nat) : ∀ (txs : List TM), (mGet (k : Int) (txs.map TM.ent)).getD (.pointer none) = txP k txs
  | [] => rfl
  | z :: txs => by
    rw [List.map_cons, mGet, txP, getTx, List.find?_cons]
    by_cases h : z.n = k
    · simp [TM.ent, h]
    · have h1 : ¬ ((k : Int) = (z.n : Int)) := by omega
      have h2 := mget_all k txs
      rw [txP, getTx] at h2
      simp only [TM.ent, h1, if_false, h, decide_false]
      exact h2
theorem mget_neg {k : Int} (hk : k < 0) : ∀ (txs : List TM), mGet k (txs.map TM.ent) = none
  | [] => rfl
  | z :: txs => by
    rw [List.map_cons, mGet, if_neg (by simp only [TM.ent]; omega)]
    exact mget_neg hk txs
def delTx (k : Nat) (txs : List TM) : List TM := txs.filter fun z => !decide (z.n = k)
theorem mdel_all {k : Nat} : ∀ {txs : List TM}, (txs.map TM.n).Nodup → mDel (k : Int) (txs.map TM.ent) = (delTx k txs).map TM.ent
  | [], _ => rfl
  | z :: txs, hn => by
    rw [List.map_cons, List.nodup_cons] at hn
    rw [List.map_cons, mDel, delTx, List.filter_cons]
    by_cases h : z.n = k
    · have hnone : ∀ x ∈ txs, ¬ x.n = k := fun x hx e => hn.1 (by rw [h, ← e]; exact List.mem_map_of_mem hx)
      have hf : txs.filter (fun z => !decide (z.n = k)) = txs := List.filter_eq_self.2 fun x hx => by simp [hnone x hx]
      simp [TM.ent, h, hf]
    · have h1 : ¬ ((k : Int) = (z.n : Int)) := by omega
      simp only [TM.ent, h1, if_false, h, decide_false, Bool.not_false, if_true, List.map_cons]
      exact congrArg _ (mdel_all hn.2)
theorem flat_sub {α β : Type} (f : α → List β) {l l' : List α} (h : l.Sublist l') : (l.flatMap f).Sublist (l'.flatMap f) := by
  induction h with
  | slnil => exact .slnil
  | cons a _ ih => rw [List.flatMap_cons]; exact ih.trans (List.sublist_append_right _ _)
  | cons_cons a _ ih => rw [List.flatMap_cons, List.flatMap_cons]; exact List.Sublist.append (.refl _) ih
theorem SL_del {k : Nat} : (SL b ba nx sp cl (delTx k txs)).Sublist (⟨b, ty_ssi_Set, .is (setV ba nx sp)⟩ :: ⟨ba, 0, .ob (mObj ((delTx k txs).map TM.ent) cl)⟩ :: txs.flatMap txL) := by
  unfold SL
  refine List.Sublist.cons_cons _ (List.Sublist.cons_cons _ ?_)
  exact flat_sub txL List.filter_sublist
end
section
variable {P : Program} {c : Ctx} {K : List (Nat × Ty)} {L L' : List Own} {Φ : List (World → Prop)} {Q : Exit → Act → World → Prop}
theorem _root_.Go.Vc.JO.sub {ops : Array Oper} {l : List Oper} (hp : L'.Sublist L) (h : JO P c K L' Φ ops l Q) : JO P c K L Φ ops l Q :=
  ⟨fun E a w hs => h.out E a w (hs.sub (fun _ _ => id) (fun o ho => hp.subset ho) ((hp.map _).nodup hs.ld) (fun _ => id))⟩
theorem _root_.Go.Vc.J.subS {x : Code} (hp : L'.Sublist L) (h : J P c K L' Φ x Q) : J P c K L Φ x Q :=
  ⟨fun E a w hs => h.out E a w (hs.sub (fun _ _ => id) (fun o ho => hp.subset ho) ((hp.map _).nodup hs.ld) (fun _ => id))⟩
end
def lf (txs : List TM) (seen : Array Nat) : List TM := txs.filter fun t => !seen.contains t.st
theorem lf_none (txs : List TM) : lf txs #[] = txs := List.filter_eq_self.2 fun _ _ => by simp
theorem lf_push {txs : List TM} (hn : (txs.map TM.st).Nodup) {seen : Array Nat} {y : TM} (hy : y ∈ txs) (hs : y.st ∉ seen) : (lf txs seen).Perm (y :: lf txs (seen.push y.st)) := by
  induction txs with
  | nil => cases hy
  | cons z txs ih =>
    rw [List.map_cons, List.nodup_cons] at hn
    unfold lf at ih ⊢
    rw [List.filter_cons, List.filter_cons]
    rcases List.mem_cons.1 hy with rfl | hy
    · have h1 : (!seen.contains y.st) = true := by simpa using hs
      have h2 : (!(seen.push y.st).contains y.st) = false := by simp
      rw [h1, h2, if_pos rfl, if_neg (by simp)]
      refine List.Perm.cons _ (List.Perm.of_eq (List.filter_congr fun x hx => ?_))
      have : x.st ≠ y.st := fun e => hn.1 (by rw [← e]; exact List.mem_map_of_mem hx)
      rw [Array.contains_push]
      simp [this]
    · have hne : z.st ≠ y.st := fun e => hn.1 (by rw [e]; exact List.mem_map_of_mem hy)
      have h1 : (seen.push y.st).contains z.st = seen.contains z.st := by rw [Array.contains_push]; simp [hne]
      rw [h1]
      by_cases hz : seen.contains z.st = true
      · rw [hz]
        simpa using ih hn.2 hy
      · have hz' : seen.contains z.st = false := by simpa using hz
        rw [hz']
        simp only [Bool.not_false, if_true]
        exact (List.Perm.cons _ (ih hn.2 hy)).trans (List.Perm.swap _ _ _)
theorem lf_end {txs : List TM} {seen : Array Nat} (h : ∀ e ∈ txs.map TM.ent, e.2.2 ∈ seen) : lf txs seen = [] := by
  unfold lf
  rw [List.filter_eq_nil_iff]
  intro x hx
  have := h x.ent (List.mem_map_of_mem hx)
  simpa [TM.ent] using this
theorem ent_mem {txs : List TM} {e : Int × Value × Nat} (h : e ∈ txs.map TM.ent) : ∃ y ∈ txs, e = y.ent := by
  obtain ⟨y, hy, rfl⟩ := List.mem_map.1 h
  exact ⟨y, hy, rfl⟩
theorem any_push {txs : List TM} (hn : (txs.map TM.st).Nodup) {seen : Array Nat} {y : TM} (hy : y ∈ txs) (hs : y.st ∉ seen) (p : TM → Bool) : (lf txs seen).any p = (p y || (lf txs (seen.push y.st)).any p) := by
  rw [(lf_push hn hy hs).any_eq, List.any_cons]
theorem lf_lt {txs : List TM} (hn : (txs.map TM.st).Nodup) {seen : Array Nat} {y : TM} (hy : y ∈ txs) (hs : y.st ∉ seen) : (lf txs (seen.push y.st)).length < (lf txs seen).length := by
  rw [(lf_push hn hy hs).length_eq, List.length_cons]; omega
end Go.Si
set_option maxRecDepth 20000
namespace Go.Proofs.Ytggmifnkgcladaa
open Go Go.Vc
open Go.Si
def pvM (t : TM) : Bool := (t.wi || decide (0 < t.inn.length)) && (t.wo || decide (0 < t.out.length))
theorem c_p_ssi_tx_pivot (t : TM) : CallL Try.prog f_p_ssi_tx_pivot (tx3 t) [] [.is (.pointer (some ⟨t.b, 0, none⟩))] (fun _ : Unit => True) (fun _ => tx3 t) (fun _ => .is (.bool (pvM t))) :=
CallL.of (fn := Try.f28) Try.func28 (n := 29) rfl rfl rfl (fun _ _ => by kernel_rfl) fun E W hb0 => by
  show J _ _ _ [⟨t.b, ty_ssi_tx, .is (.agg t.cs.toArray)⟩, ⟨t.bi, 0, .ob (mObj t.inn t.ic)⟩, ⟨t.bo, 0, .ob (mObj t.out t.oc)⟩] _ _ _
  repeat refine J.seq ?_
  refine J.plain ?_
  refine JO.t (ob_assign rfl) rfl ?_
  refine JO.nil ?_
  repeat (first | refine JX.next ?_ | refine JX.normal_block ?_)
  refine J.sel [0] (.cons rfl .nil) ?_
  repeat refine J.seq ?_
  refine J.reg0 hmx (by kernel_rfl) (by kernel_rfl) ?_
  refine RT.t (ob_move rfl) ?_
  refine RT.t (ob_nilCheck rfl) ?_
  refine RT.t (ob_fieldAddr fo_ssi_tx_6 rfl) ?_
  refine RT.t (ob_ld1 sz_bool rfl rfl) ?_
  refine RT.t (ob_move rfl) ?_
  refine RT.g rfl rfl rfl (fun hg => ob_move (.inl rfl)) ?_
  refine RT.g rfl rfl rfl (fun hg => ob_nilCheck (.inr ⟨_, rfl, fun h => h⟩)) ?_
  refine RT.g rfl rfl rfl (fun hg => ob_fieldAddr fo_ssi_tx_4 (.inr ⟨_, rfl, fun h => h⟩)) ?_
  refine RT.g rfl rfl rfl (fun hg => ob_ld1 sz_map_int_bool (.inr ⟨_, rfl, fun h => h⟩) rfl) ?_
  refine RT.g rfl rfl rfl (fun hg => ob_mlenI un_map_int_bool (.inr ⟨_, rfl, fun h => h⟩)) ?_
  refine RT.g rfl rfl rfl (fun hg => ob_gtr (.inr ⟨_, rfl, fun h => h⟩) (.inl rfl)) ?_
  refine RT.t (ob_pickOr rfl rfl rfl id) ?_
  refine RT.t (ob_move rfl) ?_
  refine RT.g rfl rfl rfl (fun hg => ob_move (.inl rfl)) ?_
  refine RT.g rfl rfl rfl (fun hg => ob_nilCheck (.inr ⟨_, rfl, fun h => h⟩)) ?_
  refine RT.g rfl rfl rfl (fun hg => ob_fieldAddr fo_ssi_tx_7 (.inr ⟨_, rfl, fun h => h⟩)) ?_
  refine RT.g rfl rfl rfl (fun hg => ob_ld1 sz_bool (.inr ⟨_, rfl, fun h => h⟩) rfl) ?_
  refine RT.g rfl rfl rfl (fun hg => ob_move (.inr ⟨_, rfl, fun h => h⟩)) ?_
  refine RT.gg rfl rfl rfl (fun hg => (ob_move (.inl rfl))) ?_
  refine RT.gg rfl rfl rfl (fun hg => (ob_nilCheck (.inr ⟨_, rfl, fun h => h⟩))) ?_
  refine RT.gg rfl rfl rfl (fun hg => (ob_fieldAddr fo_ssi_tx_5 (.inr ⟨_, rfl, fun h => h⟩))) ?_
  refine RT.gg rfl rfl rfl (fun hg => (ob_ld1 sz_map_int_bool (.inr ⟨_, rfl, fun h => h⟩) rfl)) ?_
  refine RT.gg rfl rfl rfl (fun hg => (ob_mlenI un_map_int_bool (.inr ⟨_, rfl, fun h => h⟩))) ?_
  refine RT.gg rfl rfl rfl (fun hg => (ob_gtr (.inr ⟨_, rfl, fun h => h⟩) (.inl rfl))) ?_
  refine RT.g rfl rfl rfl (fun hg => ob_pickOr (.inr ⟨_, rfl, fun h => h⟩) (.inl rfl) (.inl rfl) (fun h => ⟨hg, h⟩)) ?_
  refine RT.t (ob_pickAnd rfl rfl rfl id) ?_
  refine RT.t (ob_assign rfl) ?_
  refine RT.nil ?_
  refine FinS.nil0 ?_
  repeat (first | refine JX.next ?_ | refine JX.normal_block ?_)
  refine J.sel [2] (.cons rfl .nil) ?_
  repeat refine J.seq ?_
  refine J.ret ?_
  repeat (first | refine JX.ret_pass ?_ | refine JX.ret_block ?_)
  exact JX.retL1 (Lr := []) (L1 := fun _ : Unit => tx3 t) rfl () trivial (List.Perm.of_eq (List.append_nil _).symm) (ob_out (tx3_ob t)) rfl hb0 rfl (Sub.isEq (by simp [pvM]))
end Go.Proofs.Ytggmifnkgcladaa
namespace Go.Si
open Go Go.Vc Go.Proofs.Ytggmifnkgcladaa
def tm0 : TM := ⟨0, 0, 0, 0, 0, 0, 0, none, 0, [], none, 0, [], [], 0, [], 0, false, false⟩
structure EOk (l : MEs) (cl : Nat) : Prop where
  st : (l.map (·.2.2)).Nodup
  lt : ∀ e ∈ l, e.2.2 < cl
  ky : (l.map (·.1)).Nodup
theorem EOk.nil : EOk [] 0 := ⟨by simp, by simp, by simp⟩
theorem mHas_iff {n : Int} {l : MEs} : mHas n l = true ↔ n ∈ l.map (·.1) := by
  induction l with
  | nil => simp [mHas]
  | cons e l ih =>
    rw [mHas, Bool.or_eq_true, decide_eq_true_eq, ih, List.map_cons, List.mem_cons]
theorem mHas_false {n : Int} {l : MEs} : mHas n l = false ↔ n ∉ l.map (·.1) := by
  rw [← mHas_iff]; simp
def mAdd1 (n : Int) (l : MEs) (cl : Nat) : MEs := if mHas n l then l else l ++ [(n, .bool false, cl)]
def mAddC (n : Int) (l : MEs) (cl : Nat) : Nat := if mHas n l then cl else cl + 1
def mAdd (n : Int) (l : MEs) (cl : Nat) : MEs := (mAdd1 n l cl).map fun x => if x.2.2 = mStamp n l cl then (x.1, .bool true, x.2.2) else x
theorem mAdd1_ok {l : MEs} {cl : Nat} (h : EOk l cl) (n : Int) : EOk (mAdd1 n l cl) (mAddC n l cl) := by
  unfold mAdd1 mAddC
  split
  · exact h
  · rename_i hn
    have hn' : n ∉ l.map (·.1) := mHas_false.1 (by simpa using hn)
    refine ⟨?_, fun e he => ?_, ?_⟩
    · rw [List.map_append, List.nodup_append]
      refine ⟨h.st, by simp, fun a ha b hb => ?_⟩
      simp only [List.map_cons, List.map_nil, List.mem_singleton] at hb
      obtain ⟨e, he, rfl⟩ := List.mem_map.1 ha
      have := h.lt e he
      omega
    · rcases List.mem_append.1 he with he | he
      · have := h.lt e he; omega
      · rw [List.mem_singleton.1 he]; exact Nat.lt_succ_self _
    · rw [List.map_append, List.nodup_append]
      refine ⟨h.ky, by simp, fun a ha b hb => ?_⟩
      simp only [List.map_cons, List.map_nil, List.mem_singleton] at hb
      subst hb
      exact fun e => hn' (e ▸ ha)
theorem mAdd_st (n : Int) (l : MEs) (cl : Nat) : (mAdd n l cl).map (·.2.2) = (mAdd1 n l cl).map (·.2.2) := by
  unfold mAdd
  rw [List.map_map]
  refine List.map_congr_left fun x _ => ?_
  show (if x.2.2 = _ then (x.1, Value.bool true, x.2.2) else x).2.2 = x.2.2
  split <;> rfl
theorem mAdd_ky (n : Int) (l : MEs) (cl : Nat) : (mAdd n l cl).map (·.1) = (mAdd1 n l cl).map (·.1) := by
  unfold mAdd
  rw [List.map_map]
  refine List.map_congr_left fun x _ => ?_
  show (if x.2.2 = _ then (x.1, Value.bool true, x.2.2) else x).1 = x.1
  split <;> rfl
theorem EOk.add {l : MEs} {cl : Nat} (h : EOk l cl) (n : Int) : EOk (mAdd n l cl) (mAddC n l cl) := by
  have h1 := mAdd1_ok h n
  refine ⟨by rw [mAdd_st]; exact h1.st, fun e he => ?_, by rw [mAdd_ky]; exact h1.ky⟩
  have : e.2.2 ∈ (mAdd1 n l cl).map (·.2.2) := by rw [← mAdd_st]; exact List.mem_map_of_mem he
  obtain ⟨e', he', h2⟩ := List.mem_map.1 this
  rw [← h2]
  exact h1.lt e' he'
theorem mHas_add {n k : Int} {l : MEs} {cl : Nat} : mHas k (mAdd n l cl) = (mHas k l || decide (k = n)) := by
  have : mHas k (mAdd n l cl) = mHas k (mAdd1 n l cl) := by
    rw [Bool.eq_iff_iff, mHas_iff, mHas_iff, mAdd_ky]
  rw [this, mAdd1]
  split
  · rename_i hn
    by_cases hk : k = n
    · subst hk; simp [hn]
    · simp [hk]
  · rw [Bool.eq_iff_iff, mHas_iff, Bool.or_eq_true, mHas_iff, List.map_append, List.mem_append]
    simp
theorem stamp_mem {n : Int} {l : MEs} {cl : Nat} : mStamp n l cl ∈ (mAdd1 n l cl).map (·.2.2) := by
  unfold mStamp mAdd1
  cases hf : l.find? (fun x => decide (n = x.1)) with
  | none =>
    have : mHas n l = false := by
      rw [mHas_false]
      intro hm
      obtain ⟨e, he, rfl⟩ := List.mem_map.1 hm
      have := List.find?_eq_none.1 hf e he
      simp at this
    rw [this]
    simp
  | some e =>
    have hm := List.mem_of_find?_eq_some hf
    have hk := List.find?_some hf
    have : mHas n l = true := mHas_iff.2 (by
      have : n = e.1 := by simpa using hk
      rw [this]; exact List.mem_map_of_mem hm)
    rw [if_pos this]
    exact List.mem_map_of_mem hm
def sk (l : MEs) (seen : Array Nat) : List Int := (l.filter fun e => seen.contains e.2.2).map (·.1)
theorem sk_none (l : MEs) : sk l #[] = [] := by simp [sk]
theorem sk_all {l : MEs} {seen : Array Nat} (h : ∀ e ∈ l, e.2.2 ∈ seen) : sk l seen = l.map (·.1) := by
  unfold sk
  rw [List.filter_eq_self.2 fun e he => by simpa using h e he]
theorem sk_push {l : MEs} {cl : Nat} (h : EOk l cl) {seen : Array Nat} {e : Int × Value × Nat} (he : e ∈ l) (k : Int) : k ∈ sk l (seen.push e.2.2) ↔ k ∈ sk l seen ∨ k = e.1 := by
  unfold sk
  simp only [List.mem_map, List.mem_filter, Array.contains_push, Bool.or_eq_true, beq_iff_eq]
  constructor
  · rintro ⟨x, ⟨hx, h1 | h1⟩, rfl⟩
    · exact .inl ⟨x, ⟨hx, h1⟩, rfl⟩
    · refine .inr ?_
      have := List.pairwise_iff_getElem.1 h.st
      obtain ⟨i, hi, rfl⟩ := List.getElem_of_mem hx
      obtain ⟨j, hj, rfl⟩ := List.getElem_of_mem he
      rcases Nat.lt_trichotomy i j with h' | h' | h'
      · exact absurd (by rw [List.getElem_map, List.getElem_map]; exact h1) (this i j (by simpa using hi) (by simpa using hj) h')
      · subst h'; rfl
      · exact absurd (by rw [List.getElem_map, List.getElem_map]; exact h1.symm) (this j i (by simpa using hj) (by simpa using hi) h')
  · rintro (⟨x, ⟨hx, h1⟩, rfl⟩ | rfl)
    · exact ⟨x, ⟨hx, .inl h1⟩, rfl⟩
    · exact ⟨e, ⟨he, .inr rfl⟩, rfl⟩
theorem sk_new {l : MEs} {cl : Nat} (h : EOk l cl) {seen : Array Nat} {e : Int × Value × Nat} (he : e ∈ l) (hs : e.2.2 ∉ seen) : e.1 ∉ sk l seen := by
  unfold sk
  simp only [List.mem_map, List.mem_filter, not_exists, not_and, and_imp]
  intro x hx h1 h2
  have := List.pairwise_iff_getElem.1 h.ky
  obtain ⟨i, hi, rfl⟩ := List.getElem_of_mem hx
  obtain ⟨j, hj, rfl⟩ := List.getElem_of_mem he
  rcases Nat.lt_trichotomy i j with h' | h' | h'
  · exact absurd (by rw [List.getElem_map, List.getElem_map]; exact h2) (this i j (by simpa using hi) (by simpa using hj) h')
  · subst h'; exact hs (by simpa using h1)
  · exact absurd (by rw [List.getElem_map, List.getElem_map]; exact h2.symm) (this j i (by simpa using hj) (by simpa using hi) h')
def le_ (l : MEs) (seen : Array Nat) : Nat := (l.filter fun e => !seen.contains e.2.2).length
theorem le_lt {l : MEs} {seen : Array Nat} {e : Int × Value × Nat} (he : e ∈ l) (hs : e.2.2 ∉ seen) : le_ l (seen.push e.2.2) < le_ l seen := by
  unfold le_
  refine filter_lt _ _ (fun x hx => ?_) e (by simpa using hs) (by simp) l he
  rw [Array.contains_push] at hx
  simp only [Bool.not_or, Bool.and_eq_true] at hx
  exact hx.1
def mpF (F : TM → TM) (ks : List Int) (txs : List TM) : List TM := txs.map fun z => if (z.n : Int) ∈ ks then F z else z
theorem mpF_nil (F : TM → TM) (txs : List TM) : mpF F [] txs = txs := by simp [mpF]
theorem mpF_ent {F : TM → TM} (hF : ∀ z, (F z).ent = z.ent) (ks : List Int) (txs : List TM) : (mpF F ks txs).map TM.ent = txs.map TM.ent := by
  unfold mpF
  rw [List.map_map]
  refine List.map_congr_left fun z _ => ?_
  show (if _ then F z else z).ent = z.ent
  split
  · exact hF z
  · rfl
theorem ent_n {z z' : TM} (h : z'.ent = z.ent) : z'.n = z.n := by
  unfold TM.ent at h
  injection h with h1 h2
  omega
theorem ent_st {z z' : TM} (h : z'.ent = z.ent) : z'.st = z.st := by
  unfold TM.ent at h
  injection h with h1 h2
  injection h2 with h2 h3
theorem map_n {txs txs' : List TM} (h : txs'.map TM.ent = txs.map TM.ent) : txs'.map TM.n = txs.map TM.n := by
  have := congrArg (List.map fun e : Int × Value × Nat => e.1.toNat) h
  rw [List.map_map, List.map_map] at this
  refine Eq.trans ?_ (this.trans ?_) <;> refine List.map_congr_left fun z _ => ?_ <;> simp [TM.ent]
theorem map_st {txs txs' : List TM} (h : txs'.map TM.ent = txs.map TM.ent) : txs'.map TM.st = txs.map TM.st := by
  have := congrArg (List.map fun e : Int × Value × Nat => e.2.2) h
  rw [List.map_map, List.map_map] at this
  exact this
theorem mpF_step {F : TM → TM} (hF : ∀ z, (F z).ent = z.ent) {ks ks' : List Int} {k : Nat} (hk : ∀ j, j ∈ ks' ↔ j ∈ ks ∨ j = (k : Int)) (hn : (k : Int) ∉ ks) (txs : List TM) : mpF F ks' txs = setTx k F (mpF F ks txs) := by
  unfold mpF setTx
  rw [List.map_map]
  refine List.map_congr_left fun z _ => ?_
  show (if (z.n : Int) ∈ ks' then F z else z) = if (if (z.n : Int) ∈ ks then F z else z).n = k then F (if (z.n : Int) ∈ ks then F z else z) else (if (z.n : Int) ∈ ks then F z else z)
  by_cases h : (z.n : Int) ∈ ks
  · rw [if_pos ((hk _).2 (.inl h)), if_pos h, if_neg]
    rw [ent_n (hF z)]
    intro e
    exact hn (e ▸ h)
  · rw [if_neg h]
    by_cases h2 : z.n = k
    · rw [if_pos ((hk _).2 (.inr (by rw [h2]))), if_pos h2]
    · rw [if_neg (fun h3 => ((hk _).1 h3).elim h (fun e => h2 (by omega))), if_neg h2]
theorem mpF_mem {F : TM → TM} {ks : List Int} {txs : List TM} {x : TM} (hx : x ∈ txs) (hn : (x.n : Int) ∉ ks) : x ∈ mpF F ks txs := List.mem_map.2 ⟨x, hx, if_neg hn⟩
theorem mpF_get {F : TM → TM} {ks : List Int} {txs : List TM} {x : TM} (hx : x ∈ txs) : (if (x.n : Int) ∈ ks then F x else x) ∈ mpF F ks txs := List.mem_map.2 ⟨x, hx, rfl⟩
theorem mget_mem {txs : List TM} (hn : (txs.map TM.n).Nodup) {y : TM} (hy : y ∈ txs) : (mGet (y.n : Int) (txs.map TM.ent)).getD (.pointer none) = .pointer (some ⟨y.b, 0, none⟩) := by
  rw [mget_all, txP, get_of_mem hn hy]
theorem oP_some {o : Option TM} {oP : Option TM → Option Addr} (h0 : oP none = none) (h1 : ∀ x, oP (some x) = some ⟨x.b, 0, none⟩) (h : (oP o).isNone = false) : oP o = some ⟨(o.getD tm0).b, 0, none⟩ := by
  cases o with
  | none => rw [h0] at h; cases h
  | some x => rw [h1]; rfl
section
variable {b ba nx sp cl : Nat} {txs : List TM}
theorem flat_one {y : TM} : ∀ {txs : List TM}, y ∈ txs → (txL y).Sublist (txs.flatMap txL)
  | z :: txs, h => by
    rw [List.flatMap_cons]
    rcases List.mem_cons.1 h with rfl | h
    · exact List.sublist_append_left _ _
    · exact (flat_one h).trans (List.sublist_append_right _ _)
theorem tx_sub {y : TM} (hy : y ∈ txs) : (txL y).Sublist (SL b ba nx sp cl txs) := ((flat_one hy).cons _).cons _
theorem tx3_sub {y : TM} (hy : y ∈ txs) : (tx3 y).Sublist (SL b ba nx sp cl txs) := (List.sublist_append_left _ _).trans (tx_sub hy)
theorem tx3_nd {y : TM} {L : List Own} (hs : (SL b ba nx sp cl txs).Sublist L) (hy : y ∈ txs) (h : (L.map (·.b)).Nodup) : ((tx3 y).map (·.b)).Nodup := (((tx3_sub hy).trans hs).map _).nodup h
end
end Go.Si
namespace Go.Si
open Go Go.Vc
theorem mDel_filter {n : Int} : ∀ {l : MEs}, (l.map (·.1)).Nodup → mDel n l = l.filter fun e => !decide (e.1 = n)
  | [], _ => rfl
  | e :: l, h => by
    rw [List.map_cons, List.nodup_cons] at h
    rw [mDel, List.filter_cons]
    by_cases hn : n = e.1
    · rw [if_pos hn]
      have : (!decide (e.1 = n)) = false := by simp [hn]
      rw [this, if_neg (by simp)]
      refine (List.filter_eq_self.2 fun x hx => ?_).symm
      have : x.1 ≠ n := fun e' => h.1 (by rw [← hn, ← e']; exact List.mem_map_of_mem hx)
      simp [this]
    · rw [if_neg hn]
      have hne : ¬ e.1 = n := fun e' => hn e'.symm
      have : (!decide (e.1 = n)) = true := by simp [hne]
      rw [this, if_pos rfl, mDel_filter h.2]
theorem EOk.filter {l : MEs} {cl : Nat} (h : EOk l cl) (p : Int × Value × Nat → Bool) : EOk (l.filter p) cl :=
  ⟨(List.filter_sublist.map _).nodup h.st, fun e he => h.lt e (List.filter_sublist.subset he), (List.filter_sublist.map _).nodup h.ky⟩
structure Wf (cl : Nat) (txs : List TM) : Prop where
  n : (txs.map TM.n).Nodup
  st : (txs.map TM.st).Nodup
  lt : ∀ y ∈ txs, y.st < cl
  inn : ∀ x ∈ txs, EOk x.inn x.ic
  out : ∀ x ∈ txs, EOk x.out x.oc
  cin : ∀ x ∈ txs, ∀ k, mHas k x.inn = true → ∃ y ∈ txs, (y.n : Int) = k ∧ y.n ≠ x.n
  cou : ∀ x ∈ txs, ∀ k, mHas k x.out = true → ∃ y ∈ txs, (y.n : Int) = k ∧ y.n ≠ x.n
  dual : ∀ x ∈ txs, ∀ y ∈ txs, mHas y.n x.out = mHas x.n y.inn
  rs : ∀ x ∈ txs, Grows Rd.cells 8 x.reads x.rs x.rc
  ws : ∀ x ∈ txs, Grows WrA.cells 3 x.writes x.ws x.wc
theorem mHas_filter {k : Int} {l : MEs} {p : Int → Bool} : mHas k (l.filter fun e => p e.1) = (mHas k l && p k) := by
  induction l with
  | nil => rfl
  | cons e l ih =>
    rw [List.filter_cons]
    by_cases hp : p e.1 = true
    · rw [if_pos hp, mHas, mHas, ih]
      by_cases hk : k = e.1
      · subst hk; simp [hp]
      · simp [hk]
    · rw [if_neg hp, ih, mHas]
      by_cases hk : k = e.1
      · subst hk
        have : p e.1 = false := by simpa using hp
        simp [this]
      · simp [hk]
def cutT (w : Bool) (D : List Nat) (k : TM) : TM :=
  { k with out := k.out.filter fun e => !D.any fun d => decide ((d : Int) = e.1), inn := k.inn.filter fun e => !D.any fun d => decide ((d : Int) = e.1), wo := k.wo || (w && D.any fun d => mHas d k.out), wi := k.wi || (w && D.any fun d => mHas d k.inn) }
theorem cutT_n (w : Bool) (D : List Nat) (k : TM) : (cutT w D k).n = k.n := rfl
def fgM (w : Bool) (D : List Nat) (txs : List TM) : List TM := (txs.filter fun k => !D.contains k.n).map (cutT w D)
theorem fg_mem {w : Bool} {D : List Nat} {txs : List TM} {z : TM} (h : z ∈ fgM w D txs) : ∃ k ∈ txs, k.n ∉ D ∧ z = cutT w D k := by
  obtain ⟨k, hk, rfl⟩ := List.mem_map.1 h
  rw [List.mem_filter] at hk
  exact ⟨k, hk.1, by simpa using hk.2, rfl⟩
theorem mem_fg {w : Bool} {D : List Nat} {txs : List TM} {k : TM} (hk : k ∈ txs) (h : k.n ∉ D) : cutT w D k ∈ fgM w D txs := List.mem_map_of_mem (List.mem_filter.2 ⟨hk, by simpa using h⟩)
theorem has_cut {w : Bool} {D : List Nat} {k : TM} (i : Int) : mHas i (cutT w D k).out = (mHas i k.out && !D.any fun d => decide ((d : Int) = i)) := mHas_filter (p := fun i => !D.any fun d => decide ((d : Int) = i))
theorem has_cut' {w : Bool} {D : List Nat} {k : TM} (i : Int) : mHas i (cutT w D k).inn = (mHas i k.inn && !D.any fun d => decide ((d : Int) = i)) := mHas_filter (p := fun i => !D.any fun d => decide ((d : Int) = i))
theorem any_num {D : List Nat} {n : Nat} : (D.any fun d => decide ((d : Int) = (n : Int))) = D.contains n := by
  rw [Bool.eq_iff_iff]
  simp only [List.any_eq_true, decide_eq_true_eq, List.contains_iff_mem]
  constructor
  · rintro ⟨d, hd, h⟩
    have : d = n := by omega
    subst this
    exact hd
  · intro h
    exact ⟨n, h, rfl⟩
theorem Wf.fg {cl : Nat} {txs : List TM} (h : Wf cl txs) (w : Bool) (D : List Nat) : Wf cl (fgM w D txs) := by
  have hsub : ((fgM w D txs).map TM.ent).Sublist (txs.map TM.ent) := by
    unfold fgM
    rw [List.map_map]
    exact List.filter_sublist.map TM.ent
  refine ⟨?_, ?_, ?_, ?_, ?_, ?_, ?_, ?_, ?_, ?_⟩
  · unfold fgM
    rw [List.map_map]
    exact (List.filter_sublist.map TM.n).nodup h.n
  · unfold fgM
    rw [List.map_map]
    exact (List.filter_sublist.map TM.st).nodup h.st
  · intro z hz
    obtain ⟨k, hk, _, rfl⟩ := fg_mem hz
    exact h.lt k hk
  · intro z hz
    obtain ⟨k, hk, _, rfl⟩ := fg_mem hz
    exact (h.inn k hk).filter _
  · intro z hz
    obtain ⟨k, hk, _, rfl⟩ := fg_mem hz
    exact (h.out k hk).filter _
  · intro z hz i hi
    obtain ⟨k, hk, _, rfl⟩ := fg_mem hz
    rw [has_cut', Bool.and_eq_true] at hi
    obtain ⟨y, hy, hyn, hne⟩ := h.cin k hk i hi.1
    refine ⟨cutT w D y, mem_fg hy ?_, hyn, hne⟩
    have := hi.2
    rw [← hyn, any_num] at this
    simpa using this
  · intro z hz i hi
    obtain ⟨k, hk, _, rfl⟩ := fg_mem hz
    rw [has_cut, Bool.and_eq_true] at hi
    obtain ⟨y, hy, hyn, hne⟩ := h.cou k hk i hi.1
    refine ⟨cutT w D y, mem_fg hy ?_, hyn, hne⟩
    have := hi.2
    rw [← hyn, any_num] at this
    simpa using this
  · intro z hz z' hz'
    obtain ⟨k, hk, hkD, rfl⟩ := fg_mem hz
    obtain ⟨k', hk', hkD', rfl⟩ := fg_mem hz'
    rw [has_cut, has_cut', cutT_n, cutT_n, h.dual k hk k' hk', any_num, any_num]
    simp [hkD, hkD']
  · intro z hz
    obtain ⟨k, hk, _, rfl⟩ := fg_mem hz
    exact h.rs k hk
  · intro z hz
    obtain ⟨k, hk, _, rfl⟩ := fg_mem hz
    exact h.ws k hk
def lessO (w : Bool) (n : Nat) (z : TM) : TM := { z with out := mDel n z.out, wo := w || z.wo }
def lessI (w : Bool) (n : Nat) (z : TM) : TM := { z with inn := mDel n z.inn, wi := w || z.wi }
def keys (l : MEs) : List Int := l.map (·.1)
theorem del_map {f : TM → TM} {n : Nat} {l : List TM} (h : ∀ k, (f k).n = k.n) : delTx n (l.map f) = (l.filter fun k => !decide (k.n = n)).map f := by
  unfold delTx
  rw [List.filter_map]
  congr 1
  refine List.filter_congr fun k _ => ?_
  show (!decide ((f k).n = n)) = _
  rw [h]
theorem drop_step {cl : Nat} {txs : List TM} (h : Wf cl txs) {w : Bool} {D : List Nat} {x : TM} (hx : x ∈ txs) (hD : x.n ∉ D) :
    delTx x.n (mpF (lessI w x.n) (keys (cutT w D x).out) (mpF (lessO w x.n) (keys (cutT w D x).inn) (fgM w D txs))) = fgM w (x.n :: D) txs := by
  have hf : (txs.filter fun k => !(x.n :: D).contains k.n) = (txs.filter fun k => !D.contains k.n).filter fun k => !decide (k.n = x.n) := by
    rw [List.filter_filter]
    refine List.filter_congr fun k _ => ?_
    rw [Bool.eq_iff_iff]
    simp
  unfold mpF fgM
  rw [List.map_map, List.map_map, del_map, hf]
  rotate_left
  · intro k
    show (if (((if ((cutT w D k).n : Int) ∈ keys (cutT w D x).inn then lessO w x.n (cutT w D k) else cutT w D k) : TM).n : Int) ∈ keys (cutT w D x).out then lessI w x.n (if ((cutT w D k).n : Int) ∈ keys (cutT w D x).inn then lessO w x.n (cutT w D k) else cutT w D k) else (if ((cutT w D k).n : Int) ∈ keys (cutT w D x).inn then lessO w x.n (cutT w D k) else cutT w D k)).n = k.n
    split <;> split <;> rfl
  refine List.map_congr_left fun k hk => ?_
  rw [List.mem_filter, List.mem_filter] at hk
  obtain ⟨⟨hk, hkD⟩, hkx⟩ := hk
  have hkD' : k.n ∉ D := by simpa using hkD
  have hkx' : k.n ≠ x.n := by simpa using hkx
  have hko := h.out k hk
  have hki := h.inn k hk
  have hin : ((k.n : Int) ∈ keys (cutT w D x).inn) ↔ mHas x.n k.out = true := by
    unfold keys
    rw [← mHas_iff, has_cut', any_num, h.dual k hk x hx]
    simp [hkD']
  have hou : ((k.n : Int) ∈ keys (cutT w D x).out) ↔ mHas x.n k.inn = true := by
    unfold keys
    rw [← mHas_iff, has_cut, any_num, ← h.dual x hx k hk]
    simp [hkD']
  have fo : (mHas x.n k.out = true → mDel x.n (k.out.filter fun e => !D.any fun d => decide ((d : Int) = e.1)) = k.out.filter fun e => !(x.n :: D).any fun d => decide ((d : Int) = e.1)) ∧ (mHas x.n k.out = false → (k.out.filter fun e => !D.any fun d => decide ((d : Int) = e.1)) = k.out.filter fun e => !(x.n :: D).any fun d => decide ((d : Int) = e.1)) := by
    have gen : (k.out.filter fun e => !(x.n :: D).any fun d => decide ((d : Int) = e.1)) = (k.out.filter fun e => !D.any fun d => decide ((d : Int) = e.1)).filter fun e => !decide (e.1 = (x.n : Int)) := by
      rw [List.filter_filter]
      refine List.filter_congr fun e _ => ?_
      rw [List.any_cons, Bool.not_or, show (decide ((x.n : Int) = e.1)) = decide (e.1 = (x.n : Int)) by rw [decide_eq_decide]; exact eq_comm]
    refine ⟨fun _ => ?_, fun hf => ?_⟩
    · rw [gen, mDel_filter (hko.filter _).ky]
    · rw [gen]
      refine (List.filter_eq_self.2 fun e he => ?_).symm
      have : e.1 ≠ (x.n : Int) := fun e' => (mHas_false.1 hf) (by rw [← e']; exact List.mem_map_of_mem (List.filter_sublist.subset he))
      simp [this]
  have fi : (mHas x.n k.inn = true → mDel x.n (k.inn.filter fun e => !D.any fun d => decide ((d : Int) = e.1)) = k.inn.filter fun e => !(x.n :: D).any fun d => decide ((d : Int) = e.1)) ∧ (mHas x.n k.inn = false → (k.inn.filter fun e => !D.any fun d => decide ((d : Int) = e.1)) = k.inn.filter fun e => !(x.n :: D).any fun d => decide ((d : Int) = e.1)) := by
    have gen : (k.inn.filter fun e => !(x.n :: D).any fun d => decide ((d : Int) = e.1)) = (k.inn.filter fun e => !D.any fun d => decide ((d : Int) = e.1)).filter fun e => !decide (e.1 = (x.n : Int)) := by
      rw [List.filter_filter]
      refine List.filter_congr fun e _ => ?_
      rw [List.any_cons, Bool.not_or, show (decide ((x.n : Int) = e.1)) = decide (e.1 = (x.n : Int)) by rw [decide_eq_decide]; exact eq_comm]
    refine ⟨fun _ => ?_, fun hf => ?_⟩
    · rw [gen, mDel_filter (hki.filter _).ky]
    · rw [gen]
      refine (List.filter_eq_self.2 fun e he => ?_).symm
      have : e.1 ≠ (x.n : Int) := fun e' => (mHas_false.1 hf) (by rw [← e']; exact List.mem_map_of_mem (List.filter_sublist.subset he))
      simp [this]
  show (if (((if ((cutT w D k).n : Int) ∈ keys (cutT w D x).inn then lessO w x.n (cutT w D k) else cutT w D k) : TM).n : Int) ∈ keys (cutT w D x).out then lessI w x.n (if ((cutT w D k).n : Int) ∈ keys (cutT w D x).inn then lessO w x.n (cutT w D k) else cutT w D k) else (if ((cutT w D k).n : Int) ∈ keys (cutT w D x).inn then lessO w x.n (cutT w D k) else cutT w D k)) = cutT w (x.n :: D) k
  have hn1 : ((if ((cutT w D k).n : Int) ∈ keys (cutT w D x).inn then lessO w x.n (cutT w D k) else cutT w D k) : TM).n = k.n := by split <;> rfl
  rw [hn1, cutT_n]
  cases ho : mHas x.n k.out <;> cases hi : mHas x.n k.inn
  · rw [if_neg (fun hc => by rw [hou.1 hc] at hi; cases hi), if_neg (fun hc => by rw [hin.1 hc] at ho; cases ho)]
    unfold cutT
    simp only [List.any_cons, ho, hi, Bool.false_or]
    rw [fo.2 ho, fi.2 hi]
    simp only [List.any_cons]
  · rw [if_pos (hou.2 hi), if_neg (fun hc => by rw [hin.1 hc] at ho; cases ho)]
    unfold cutT lessI
    simp only [List.any_cons, ho, hi, Bool.false_or, Bool.true_or]
    rw [fo.2 ho, fi.1 hi]
    simp only [List.any_cons]
    cases w <;> simp
  · rw [if_neg (fun hc => by rw [hou.1 hc] at hi; cases hi), if_pos (hin.2 ho)]
    unfold cutT lessO
    simp only [List.any_cons, ho, hi, Bool.false_or, Bool.true_or]
    rw [fo.1 ho, fi.2 hi]
    simp only [List.any_cons]
    cases w <;> simp
  · rw [if_pos (hou.2 hi), if_pos (hin.2 ho)]
    unfold cutT lessI lessO
    simp only [List.any_cons, ho, hi, Bool.true_or]
    rw [fo.1 ho, fi.1 hi]
    simp only [List.any_cons]
    cases w <;> simp
theorem fg_nil {w : Bool} (txs : List TM) : fgM w [] txs = txs := by
  unfold fgM
  have : (fun k : TM => !([] : List Nat).contains k.n) = fun _ => true := by funext k; simp
  rw [this, List.filter_eq_self.2 fun _ _ => rfl]
  have h2 : cutT w [] = id := by
    funext k
    have hf : ∀ l : MEs, l.filter (fun _ => true) = l := fun l => List.filter_eq_self.2 fun _ _ => rfl
    unfold cutT
    simp [hf]
  rw [h2, List.map_id]
theorem fg_congr {w : Bool} {D D' : List Nat} (h : ∀ n, n ∈ D ↔ n ∈ D') (txs : List TM) : fgM w D txs = fgM w D' txs := by
  have h1 : ∀ p : Nat → Bool, D.any p = D'.any p := fun p => by
    rw [Bool.eq_iff_iff, List.any_eq_true, List.any_eq_true]
    exact ⟨fun ⟨d, hd, hp⟩ => ⟨d, (h d).1 hd, hp⟩, fun ⟨d, hd, hp⟩ => ⟨d, (h d).2 hd, hp⟩⟩
  have h2 : cutT w D = cutT w D' := by
    funext k
    unfold cutT
    simp only [h1]
  have h3 : (fun k : TM => !D.contains k.n) = fun k => !D'.contains k.n := by
    funext k
    rw [Bool.eq_iff_iff]
    simp [h k.n]
  unfold fgM
  rw [h2, h3]
def cntM (txs : List TM) (x : TM) : Bool := txs.any fun y => ((x.done : Int) == 0) || (((y.done : Int) == 0) && decide ((y.begun : Int) < (x.done : Int)))
def goneM (txs : List TM) : List Nat := (txs.filter fun x => !cntM txs x).map TM.n
def gnD (txs : List TM) (seen : Array Nat) : List Nat := (txs.filter fun x => seen.contains x.st && !cntM txs x).map TM.n
theorem gnD_none (txs : List TM) : gnD txs #[] = [] := by simp [gnD]
theorem mem_gnD {cl : Nat} {txs : List TM} (h : Wf cl txs) {seen : Array Nat} {x : TM} (hx : x ∈ txs) : x.n ∈ gnD txs seen ↔ x.st ∈ seen ∧ cntM txs x = false := by
  unfold gnD
  rw [List.mem_map]
  constructor
  · rintro ⟨y, hy, hn⟩
    rw [List.mem_filter] at hy
    have : y = x := by
      have h1 := get_of_mem h.n hx
      have h2 := get_of_mem h.n hy.1
      rw [hn, h1] at h2
      injection h2 with h2
      exact h2.symm
    subst this
    simpa using hy.2
  · rintro ⟨h1, h2⟩
    exact ⟨x, List.mem_filter.2 ⟨hx, by simp [h1, h2]⟩, rfl⟩
theorem gnD_sub {txs : List TM} {seen : Array Nat} {n : Nat} (h : n ∈ gnD txs seen) : ∃ x ∈ txs, x.n = n ∧ cntM txs x = false := by
  unfold gnD at h
  obtain ⟨y, hy, rfl⟩ := List.mem_map.1 h
  rw [List.mem_filter, Bool.and_eq_true, Bool.not_eq_true'] at hy
  exact ⟨y, hy.1, rfl, hy.2.2⟩
theorem st_inj {cl : Nat} {txs : List TM} (h : Wf cl txs) {x y : TM} (hx : x ∈ txs) (hy : y ∈ txs) (e : x.st = y.st) : x = y := by
  have := List.pairwise_iff_getElem.1 h.st
  obtain ⟨i, hi, rfl⟩ := List.getElem_of_mem hx
  obtain ⟨j, hj, rfl⟩ := List.getElem_of_mem hy
  rcases Nat.lt_trichotomy i j with h' | h' | h'
  · exact absurd (by rw [List.getElem_map, List.getElem_map]; exact e) (this i j (by simpa using hi) (by simpa using hj) h')
  · subst h'; rfl
  · exact absurd (by rw [List.getElem_map, List.getElem_map]; exact e.symm) (this j i (by simpa using hj) (by simpa using hi) h')
theorem n_inj {cl : Nat} {txs : List TM} (h : Wf cl txs) {x y : TM} (hx : x ∈ txs) (hy : y ∈ txs) (e : x.n = y.n) : x = y := by
  have h1 := get_of_mem h.n hx
  have h2 := get_of_mem h.n hy
  rw [← e, h1] at h2
  injection h2
theorem gn_push {cl : Nat} {txs : List TM} (h : Wf cl txs) {seen : Array Nat} {x : TM} (hx : x ∈ txs) (n : Nat) : n ∈ gnD txs (seen.push x.st) ↔ n ∈ gnD txs seen ∨ (n = x.n ∧ cntM txs x = false) := by
  constructor
  · intro hn
    obtain ⟨y, hy, rfl, hc⟩ := gnD_sub hn
    rw [mem_gnD h hy, Array.mem_push] at hn
    rcases hn.1 with h1 | h1
    · exact .inl ((mem_gnD h hy).2 ⟨h1, hc⟩)
    · have := st_inj h hy hx h1
      subst this
      exact .inr ⟨rfl, hc⟩
  · rintro (hn | ⟨rfl, hc⟩)
    · obtain ⟨y, hy, rfl, hc⟩ := gnD_sub hn
      exact (mem_gnD h hy).2 ⟨Array.mem_push.2 (.inl ((mem_gnD h hy).1 hn).1), hc⟩
    · exact (mem_gnD h hx).2 ⟨Array.mem_push.2 (.inr rfl), hc⟩
theorem gn_end {cl : Nat} {txs : List TM} (h : Wf cl txs) {seen : Array Nat} (hall : ∀ e ∈ (fgM true (gnD txs seen) txs).map TM.ent, e.2.2 ∈ seen) : fgM true (gnD txs seen) txs = fgM true (goneM txs) txs := by
  refine fg_congr (fun n => ?_) txs
  unfold goneM
  constructor
  · intro hn
    obtain ⟨y, hy, rfl, hc⟩ := gnD_sub hn
    exact List.mem_map_of_mem (List.mem_filter.2 ⟨hy, by simp [hc]⟩)
  · intro hn
    obtain ⟨y, hy, rfl⟩ := List.mem_map.1 hn
    rw [List.mem_filter] at hy
    have hc : cntM txs y = false := by simpa using hy.2
    refine (mem_gnD h hy.1).2 ⟨?_, hc⟩
    by_cases hD : y.n ∈ gnD txs seen
    · exact ((mem_gnD h hy.1).1 hD).1
    · exact hall (cutT true (gnD txs seen) y).ent (List.mem_map_of_mem (mem_fg hy.1 hD))
theorem cnt_false {txs : List TM} {x : TM} (hx : x ∈ txs) (h : cntM txs x = false) : x.done ≠ 0 := by
  intro e
  unfold cntM at h
  rw [List.any_eq_false] at h
  have := h x hx
  simp [e] at this
theorem cnt_fg {cl : Nat} {txs : List TM} (h : Wf cl txs) {seen : Array Nat} {x : TM} (hx : x ∈ txs) (hD : x.n ∉ gnD txs seen) : cntM (fgM true (gnD txs seen) txs) (cutT true (gnD txs seen) x) = cntM txs x := by
  rw [Bool.eq_iff_iff]
  unfold cntM
  rw [List.any_eq_true, List.any_eq_true]
  constructor
  · rintro ⟨z, hz, hp⟩
    obtain ⟨y, hy, _, rfl⟩ := fg_mem hz
    exact ⟨y, hy, hp⟩
  · rintro ⟨y, hy, hp⟩
    by_cases h0 : x.done = 0
    · exact ⟨_, mem_fg hx hD, by show (((x.done : Int) == 0) || _) = true; simp [h0]⟩
    · refine ⟨_, mem_fg hy fun hm => ?_, hp⟩
      obtain ⟨y', hy', hn, hc⟩ := gnD_sub hm
      have := n_inj h hy' hy hn
      subst this
      have h1 := cnt_false hy' hc
      simp [h0, h1] at hp
end Go.Si
set_option maxRecDepth 20000
namespace Go.Proofs.Ytggmifnkgcladaa
open Go Go.Vc
open Go.Si
theorem st_nodup {txs : List TM} (h : (txs.map TM.st).Nodup) : ((txs.map TM.ent).map (·.2.2)).Nodup := by rw [List.map_map]; exact h
abbrev rlen (t : TM) : Nat := t.reads.length
def keptM (txs : List TM) : Nat := (txs.map rlen).sum
theorem ob_lenO {P : Program} {L : List Own} {Φ : List (World → Prop)} {H : Know} {dst : Option Nat} {ty : TypeId} {pos : String} {after : Array Edge} {g : Option (Nat × Bool)} {t e : TypeId} {x : Operand} {st : Option (Nat × List Value)} {n cap : Nat} (hu : P.underlying t = some (.slice e)) (hx : H x (.is (sliceO st n cap))) (h0 : st = none → n = 0) :
    Ob P L Φ H ⟨dst, .call { callee := .builtin .len, args := #[x], argTypes := #[t] }, ty, pos, after, g⟩ (.is (.int .i64 n)) := by
  cases st with
  | none => rw [h0 rfl]; exact ob_len hu hx
  | some p => exact ob_len hu hx
theorem grows_none {α : Type} {en : α → List Value} {sz : Nat} {xs : List α} {st : Option (Nat × List Value)} {cap : Nat} (h : Grows en sz xs st cap) (e : st = none) : xs.length = 0 := by
  subst e
  rw [show xs = [] from h]
  rfl
theorem kept_push {txs : List TM} (hn : (txs.map TM.st).Nodup) {seen : Array Nat} {y : TM} (hy : y ∈ txs) (hs : y.st ∉ seen) : keptM (lf txs seen) = y.reads.length + keptM (lf txs (seen.push y.st)) := by
  unfold keptM
  rw [((lf_push hn hy hs).map rlen).sum_nat, List.map_cons, List.sum_cons]
def actM (k : Int) (txs : List TM) : Option TM := if k < 0 then none else getTx k.toNat txs
def actE (o : Option TM) : Int := match o with | none => 41 | some x => if 0 < x.done then 41 else 0
def actP (o : Option TM) : Value := match o with | none => .pointer none | some x => if 0 < x.done then .pointer none else .pointer (some ⟨x.b, 0, none⟩)
def oP (o : Option TM) : Option Addr := match o with | none => none | some x => some ⟨x.b, 0, none⟩
theorem mget_act (k : Int) (txs : List TM) : (mGet k (txs.map TM.ent)).getD (.pointer none) = .pointer (oP (actM k txs)) := by
  unfold actM
  split
  · rename_i h; rw [mget_neg h]; rfl
  · rename_i h
    have := mget_all k.toNat txs
    rw [show ((k.toNat : Nat) : Int) = k by omega] at this
    rw [this, txP]
    cases getTx k.toNat txs <;> rfl
theorem act_mem {k : Int} {txs : List TM} {x : TM} (h : actM k txs = some x) : x ∈ txs ∧ (x.n : Int) = k := by
  unfold actM at h
  split at h
  · cases h
  · rename_i h0
    obtain ⟨h1, h2⟩ := get_mem h
    exact ⟨h1, by omega⟩
theorem c_p_ssi_Set_Kept (b ba nx sp cl : Nat) (txs : List TM) (hst : (txs.map TM.st).Nodup) (hlt : ∀ y ∈ txs, y.st < cl) (hr : ∀ y ∈ txs, Grows Rd.cells 8 y.reads y.rs y.rc) (hk : keptM txs ≤ 4611686018427387904) : CallL Try.prog f_p_ssi_Set_Kept (SL b ba nx sp cl txs) [] [.is (.pointer (some ⟨b, 0, none⟩))] (fun _ : Unit => True) (fun _ => SL b ba nx sp cl txs) (fun _ => .is (.int .i64 (keptM txs : Nat))) :=
CallL.of (fn := Try.f12) Try.func12 (n := 25) rfl rfl rfl (fun _ _ => by kernel_rfl) fun E W hb0 => by
  repeat refine J.seq ?_
  refine J.plain ?_
  refine JO.t (ob_assign rfl) rfl ?_
  refine JO.nil ?_
  repeat (first | refine JX.next ?_ | refine JX.normal_block ?_)
  refine J.sel [0] (.cons rfl .nil) ?_
  repeat refine J.seq ?_
  refine J.plain ?_
  refine JO.t (ob_move rfl) rfl ?_
  refine JO.t (ob_pnil un_p_ssi_Set rfl rfl) rfl ?_
  refine JO.nil ?_
  repeat (first | refine JX.next ?_ | refine JX.normal_block ?_)
  refine J.sel [0, 7] (.cons rfl (.cons rfl .nil)) ?_
  repeat refine J.seq ?_
  refine J.cond rfl (fun ht7 => ?_) (fun ht7 => ?_)
  ·
    try simp only [decide_eq_true_eq, decide_eq_false_iff_not] at ht7
    exfalso
    cases ht7
  ·
    try simp only [decide_eq_true_eq, decide_eq_false_iff_not] at ht7
    refine J.skip ?_
    repeat (first | refine JX.next ?_ | refine JX.normal_block ?_)
    repeat refine J.seq ?_
    refine J.plain ?_
    refine JO.t (ob_assign rfl) rfl ?_
    refine JO.nil ?_
    repeat (first | refine JX.next ?_ | refine JX.normal_block ?_)
    refine J.sel [0, 3] (.cons rfl (.cons rfl .nil)) ?_
    repeat refine J.seq ?_
    refine J.plain ?_
    refine JO.t (ob_move rfl) rfl ?_
    refine JO.t (ob_nilCheck rfl) rfl ?_
    refine JO.t (ob_fieldAddr fo_ssi_Set_2 rfl) rfl ?_
    refine JO.t (ob_ld1 sz_map_int_p_ssi_tx rfl rfl) rfl ?_
    refine JO.rangeI un_map_int_p_ssi_tx rfl rfl (fun r12 => ?_)
    refine JO.nil ?_
    repeat (first | refine JX.next ?_ | refine JX.normal_block ?_)
    refine J.sel [3, 12] (.cons rfl (.cons rfl .nil)) ?_
    repeat refine J.seq ?_
    refine J.block ?_
    repeat refine J.seq ?_
    refine J.loopG (α := Nat × Array Nat) (fun x => [(3, .is (.int .i64 (x.1 : Nat))), (12, .is (.pointer (some ⟨r12, 0, none⟩)))]) (fun x => ⟨r12, 0, .ob (.mapIter (some ba) cl x.2 cl)⟩ :: SL b ba nx sp cl txs) (fun x => fun _ => True) (fun x => x.1 + keptM (lf txs x.2) = keptM txs) (fun x => (lf txs x.2).length) (0, #[]) [3, 12] (.cons rfl (.cons rfl .nil)) rfl (fun _ => trivial) (by rw [lf_none]; simp) fun ⟨acc, seen⟩ hac => ?_
    try dsimp only
    try dsimp only at seen
    try dsimp only at hac
    repeat refine J.seq ?_
    refine J.plain ?_
    refine JO.next (l := txs.map TM.ent) (cl := cl) rfl (fun o => (by repeat (first | exact .here | apply Upd.there))) (by repeat (first | exact List.mem_cons_self | exact mem_all | apply List.mem_cons_of_mem)) (fun e he => by obtain ⟨y, hy, rfl⟩ := ent_mem he; exact hlt y hy) (Nat.le_refl _) rfl (fun go e seen2 last2 hgo hstop => ?_)
    refine JO.t (ob_nx rfl) rfl ?_
    refine JO.nil ?_
    repeat (first | refine JX.next ?_ | refine JX.normal_block ?_)
    refine J.sel [3, 12, 14] (.cons rfl (.cons rfl (.cons rfl .nil))) ?_
    repeat refine J.seq ?_
    refine J.cond rfl (fun ht14 => ?_) (fun ht14 => ?_)
    ·
      try simp only [decide_eq_true_eq, decide_eq_false_iff_not] at ht14
      refine J.skip ?_
      repeat (first | refine JX.next ?_ | refine JX.normal_block ?_)
      repeat refine J.seq ?_
      refine J.block ?_
      obtain ⟨hem, hens, rfl, rfl⟩ := hgo ht14
      obtain ⟨y, hy, rfl⟩ := ent_mem hem
      haveI : HasOwn (SL b ba nx sp cl txs) y.b ty_ssi_tx (.is (.agg y.cs.toArray)) := ⟨mem_b hy⟩
      repeat refine J.seq ?_
      refine J.plain ?_
      refine JO.t (ob_entry rfl (by repeat (first | exact List.mem_cons_self | exact mem_all | apply List.mem_cons_of_mem)) (by repeat (first | exact List.mem_cons_self | exact mem_all | apply List.mem_cons_of_mem)) hem (st_nodup hst)) rfl ?_
      refine JO.t (ob_exI rfl rfl) rfl ?_
      refine JO.t (ob_assign rfl) rfl ?_
      refine JO.nil ?_
      repeat (first | refine JX.next ?_ | refine JX.normal_block ?_)
      refine J.sel [3, 5, 12] (.cons rfl (.cons rfl (.cons rfl .nil))) ?_
      repeat refine J.seq ?_
      refine J.plain ?_
      refine JO.t (ob_move rfl) rfl ?_
      refine JO.t (ob_move rfl) rfl ?_
      refine JO.t (ob_nilCheck rfl) rfl ?_
      refine JO.t (ob_fieldAddr fo_ssi_tx_2 rfl) rfl ?_
      refine JO.t (ob_ld1 sz_sl_api_Read rfl rfl) rfl ?_
      refine JO.t (ob_lenO un_sl_api_Read rfl (grows_none (hr y hy))) rfl ?_
      refine JO.t (ob_addc (cc := ((acc + y.reads.length : Nat) : Int)) rfl rfl (by omega) (by omega) (by have := kept_push hst hy hens; omega)) rfl ?_
      refine JO.t (ob_assign rfl) rfl ?_
      refine JO.nil ?_
      repeat refine JX.normal_block ?_
      refine JX.roundG (x := (acc, seen)) (acc + y.reads.length, seen.push y.st) ?_ ?_ [3, 12] ?_ ?_ ?_ ?_
      · exact (by have := kept_push hst hy hens; simp only; omega)
      · exact lf_lt hst hy hens
      · exact (.cons rfl (.cons rfl .nil))
      · repeat (first | exact .all | exact .nil | refine Has.own (by repeat (first | exact .here | apply Tl.past | apply Tl.there)) ?_ | refine Has.cons (by repeat (first | exact .here | apply Pk.past | apply Pk.there)) ?_)
      · exact fun G hG => by repeat (first | exact hG | refine List.mem_cons_of_mem _ ?_)
      · exact fun _ _ _ => fun _ _ => trivial
    ·
      try simp only [decide_eq_true_eq, decide_eq_false_iff_not] at ht14
      repeat refine J.seq ?_
      refine J.exit ?_
      repeat (first | refine JX.hit ?_ | refine JX.miss rfl ?_ | refine JX.exit_pass ?_)
      repeat (first | refine JX.next ?_ | refine JX.normal_block ?_)
      repeat refine J.seq ?_
      refine J.plain ?_
      refine JO.t (ob_move rfl) rfl ?_
      refine JO.t (ob_assign rfl) rfl ?_
      refine JO.nil ?_
      repeat (first | refine JX.next ?_ | refine JX.normal_block ?_)
      refine J.sel [2] (.cons rfl .nil) ?_
      repeat refine J.seq ?_
      refine J.ret ?_
      repeat (first | refine JX.ret_pass ?_ | refine JX.ret_block ?_)
      exact JX.retL1 (Lr := [_]) (L1 := fun _ : Unit => SL b ba nx sp cl txs) rfl () trivial (List.perm_append_singleton _ _).symm SL_out rfl hb0 rfl (Sub.isEq (by obtain ⟨rfl, rfl, hall⟩ := hstop ht14; have h0 := lf_end hall; rw [h0] at hac; simp [keptM] at hac; simp [keptM, hac]))
theorem c_p_ssi_Set_counts (b ba nx sp cl : Nat) (txs : List TM) (hst : (txs.map TM.st).Nodup) (hlt : ∀ y ∈ txs, y.st < cl) (x : TM) (hx : x ∈ txs) : CallL Try.prog f_p_ssi_Set_counts (SL b ba nx sp cl txs) [] [.is (.pointer (some ⟨b, 0, none⟩)), .is (.pointer (some ⟨x.b, 0, none⟩))] (fun _ : Unit => True) (fun _ => SL b ba nx sp cl txs) (fun _ => .is (.bool (cntM txs x))) :=
CallL.of (fn := Try.f48) Try.func48 (n := 39) rfl rfl rfl (fun _ _ => by kernel_rfl) fun E W hb0 => by
  haveI hxI : HasOwn (SL b ba nx sp cl txs) x.b ty_ssi_tx (.is (.agg x.cs.toArray)) := ⟨mem_b hx⟩
  repeat refine J.seq ?_
  refine J.plain ?_
  refine JO.t (ob_assign rfl) rfl ?_
  refine JO.nil ?_
  repeat (first | refine JX.next ?_ | refine JX.normal_block ?_)
  refine J.sel [0, 1] (.cons rfl (.cons rfl .nil)) ?_
  repeat refine J.seq ?_
  refine J.plain ?_
  refine JO.t (ob_move rfl) rfl ?_
  refine JO.t (ob_nilCheck rfl) rfl ?_
  refine JO.t (ob_fieldAddr fo_ssi_Set_2 rfl) rfl ?_
  refine JO.t (ob_ld1 sz_map_int_p_ssi_tx rfl rfl) rfl ?_
  refine JO.rangeI un_map_int_p_ssi_tx rfl rfl (fun r11 => ?_)
  refine JO.nil ?_
  repeat (first | refine JX.next ?_ | refine JX.normal_block ?_)
  refine J.sel [1, 11] (.cons rfl (.cons rfl .nil)) ?_
  repeat refine J.seq ?_
  refine J.block ?_
  repeat refine J.seq ?_
  refine J.loopG (α := Array Nat) (fun s => [(1, .is (.pointer (some ⟨x.b, 0, none⟩))), (11, .is (.pointer (some ⟨r11, 0, none⟩)))]) (fun s => ⟨r11, 0, .ob (.mapIter (some ba) cl s cl)⟩ :: SL b ba nx sp cl txs) (fun s => fun _ => True) (fun s => cntM (lf txs s) x = cntM txs x) (fun s => (lf txs s).length) #[] [1, 11] (.cons rfl (.cons rfl .nil)) rfl (fun _ => trivial) (by rw [lf_none]) fun seen hac => ?_
  try dsimp only
  try dsimp only at hac
  repeat refine J.seq ?_
  refine J.plain ?_
  refine JO.next (l := txs.map TM.ent) (cl := cl) rfl (fun o => (by repeat (first | exact .here | apply Upd.there))) (by repeat (first | exact List.mem_cons_self | exact mem_all | apply List.mem_cons_of_mem)) (fun e he => by obtain ⟨y, hy, rfl⟩ := ent_mem he; exact hlt y hy) (Nat.le_refl _) rfl (fun go e seen2 last2 hgo hstop => ?_)
  refine JO.t (ob_nx rfl) rfl ?_
  refine JO.nil ?_
  repeat (first | refine JX.next ?_ | refine JX.normal_block ?_)
  refine J.sel [1, 11, 13] (.cons rfl (.cons rfl (.cons rfl .nil))) ?_
  repeat refine J.seq ?_
  refine J.cond rfl (fun ht13 => ?_) (fun ht13 => ?_)
  ·
    try simp only [decide_eq_true_eq, decide_eq_false_iff_not] at ht13
    refine J.skip ?_
    repeat (first | refine JX.next ?_ | refine JX.normal_block ?_)
    repeat refine J.seq ?_
    refine J.block ?_
    obtain ⟨hem, hens, rfl, rfl⟩ := hgo ht13
    obtain ⟨y, hy, rfl⟩ := ent_mem hem
    haveI : HasOwn (SL b ba nx sp cl txs) y.b ty_ssi_tx (.is (.agg y.cs.toArray)) := ⟨mem_b hy⟩
    repeat refine J.seq ?_
    refine J.plain ?_
    refine JO.t (ob_entry rfl (by repeat (first | exact List.mem_cons_self | exact mem_all | apply List.mem_cons_of_mem)) (by repeat (first | exact List.mem_cons_self | exact mem_all | apply List.mem_cons_of_mem)) hem (st_nodup hst)) rfl ?_
    refine JO.t (ob_exI rfl rfl) rfl ?_
    refine JO.t (ob_assign rfl) rfl ?_
    refine JO.nil ?_
    repeat (first | refine JX.next ?_ | refine JX.normal_block ?_)
    refine J.sel [1, 6, 11] (.cons rfl (.cons rfl (.cons rfl .nil))) ?_
    repeat refine J.seq ?_
    refine J.reg0 hmx (by kernel_rfl) (by kernel_rfl) ?_
    refine RT.t (ob_move rfl) ?_
    refine RT.t (ob_nilCheck rfl) ?_
    refine RT.t (ob_fieldAddr fo_ssi_tx_1 rfl) ?_
    refine RT.t (ob_ld1 sz_int rfl rfl) ?_
    refine RT.t (ob_eql rfl rfl) ?_
    refine RT.t (ob_move rfl) ?_
    refine RT.g rfl rfl rfl (fun hg => ob_move (.inl rfl)) ?_
    refine RT.g rfl rfl rfl (fun hg => ob_nilCheck (.inr ⟨_, rfl, fun h => h⟩)) ?_
    refine RT.g rfl rfl rfl (fun hg => ob_fieldAddr fo_ssi_tx_1 (.inr ⟨_, rfl, fun h => h⟩)) ?_
    refine RT.g rfl rfl rfl (fun hg => ob_ld1 sz_int (.inr ⟨_, rfl, fun h => h⟩) rfl) ?_
    refine RT.g rfl rfl rfl (fun hg => ob_eql (.inr ⟨_, rfl, fun h => h⟩) (.inl rfl)) ?_
    refine RT.g rfl rfl rfl (fun hg => ob_move (.inr ⟨_, rfl, fun h => h⟩)) ?_
    refine RT.gg rfl rfl rfl (fun hg => (ob_move (.inl rfl))) ?_
    refine RT.gg rfl rfl rfl (fun hg => (ob_nilCheck (.inr ⟨_, rfl, fun h => h⟩))) ?_
    refine RT.gg rfl rfl rfl (fun hg => (ob_fieldAddr fo_ssi_tx_0 (.inr ⟨_, rfl, fun h => h⟩))) ?_
    refine RT.gg rfl rfl rfl (fun hg => (ob_ld1 sz_int (.inr ⟨_, rfl, fun h => h⟩) rfl)) ?_
    refine RT.gg rfl rfl rfl (fun hg => (ob_move (.inl rfl))) ?_
    refine RT.gg rfl rfl rfl (fun hg => (ob_nilCheck (.inr ⟨_, rfl, fun h => h⟩))) ?_
    refine RT.gg rfl rfl rfl (fun hg => (ob_fieldAddr fo_ssi_tx_1 (.inr ⟨_, rfl, fun h => h⟩))) ?_
    refine RT.gg rfl rfl rfl (fun hg => (ob_ld1 sz_int (.inr ⟨_, rfl, fun h => h⟩) rfl)) ?_
    refine RT.gg rfl rfl rfl (fun hg => (ob_lss (.inr ⟨_, rfl, fun h => h⟩) (.inr ⟨_, rfl, fun h => h⟩))) ?_
    refine RT.g rfl rfl rfl (fun hg => ob_pickAnd (.inr ⟨_, rfl, fun h => h⟩) (.inl rfl) (.inl rfl) (fun h => ⟨hg, h⟩)) ?_
    refine RT.t (ob_pickOr rfl rfl rfl id) ?_
    refine RT.nil ?_
    refine FinS.nil0 ?_
    repeat (first | refine JX.next ?_ | refine JX.normal_block ?_)
    refine J.sel [1, 11, 38] (.cons rfl (.cons rfl (.cons rfl .nil))) ?_
    repeat refine J.seq ?_
    refine J.cond rfl (fun ht38 => ?_) (fun ht38 => ?_)
    ·
      try simp only [decide_eq_true_eq, decide_eq_false_iff_not] at ht38
      repeat refine J.seq ?_
      refine J.plain ?_
      refine JO.t (ob_assign rfl) rfl ?_
      refine JO.nil ?_
      repeat (first | refine JX.next ?_ | refine JX.normal_block ?_)
      refine J.sel [4] (.cons rfl .nil) ?_
      repeat refine J.seq ?_
      refine J.ret ?_
      repeat (first | refine JX.ret_pass ?_ | refine JX.ret_block ?_)
      exact JX.retL1 (Lr := [_]) (L1 := fun _ : Unit => SL b ba nx sp cl txs) rfl () trivial (List.perm_append_singleton _ _).symm SL_out rfl hb0 rfl (Sub.isEq (by rw [← hac]; unfold cntM; rw [any_push hst hy hens]; simp only [ht38, Bool.true_or]))
    ·
      try simp only [decide_eq_true_eq, decide_eq_false_iff_not] at ht38
      refine J.skip ?_
      repeat refine JX.normal_block ?_
      refine JX.roundG (x := seen) (seen.push y.st) ?_ ?_ [1, 11] ?_ ?_ ?_ ?_
      · exact (by rw [← hac]; unfold cntM; rw [any_push hst hy hens]; simp only [ht38, Bool.false_or])
      · exact lf_lt hst hy hens
      · exact (.cons rfl (.cons rfl .nil))
      · repeat (first | exact .all | exact .nil | refine Has.own (by repeat (first | exact .here | apply Tl.past | apply Tl.there)) ?_ | refine Has.cons (by repeat (first | exact .here | apply Pk.past | apply Pk.there)) ?_)
      · exact fun G hG => by repeat (first | exact hG | refine List.mem_cons_of_mem _ ?_)
      · exact fun _ _ _ => fun _ _ => trivial
  ·
    try simp only [decide_eq_true_eq, decide_eq_false_iff_not] at ht13
    repeat refine J.seq ?_
    refine J.exit ?_
    repeat (first | refine JX.hit ?_ | refine JX.miss rfl ?_ | refine JX.exit_pass ?_)
    repeat (first | refine JX.next ?_ | refine JX.normal_block ?_)
    repeat refine J.seq ?_
    refine J.plain ?_
    refine JO.t (ob_assign rfl) rfl ?_
    refine JO.nil ?_
    repeat (first | refine JX.next ?_ | refine JX.normal_block ?_)
    refine J.sel [4] (.cons rfl .nil) ?_
    repeat refine J.seq ?_
    refine J.ret ?_
    repeat (first | refine JX.ret_pass ?_ | refine JX.ret_block ?_)
    exact JX.retL1 (Lr := [_]) (L1 := fun _ : Unit => SL b ba nx sp cl txs) rfl () trivial (List.perm_append_singleton _ _).symm SL_out rfl hb0 rfl (Sub.isEq (by obtain ⟨rfl, rfl, hall⟩ := hstop ht13; rw [← hac, lf_end hall]; rfl))
end Go.Proofs.Ytggmifnkgcladaa
set_option maxRecDepth 20000
namespace Go.Proofs.Ytggmifnkgcladaa
open Go Go.Vc
open Go.Si
theorem oPs {o : Option TM} (h : (oP o).isNone = false) : oP o = some ⟨(o.getD tm0).b, 0, none⟩ := oP_some rfl (fun _ => rfl) h
theorem oPsome {o : Option TM} (h : (oP o).isNone = false) : ∃ x, o = some x := by
  cases o with
  | none => cases h
  | some x => exact ⟨x, rfl⟩
theorem own_act {k : Int} {b ba nx sp cl : Nat} {txs : List TM} (h : (oP (actM k txs)).isNone = false) : HasOwn (SL b ba nx sp cl txs) ((actM k txs).getD tm0).b ty_ssi_tx (.is (.agg ((actM k txs).getD tm0).cs.toArray)) := by
  obtain ⟨x, hx⟩ := oPsome h
  rw [hx]
  exact ⟨mem_b (act_mem hx).1⟩
def pivE (k : Int) (txs : List TM) : Bool := match actM k txs with | none => false | some x => pvM x
theorem piv_mem {k : Int} {b ba nx sp cl : Nat} {txs : List TM} (h : (oP (actM k txs)).isNone = false) : (tx3 ((actM k txs).getD tm0)).Sublist (SL b ba nx sp cl txs) := by
  obtain ⟨x, hx⟩ := oPsome h
  rw [hx]
  exact tx3_sub (act_mem hx).1
def addO (k : Nat) (z : TM) : TM := { z with out := mAdd k z.out z.oc, oc := mAddC k z.out z.oc }
def addI (k : Nat) (z : TM) : TM := { z with inn := mAdd k z.inn z.ic, ic := mAddC k z.inn z.ic }
def addO1 (k : Nat) (z : TM) : TM := { z with out := mAdd1 k z.out z.oc, oc := mAddC k z.out z.oc }
def addI1 (k : Nat) (z : TM) : TM := { z with inn := mAdd1 k z.inn z.ic, ic := mAddC k z.inn z.ic }
theorem setTx_mem {k : Nat} {f : TM → TM} {txs : List TM} {y : TM} (hy : y ∈ txs) (hk : y.n = k) : f y ∈ setTx k f txs := List.mem_map.2 ⟨y, hy, if_pos hk⟩
theorem setTx_mem_ne {k : Nat} {f : TM → TM} {txs : List TM} {y : TM} (hy : y ∈ txs) (hk : y.n ≠ k) : y ∈ setTx k f txs := List.mem_map.2 ⟨y, hy, if_neg hk⟩
theorem nodup_ent {f : TM → TM} (hf : ∀ z, (f z).ent = z.ent) {k : Nat} {txs : List TM} (h : (txs.map TM.n).Nodup) : ((setTx k f txs).map TM.n).Nodup := by
  rw [map_n (setTx_ent hf txs)]; exact h
theorem upd_out {b ba nx sp cl : Nat} {txs : List TM} {y : TM} {f : TM → TM} (hn : (txs.map TM.n).Nodup) (hy : y ∈ txs) (hf : ∀ z, (f z).ent = z.ent) (h1 : (f y).bo = y.bo) (h2 : txL (f y) = ⟨y.b, ty_ssi_tx, .is (.agg y.cs.toArray)⟩ :: ⟨y.bi, 0, .ob (mObj y.inn y.ic)⟩ :: ⟨y.bo, 0, .ob (mObj (f y).out (f y).oc)⟩ :: ownO y.rs ty_api_Read (ownO y.ws ty_api_Write [])) :
    Upd (SL b ba nx sp cl txs) ⟨y.bo, 0, .ob (mObj y.out y.oc)⟩ ⟨y.bo, 0, .ob (mObj (f y).out (f y).oc)⟩ (SL b ba nx sp cl (setTx y.n f txs)) :=
  upd_tx hn hy hf (by rw [h2]; exact .there (.there .here))
theorem upd_inn {b ba nx sp cl : Nat} {txs : List TM} {y : TM} {f : TM → TM} (hn : (txs.map TM.n).Nodup) (hy : y ∈ txs) (hf : ∀ z, (f z).ent = z.ent) (h1 : (f y).bi = y.bi) (h2 : txL (f y) = ⟨y.b, ty_ssi_tx, .is (.agg y.cs.toArray)⟩ :: ⟨y.bi, 0, .ob (mObj (f y).inn (f y).ic)⟩ :: ⟨y.bo, 0, .ob (mObj y.out y.oc)⟩ :: ownO y.rs ty_api_Read (ownO y.ws ty_api_Write [])) :
    Upd (SL b ba nx sp cl txs) ⟨y.bi, 0, .ob (mObj y.inn y.ic)⟩ ⟨y.bi, 0, .ob (mObj (f y).inn (f y).ic)⟩ (SL b ba nx sp cl (setTx y.n f txs)) :=
  upd_tx hn hy hf (by rw [h2]; exact .there .here)
theorem setTx_congr {k : Nat} {f g : TM → TM} {txs : List TM} (h : ∀ z ∈ txs, z.n = k → f z = g z) : setTx k f txs = setTx k g txs := by
  unfold setTx
  refine List.map_congr_left fun z hz => ?_
  by_cases h2 : z.n = k
  · rw [if_pos h2, if_pos h2, h z hz h2]
  · rw [if_neg h2, if_neg h2]
theorem tx_uniq {txs : List TM} (hn : (txs.map TM.n).Nodup) {x z : TM} (hx : x ∈ txs) (hz : z ∈ txs) (h : z.n = x.n) : z = x := by
  have h1 := get_of_mem hn hx
  have h2 := get_of_mem hn hz
  rw [h, h1] at h2
  injection h2 with h2
  exact h2.symm
theorem setTx_two {k : Nat} {f g : TM → TM} (hf : ∀ z, (f z).n = z.n) (txs : List TM) : setTx k g (setTx k f txs) = setTx k (fun z => g (f z)) txs := by
  unfold setTx
  rw [List.map_map]
  refine List.map_congr_left fun z _ => ?_
  show (if (if z.n = k then f z else z).n = k then g (if z.n = k then f z else z) else (if z.n = k then f z else z)) = _
  by_cases h : z.n = k
  · rw [if_pos h, if_pos (by rw [hf]; exact h), if_pos h]
  · rw [if_neg h, if_neg h, if_neg h]
theorem ed_out {k : Nat} {txs : List TM} {x : TM} (hn : (txs.map TM.n).Nodup) (hx : x ∈ txs) : setTx x.n (fun z => { z with out := mAdd k x.out x.oc }) (setTx x.n (addO1 k) txs) = setTx x.n (addO k) txs := by
  have := setTx_two (k := x.n) (f := addO1 k) (g := fun z => { z with out := mAdd k x.out x.oc }) (fun _ => rfl) txs
  rw [this]
  exact setTx_congr fun z hz h => by rw [tx_uniq hn hx hz h]; rfl
theorem ed_inn {k : Nat} {txs : List TM} {x : TM} (hn : (txs.map TM.n).Nodup) (hx : x ∈ txs) : setTx x.n (fun z => { z with inn := mAdd k x.inn x.ic }) (setTx x.n (addI1 k) txs) = setTx x.n (addI k) txs := by
  have := setTx_two (k := x.n) (f := addI1 k) (g := fun z => { z with inn := mAdd k x.inn x.ic }) (fun _ => rfl) txs
  rw [this]
  exact setTx_congr fun z hz h => by rw [tx_uniq hn hx hz h]; rfl
def edM (x y : Nat) (txs : List TM) : List TM := setTx y (addI x) (setTx x (addO y) txs)
theorem c_p_ssi_Set_active (b ba nx sp cl : Nat) (txs : List TM) (k : Int) : CallL Try.prog f_p_ssi_Set_active (SL b ba nx sp cl txs) [] [.is (.pointer (some ⟨b, 0, none⟩)), .is (.int .i64 k)] (fun _ : Unit => True) (fun _ => SL b ba nx sp cl txs) (fun _ => .is (.tuple #[actP (actM k txs), .int .i64 (actE (actM k txs))])) :=
CallL.of (fn := Try.f30) Try.func30 (n := 25) rfl rfl rfl (fun _ _ => by kernel_rfl) fun E W hb0 => by
  repeat refine J.seq ?_
  refine J.plain ?_
  refine JO.t (ob_assign rfl) rfl ?_
  refine JO.t (ob_assign rfl) rfl ?_
  refine JO.nil ?_
  repeat (first | refine JX.next ?_ | refine JX.normal_block ?_)
  refine J.sel [0, 1] (.cons rfl (.cons rfl .nil)) ?_
  repeat refine J.seq ?_
  refine J.plain ?_
  refine JO.t (ob_move rfl) rfl ?_
  refine JO.t (ob_pnil un_p_ssi_Set rfl rfl) rfl ?_
  refine JO.nil ?_
  repeat (first | refine JX.next ?_ | refine JX.normal_block ?_)
  refine J.sel [0, 1, 8] (.cons rfl (.cons rfl (.cons rfl .nil))) ?_
  repeat refine J.seq ?_
  refine J.cond rfl (fun ht8 => ?_) (fun ht8 => ?_)
  ·
    try simp only [decide_eq_true_eq, decide_eq_false_iff_not] at ht8
    exfalso
    cases ht8
  ·
    try simp only [decide_eq_true_eq, decide_eq_false_iff_not] at ht8
    refine J.skip ?_
    repeat (first | refine JX.next ?_ | refine JX.normal_block ?_)
    repeat refine J.seq ?_
    refine J.plain ?_
    refine JO.t (ob_move rfl) rfl ?_
    refine JO.t (ob_nilCheck rfl) rfl ?_
    refine JO.t (ob_fieldAddr fo_ssi_Set_2 rfl) rfl ?_
    refine JO.t (ob_ld1 sz_map_int_p_ssi_tx rfl rfl) rfl ?_
    refine JO.t (ob_move rfl) rfl ?_
    refine JO.t (ob_mgetI un_map_int_p_ssi_tx un_int zo_p_ssi_tx rfl rfl (mget_act k txs)) rfl ?_
    refine JO.t (ob_assign rfl) rfl ?_
    refine JO.nil ?_
    repeat (first | refine JX.next ?_ | refine JX.normal_block ?_)
    refine J.sel [6] (.cons rfl .nil) ?_
    repeat refine J.seq ?_
    refine J.reg0 hmx (by kernel_rfl) (by kernel_rfl) ?_
    refine RT.t (ob_move rfl) ?_
    refine RT.t (ob_pnil un_p_ssi_tx rfl rfl) ?_
    refine RT.t (ob_move rfl) ?_
    refine RT.g rfl rfl rfl (fun hg => ob_move (.inl rfl)) ?_
    refine RT.g rfl rfl rfl (fun hg => ob_nilCheckG (.inr ⟨_, rfl, fun h => h⟩) (oPs (by simpa using hg))) ?_
    refine RT.g rfl rfl rfl (fun hg => ob_fieldAddr fo_ssi_tx_1 (.inr ⟨_, rfl, fun h => h⟩)) ?_
    refine RT.g rfl rfl rfl (fun hg => (by haveI := own_act (k := k) (b := b) (ba := ba) (nx := nx) (sp := sp) (cl := cl) (txs := txs) (by simpa using hg); exact ob_ld1 sz_int (.inr ⟨_, rfl, fun h => h⟩) rfl)) ?_
    refine RT.g rfl rfl rfl (fun hg => ob_gtr (.inr ⟨_, rfl, fun h => h⟩) (.inl rfl)) ?_
    refine RT.t (ob_pickOr rfl rfl rfl id) ?_
    refine RT.nil ?_
    refine FinS.nil0 ?_
    repeat (first | refine JX.next ?_ | refine JX.normal_block ?_)
    refine J.sel [6, 23] (.cons rfl (.cons rfl .nil)) ?_
    repeat refine J.seq ?_
    refine J.cond rfl (fun ht23 => ?_) (fun ht23 => ?_)
    ·
      try simp only [decide_eq_true_eq, decide_eq_false_iff_not] at ht23
      repeat refine J.seq ?_
      refine J.plain ?_
      refine JO.t (ob_assign rfl) rfl ?_
      refine JO.t (ob_assign rfl) rfl ?_
      refine JO.nil ?_
      repeat (first | refine JX.next ?_ | refine JX.normal_block ?_)
      refine J.sel [4, 5] (.cons rfl (.cons rfl .nil)) ?_
      repeat refine J.seq ?_
      refine J.ret ?_
      repeat (first | refine JX.ret_pass ?_ | refine JX.ret_block ?_)
      exact JX.retL2 (Lr := []) (L1 := fun _ : Unit => SL b ba nx sp cl txs) rfl () trivial (List.Perm.of_eq (List.append_nil _).symm) SL_out hb0 rfl rfl (by cases ho : actM k txs with | none => rfl | some x => rw [ho] at ht23; simp [oP] at ht23; simp [actP, actE, ht23])
    ·
      try simp only [decide_eq_true_eq, decide_eq_false_iff_not] at ht23
      refine J.skip ?_
      repeat (first | refine JX.next ?_ | refine JX.normal_block ?_)
      repeat refine J.seq ?_
      refine J.plain ?_
      refine JO.t (ob_move rfl) rfl ?_
      refine JO.t (ob_assign rfl) rfl ?_
      refine JO.t (ob_assign rfl) rfl ?_
      refine JO.nil ?_
      repeat (first | refine JX.next ?_ | refine JX.normal_block ?_)
      refine J.sel [4, 5] (.cons rfl (.cons rfl .nil)) ?_
      repeat refine J.seq ?_
      refine J.ret ?_
      repeat (first | refine JX.ret_pass ?_ | refine JX.ret_block ?_)
      exact JX.retL2 (Lr := []) (L1 := fun _ : Unit => SL b ba nx sp cl txs) rfl () trivial (List.Perm.of_eq (List.append_nil _).symm) SL_out hb0 rfl rfl (by cases ho : actM k txs with | none => rw [ho] at ht23; simp [oP] at ht23 | some x => rw [ho] at ht23; simp [oP] at ht23; simp [actP, actE, oP, ht23])
theorem c_p_ssi_Set_Pivot (b ba nx sp cl : Nat) (txs : List TM) (k : Int) : CallL Try.prog f_p_ssi_Set_Pivot (SL b ba nx sp cl txs) [] [.is (.pointer (some ⟨b, 0, none⟩)), .is (.int .i64 k)] (fun _ : Unit => True) (fun _ => SL b ba nx sp cl txs) (fun _ => .is (.bool (pivE k txs))) :=
CallL.of (fn := Try.f14) Try.func14 (n := 25) rfl rfl rfl (fun _ _ => by kernel_rfl) fun E W hb0 => by
  refine J.nodup fun hnd => ?_
  repeat refine J.seq ?_
  refine J.plain ?_
  refine JO.t (ob_assign rfl) rfl ?_
  refine JO.nil ?_
  repeat (first | refine JX.next ?_ | refine JX.normal_block ?_)
  refine J.sel [0, 1] (.cons rfl (.cons rfl .nil)) ?_
  repeat refine J.seq ?_
  refine J.reg0 hmx (by kernel_rfl) (by kernel_rfl) ?_
  refine RT.t (ob_move rfl) ?_
  refine RT.t (ob_pnnil un_p_ssi_Set rfl rfl) ?_
  refine RT.t (ob_move rfl) ?_
  refine RT.g rfl rfl rfl (fun hg => ob_move (.inl rfl)) ?_
  refine RT.g rfl rfl rfl (fun hg => ob_nilCheckG (.inr ⟨_, rfl, fun h => h⟩) rfl) ?_
  refine RT.g rfl rfl rfl (fun hg => ob_fieldAddr fo_ssi_Set_2 (.inr ⟨_, rfl, fun h => h⟩)) ?_
  refine RT.g rfl rfl rfl (fun hg => ob_ld1 sz_map_int_p_ssi_tx (.inr ⟨_, rfl, fun h => h⟩) rfl) ?_
  refine RT.g rfl rfl rfl (fun hg => ob_move (.inl rfl)) ?_
  refine RT.g rfl rfl rfl (fun hg => ob_mgetI un_map_int_p_ssi_tx un_int zo_p_ssi_tx (.inr ⟨_, rfl, fun h => h⟩) (.inr ⟨_, rfl, fun h => h⟩) (mget_act k txs)) ?_
  refine RT.g rfl rfl rfl (fun hg => ob_pnnil un_p_ssi_tx (.inr ⟨_, rfl, fun h => h⟩) (.inl rfl)) ?_
  refine RT.t (ob_pickAnd rfl rfl rfl id) ?_
  refine RT.t (ob_move rfl) ?_
  refine RT.g rfl rfl rfl (fun hg => ob_move (.inl rfl)) ?_
  refine RT.g rfl rfl rfl (fun hg => ob_nilCheckG (.inr ⟨_, rfl, fun h => h⟩) rfl) ?_
  refine RT.g rfl rfl rfl (fun hg => ob_fieldAddr fo_ssi_Set_2 (.inr ⟨_, rfl, fun h => h⟩)) ?_
  refine RT.g rfl rfl rfl (fun hg => ob_ld1 sz_map_int_p_ssi_tx (.inr ⟨_, rfl, fun h => h⟩) rfl) ?_
  refine RT.g rfl rfl rfl (fun hg => ob_move (.inl rfl)) ?_
  refine RT.g rfl rfl rfl (fun hg => ob_mgetI un_map_int_p_ssi_tx un_int zo_p_ssi_tx (.inr ⟨_, rfl, fun h => h⟩) (.inr ⟨_, rfl, fun h => h⟩) (mget_act k txs)) ?_
  refine RT.g rfl rfl rfl (fun hg => (by have h0 : (oP (actM k txs)).isNone = false := (by simpa using hg); exact ob_callB (.inl rfl) (c_p_ssi_tx_pivot ((actM k txs).getD tm0)) (tx3_ob _) (fun o ho => (piv_mem h0).subset ho) (fun _ _ _ => ((piv_mem h0).map _).nodup hnd) (fun _ h => by cases h) (.sub (.inr ⟨_, rfl, fun h => h⟩) (Sub.isEq (by rw [oPs h0])) .nil))) ?_
  refine RT.t (ob_pickAnd rfl rfl rfl id) ?_
  refine RT.t (ob_assign rfl) ?_
  refine RT.nil ?_
  refine FinS.nil0 ?_
  repeat (first | refine JX.next ?_ | refine JX.normal_block ?_)
  refine J.sel [4] (.cons rfl .nil) ?_
  repeat refine J.seq ?_
  refine J.ret ?_
  repeat (first | refine JX.ret_pass ?_ | refine JX.ret_block ?_)
  exact JX.retL1 (Lr := []) (L1 := fun _ : Unit => SL b ba nx sp cl txs) rfl () trivial (List.Perm.of_eq (List.append_nil _).symm) SL_out rfl hb0 rfl (Sub.isEq (by unfold pivE; cases ho : actM k txs with | none => simp [oP] | some x => simp [oP]))
theorem c_p_ssi_Set_edge (b ba nx sp cl : Nat) (txs : List TM) (hn : (txs.map TM.n).Nodup) (x y : TM) (hx : x ∈ txs) (hy : y ∈ txs) (hxy : x.n ≠ y.n) (hox : EOk x.out x.oc) (hiy : EOk y.inn y.ic) : CallL Try.prog f_p_ssi_Set_edge (SL b ba nx sp cl txs) [] [.is (.pointer (some ⟨b, 0, none⟩)), .is (.int .i64 (x.n : Nat)), .is (.int .i64 (y.n : Nat))] (fun _ : Unit => True) (fun _ => SL b ba nx sp cl (edM x.n y.n txs)) (fun _ => .is (.tuple #[])) :=
CallL.of (fn := Try.f38) Try.func38 (n := 30) rfl rfl rfl (fun _ _ => by kernel_rfl) fun E W hb0 => by
  haveI hxI : HasOwn (SL b ba nx sp cl txs) x.b ty_ssi_tx (.is (.agg x.cs.toArray)) := ⟨mem_b hx⟩
  haveI hyI : HasOwn (SL b ba nx sp cl txs) y.b ty_ssi_tx (.is (.agg y.cs.toArray)) := ⟨mem_b hy⟩
  repeat refine J.seq ?_
  refine J.regSf 20 19 hmx (by kernel_rfl) rfl rfl rfl rfl (by kernel_rfl) rfl (by kernel_rfl) (by kernel_rfl) (by kernel_rfl) ?_
  refine RT.t (ob_move rfl) ?_
  refine RT.t (ob_nilCheck rfl) ?_
  refine RT.t (ob_fieldAddr fo_ssi_Set_2 rfl) ?_
  refine RT.t (ob_ld1 sz_map_int_p_ssi_tx rfl rfl) ?_
  refine RT.t (ob_move rfl) ?_
  refine RT.t (ob_mgetI un_map_int_p_ssi_tx un_int zo_p_ssi_tx rfl rfl (mget_mem hn hx)) ?_
  refine RT.t (ob_nilCheck rfl) ?_
  refine RT.t (ob_fieldAddr fo_ssi_tx_5 rfl) ?_
  refine RT.t (ob_ld1 sz_map_int_bool rfl rfl) ?_
  refine RT.t (ob_move rfl) ?_
  refine RT.t (ob_move rfl) ?_
  refine RT.t (ob_nilCheck rfl) ?_
  refine RT.t (ob_fieldAddr fo_ssi_Set_2 rfl) ?_
  refine RT.t (ob_ld1 sz_map_int_p_ssi_tx rfl rfl) ?_
  refine RT.t (ob_move rfl) ?_
  refine RT.t (ob_mgetI un_map_int_p_ssi_tx un_int zo_p_ssi_tx rfl rfl (mget_mem hn hy)) ?_
  refine RT.t (ob_nilCheck rfl) ?_
  refine RT.t (ob_fieldAddr fo_ssi_tx_4 rfl) ?_
  refine RT.t (ob_ld1 sz_map_int_bool rfl rfl) ?_
  refine RT.t (ob_move rfl) ?_
  refine RT.nil ?_
  refine FinS.tail0 ?_
  refine JO.md (obm_ment un_map_int_bool un_int (by kernel_rfl) rfl rfl (upd_out (f := addO1 y.n) hn hx (fun _ => rfl) rfl rfl)) (Upd.same (upd_out (f := addO1 y.n) hn hx (fun _ => rfl) rfl rfl) rfl) rfl ?_
  refine JO.t (ob_exI rfl rfl) rfl ?_
  refine JO.m (obm_mest rfl rfl rfl (mAdd1_ok hox _).st stamp_mem (upd_out (y := addO1 y.n x) (f := fun z => { z with out := mAdd y.n x.out x.oc }) (nodup_ent (f := addO1 y.n) (fun _ => rfl) hn) (setTx_mem hx rfl) (fun _ => rfl) rfl rfl)) (Upd.same (upd_out (y := addO1 y.n x) (f := fun z => { z with out := mAdd y.n x.out x.oc }) (nodup_ent (f := addO1 y.n) (fun _ => rfl) hn) (setTx_mem hx rfl) (fun _ => rfl) rfl rfl) rfl) ?_
  refine JO.sub (L' := SL b ba nx sp cl (setTx x.n (addO y.n) txs)) (by rw [← ed_out hn hx]; exact List.Sublist.refl _) ?_
  refine JO.md (obm_ment un_map_int_bool un_int (by kernel_rfl) rfl rfl (upd_inn (f := addI1 x.n) (nodup_ent (f := addO y.n) (fun _ => rfl) hn) (setTx_mem_ne hy hxy.symm) (fun _ => rfl) rfl rfl)) (Upd.same (upd_inn (f := addI1 x.n) (nodup_ent (f := addO y.n) (fun _ => rfl) hn) (setTx_mem_ne hy hxy.symm) (fun _ => rfl) rfl rfl) rfl) rfl ?_
  refine JO.t (ob_exI rfl rfl) rfl ?_
  refine JO.m (obm_mest rfl rfl rfl (mAdd1_ok hiy _).st stamp_mem (upd_inn (y := addI1 x.n y) (f := fun z => { z with inn := mAdd x.n y.inn y.ic }) (nodup_ent (f := addI1 x.n) (fun _ => rfl) (nodup_ent (f := addO y.n) (fun _ => rfl) hn)) (setTx_mem (setTx_mem_ne hy hxy.symm) rfl) (fun _ => rfl) rfl rfl)) (Upd.same (upd_inn (y := addI1 x.n y) (f := fun z => { z with inn := mAdd x.n y.inn y.ic }) (nodup_ent (f := addI1 x.n) (fun _ => rfl) (nodup_ent (f := addO y.n) (fun _ => rfl) hn)) (setTx_mem (setTx_mem_ne hy hxy.symm) rfl) (fun _ => rfl) rfl rfl) rfl) ?_
  refine JO.sub (L' := SL b ba nx sp cl (edM x.n y.n txs)) (by rw [edM, ← ed_inn (nodup_ent (f := addO y.n) (fun _ => rfl) hn) (setTx_mem_ne hy hxy.symm)]; exact List.Sublist.refl _) ?_
  refine JO.nil ?_
  refine JX.nrm ?_
  refine JX.normal_ret ?_
  exact JX.retL0 (Lr := []) (L1 := fun _ : Unit => SL b ba nx sp cl (edM x.n y.n txs)) rfl () trivial (List.Perm.of_eq (List.append_nil _).symm) SL_out hb0 rfl
end Go.Proofs.Ytggmifnkgcladaa
