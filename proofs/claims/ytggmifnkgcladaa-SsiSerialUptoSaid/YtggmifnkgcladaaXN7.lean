/- ref20: Commit. No condition. -/
import Derived.Test.YtggmifnkgcladaaXN6
import Derived.Test.YtggmifnkgcladaaXG6
set_option maxRecDepth 20000
namespace Go.Proofs.Ytggmifnkgcladaa
open Go Go.Vc
open Go.Si
def cm2 (x : RX) : RX := { x with s := 2 }
def cmD (n : Nat) (x : RX) : RX := { x with s := 2, done := n }
def cmS (st : Option (Nat × List Value)) (xs : List RX) (n : Nat) (k : Int) : Option (Nat × List Value) := stS (stS st (k - 1).toNat (cm2 (rAt xs (k - 1)))) (k - 1).toNat (cmD n (rAt xs (k - 1)))
def cmL (xs : List RX) (n : Nat) (k : Int) : List RX := (xs.set (k - 1).toNat (cm2 (rAt xs (k - 1)))).set (k - 1).toNat (cmD n (rAt xs (k - 1)))
def cmR (st : Option (Nat × List Value)) (xs : List RX) (sp : Nat) (k : Int) : Option (Nat × List Value) × List RX × Int × Nat :=
  if actR xs k != 0 then (st, xs, actR xs k, sp) else if pvR xs (k - 1) then (abS st xs k, abL xs k, 40, sp) else (cmS st xs (sp + 1) k, cmL xs (sp + 1) k, 0, sp + 1)
end Go.Proofs.Ytggmifnkgcladaa
set_option maxRecDepth 20000
namespace Go.Proofs.Ytggmifnkgcladaa
open Go Go.Vc
open Go.Si
def behR (xs : List RX) (i k : Nat) : Bool := ((rAt xs (i : Nat)).s == 2) && ((rAt xs (k : Nat)).s == 1) && decide (((rAt xs (k : Nat)).begun : Int) < ((rAt xs (i : Nat)).done : Nat))
def cntN (xs : List RX) (i n : Nat) : Bool := ((rAt xs (i : Nat)).s == 1) || (List.range n).any fun k => behR xs i k
def keptN (xs : List RX) (n : Nat) : Nat := ((List.range n).map fun (i : Nat) => if cntN xs i xs.length then (rAt xs (i : Nat)).reads.length else 0).sum
end Go.Proofs.Ytggmifnkgcladaa
set_option maxRecDepth 20000
namespace Go.Proofs.Ytggmifnkgcladaa
open Go Go.Vc
open Go.Si Go.Vl
end Go.Proofs.Ytggmifnkgcladaa
namespace Go.Si
open Go Go.Vc Go.Proofs.Ytggmifnkgcladaa
theorem fm_erase {f : RX → List Own} : ∀ {xs : List RX} {i : Nat} {x : RX}, xs[i]? = some x → (xs.flatMap f).Perm (f x ++ (xs.eraseIdx i).flatMap f)
  | [], _, _, h => by simp at h
  | y :: xs, 0, x, h => by
    simp at h
    subst h
    exact .refl _
  | y :: xs, i + 1, x, h => by
    rw [List.flatMap_cons, List.eraseIdx_cons_succ, List.flatMap_cons]
    refine ((fm_erase (by simpa using h)).append_left _).trans ?_
    rw [← List.append_assoc, ← List.append_assoc]
    exact List.perm_append_comm.append_right _
theorem set_erase {xs : List RX} {i : Nat} {v : RX} : (xs.set i v).eraseIdx i = xs.eraseIdx i := by
  induction xs generalizing i with
  | nil => rfl
  | cons x xs ih =>
    cases i with
    | zero => rfl
    | succ i => rw [List.set_cons_succ, List.eraseIdx_cons_succ, List.eraseIdx_cons_succ, ih]
theorem ownO_comm (st : Option (Nat × List Value)) (e : TypeId) (A B : List Own) : (ownO st e (A ++ B)).Perm (A ++ ownO st e B) := by
  rw [ownO_split st e (A ++ B), ownO_split st e B, ← List.append_assoc, ← List.append_assoc]
  exact List.perm_append_comm.append_right _
section
variable {b sp cap : Nat} {st : Option (Nat × List Value)} {xs : List RX}
def FrR (o : Own) (b sp cap n : Nat) (st : Option (Nat × List Value)) (R : List Own) : List Own := o :: ⟨b, ty_cadastreref20_Set, .is (rsV sp st cap n)⟩ :: ownO st ty_cadastreref20_Tx R
def rsR (xs : List RX) (i : Nat) (x : RX) : List Own := ownO x.ws ty_api_Write [] ++ (xs.eraseIdx i).flatMap rxL
def rsW (xs : List RX) (i : Nat) (x : RX) : List Own := ownO x.rs ty_api_Read [] ++ (xs.eraseIdx i).flatMap rxL
theorem rxL_app (x : RX) : rxL x = ownO x.rs ty_api_Read [] ++ ownO x.ws ty_api_Write [] := by unfold rxL; rw [ownO_split x.rs]
theorem fr_perm {i : Nat} {x : RX} (hi : xs[i]? = some x) (o : Own) : (o :: RL b sp st cap xs).Perm (ownO x.rs ty_api_Read [] ++ FrR o b sp cap xs.length st (rsR xs i x)) := by
  unfold RL FrR
  have h1 : (xs.flatMap rxL).Perm (ownO x.rs ty_api_Read [] ++ rsR xs i x) := by
    refine (fm_erase hi).trans ?_
    rw [rxL_app, List.append_assoc]
    exact .refl _
  have h2 : (ownO st ty_cadastreref20_Tx (xs.flatMap rxL)).Perm (ownO x.rs ty_api_Read [] ++ ownO st ty_cadastreref20_Tx (rsR xs i x)) := by
    refine List.Perm.trans ?_ (ownO_comm st _ _ _)
    rw [ownO_split st, ownO_split st _ (_ ++ _)]
    exact h1.append_left _
  refine ((h2.cons _).cons _).trans ?_
  exact perm_bsr [o, _] _ _
theorem fw_perm {i : Nat} {x : RX} (hi : xs[i]? = some x) (o : Own) : (o :: RL b sp st cap xs).Perm (ownO x.ws ty_api_Write [] ++ FrR o b sp cap xs.length st (rsW xs i x)) := by
  unfold RL FrR
  have h1 : (xs.flatMap rxL).Perm (ownO x.ws ty_api_Write [] ++ rsW xs i x) := by
    refine (fm_erase hi).trans ?_
    rw [rxL_app]
    unfold rsW
    rw [← List.append_assoc]
    exact List.perm_append_comm.append_right _
  have h2 : (ownO st ty_cadastreref20_Tx (xs.flatMap rxL)).Perm (ownO x.ws ty_api_Write [] ++ ownO st ty_cadastreref20_Tx (rsW xs i x)) := by
    refine List.Perm.trans ?_ (ownO_comm st _ _ _)
    rw [ownO_split st, ownO_split st _ (_ ++ _)]
    exact h1.append_left _
  refine ((h2.cons _).cons _).trans ?_
  exact perm_bsr [o, _] _ _
theorem rsV_stS {i n : Nat} {v : RX} (h : st = some (bO st, cO st)) : rsV sp (stS st i v) cap n = rsV sp st cap n := by
  unfold rsV stS
  rw [h]
  rfl
theorem fr_upd {i n : Nat} {v : RX} {A R : List Own} {o : Own} (h : st = some (bO st, cO st)) : Upd (A ++ FrR o b sp cap n st R) ⟨bO st, ty_cadastreref20_Tx, .is (.agg (cO st).toArray)⟩ ⟨bO st, ty_cadastreref20_Tx, .is (.agg (splice (cO st) (i * 5) v.cells).toArray)⟩ (A ++ FrR o b sp cap n (stS st i v) R) := by
  unfold FrR
  rw [rsV_stS h]
  exact upd_appR (.there (.there (upd_own h)))
theorem fr_back {i : Nat} {x v : RX} (hi : xs[i]? = some x) (hw : v.ws = x.ws) (o : Own) : (o :: RL b sp (stS st i v) cap (xs.set i v)).Perm (ownO v.rs ty_api_Read [] ++ FrR o b sp cap xs.length (stS st i v) (rsR xs i x)) := by
  have h := fr_perm (b := b) (sp := sp) (st := stS st i v) (cap := cap) (xs := xs.set i v) (i := i) (x := v) (List.getElem?_set_self (List.getElem?_eq_some_iff.1 hi).1) o
  rw [List.length_set] at h
  unfold rsR at h ⊢
  rw [set_erase, hw] at h
  exact h
theorem fw_back {i : Nat} {x v : RX} (hi : xs[i]? = some x) (hw : v.rs = x.rs) (o : Own) : (o :: RL b sp (stS st i v) cap (xs.set i v)).Perm (ownO v.ws ty_api_Write [] ++ FrR o b sp cap xs.length (stS st i v) (rsW xs i x)) := by
  have h := fw_perm (b := b) (sp := sp) (st := stS st i v) (cap := cap) (xs := xs.set i v) (i := i) (x := v) (List.getElem?_set_self (List.getElem?_eq_some_iff.1 hi).1) o
  rw [List.length_set] at h
  unfold rsW at h ⊢
  rw [set_erase, hw] at h
  exact h
end
def putR (z : Option (Nat × List Value) × Nat) (l : List Rd) (x : RX) : RX := { x with rs := z.1, rc := z.2, reads := l }
def putW (z : Option (Nat × List Value) × Nat) (l : List WrA) (x : RX) : RX := { x with ws := z.1, wc := z.2, writes := l }
end Go.Si
set_option maxRecDepth 20000
namespace Go.Proofs.Ytggmifnkgcladaa
open Go Go.Vc
open Go.Si
def rdL (xs : List RX) (k : Int) (r : Rd) (q : Option (Nat × List Value) × Nat) : List RX := xs.set (k - 1).toNat (putR q (kpL (rAt xs (k - 1)).reads r) (rAt xs (k - 1)))
def rdS (st : Option (Nat × List Value)) (xs : List RX) (k : Int) (r : Rd) (q : Option (Nat × List Value) × Nat) : Option (Nat × List Value) := stS st (k - 1).toNat (putR q (kpL (rAt xs (k - 1)).reads r) (rAt xs (k - 1)))
def RdR (st : Option (Nat × List Value)) (xs : List RX) (k : Int) (r : Rd) (z : Option (Nat × List Value) × List RX × Int) : Prop :=
  if actR xs k != 0 then z = (st, xs, actR xs k) else ∃ q : Option (Nat × List Value) × Nat, Grows Rd.cells 8 (kpL (rAt xs (k - 1)).reads r) q.1 q.2 ∧
    z = (if 256 < keptN (rdL xs k r q) (rdL xs k r q).length then (abS (rdS st xs k r q) (rdL xs k r q) k, abL (rdL xs k r q) k, 22) else jgR (rdS st xs k r q) (rdL xs k r q) k)
end Go.Proofs.Ytggmifnkgcladaa
set_option maxRecDepth 20000
namespace Go.Proofs.Ytggmifnkgcladaa
open Go Go.Vc
open Go.Si
def wrL (xs : List RX) (k : Int) (w : WrA) (q : Option (Nat × List Value) × Nat) : List RX := xs.set (k - 1).toNat (putW q ((rAt xs (k - 1)).writes ++ [w]) (rAt xs (k - 1)))
def wrS (st : Option (Nat × List Value)) (xs : List RX) (k : Int) (w : WrA) (q : Option (Nat × List Value) × Nat) : Option (Nat × List Value) := stS st (k - 1).toNat (putW q ((rAt xs (k - 1)).writes ++ [w]) (rAt xs (k - 1)))
def WtR (st : Option (Nat × List Value)) (xs : List RX) (k : Int) (w : WrA) (z : Option (Nat × List Value) × List RX × Int) : Prop :=
  if actR xs k != 0 then z = (st, xs, actR xs k) else ∃ q : Option (Nat × List Value) × Nat, Grows WrA.cells 3 ((rAt xs (k - 1)).writes ++ [w]) q.1 q.2 ∧ z = jgR (wrS st xs k w q) (wrL xs k w q) k
end Go.Proofs.Ytggmifnkgcladaa
set_option maxRecDepth 20000
namespace Go.Proofs.Ytggmifnkgcladaa
open Go Go.Vc
open Go.Si
end Go.Proofs.Ytggmifnkgcladaa
set_option maxRecDepth 20000
namespace Go.Proofs.Ytggmifnkgcladaa
open Go Go.Vc
open Go.Si Go.Vl
def nmV (n : Int) : V3 := ⟨1, n, ⟨#[]⟩⟩
def nmS (q : Nat) (n : Int) : Option (Nat × List Value) := some (q, (nmV n).cells)
theorem nm_grows (q : Nat) (n : Int) : Grows V3.cells 3 [nmV n] (nmS q n) 1 := ⟨rfl, Nat.le_refl _, rfl⟩
theorem c_law20_num (n : Int) : CallL Try.prog f_law20_num [] [] [.is (.int .i64 n)] (fun _ : Nat => True) (fun q => RW (nmS q n)) (fun q => .is (sliceO (nmS q n) 1 1)) :=
CallL.of (fn := Try.f23) Try.func23 (n := 6) rfl rfl rfl (fun _ _ => by kernel_rfl) fun E W hb0 => by
  repeat refine J.seq ?_
  refine J.plain ?_
  refine JO.t (ob_assign rfl) rfl ?_
  refine JO.nil ?_
  repeat (first | refine JX.next ?_ | refine JX.normal_block ?_)
  refine J.sel [0] (.cons rfl .nil) ?_
  repeat refine J.seq ?_
  refine J.plain ?_
  refine JO.t (ob_move rfl) rfl ?_
  refine JO.t (ob_build (cs := [_, _, _]) sh_api_Value (.cons rfl (.cons rfl .nil)) rfl rfl) rfl ?_
  refine JO.buildOwn (cs := [_, _, _]) sl_sl_api_Value (by omega) (by omega) (.cons rfl .nil) rfl rfl rfl rfl (fun b5 => ?_)
  refine JO.t (ob_assign rfl) rfl ?_
  refine JO.nil ?_
  repeat (first | refine JX.next ?_ | refine JX.normal_block ?_)
  refine J.sel [2] (.cons rfl .nil) ?_
  repeat refine J.seq ?_
  refine J.ret ?_
  repeat (first | refine JX.ret_pass ?_ | refine JX.ret_block ?_)
  exact JX.retL1 (Lr := []) (L1 := fun q : Nat => RW (nmS q n)) (R := fun q => .is (sliceO (nmS q n) 1 1)) rfl b5 trivial (.refl _) rfl rfl hb0 rfl (Sub.isEq rfl)
end Go.Proofs.Ytggmifnkgcladaa
