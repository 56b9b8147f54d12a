/- The program logic, part 6. No condition. -/
import Derived.Test.YtggmifnkgcladaaXG4
import Derived.Laws.Externs
import Derived.MapKept
import Derived.Maps.RangeRun
namespace Go.Vc
open Go
structure RV where
  row : List V3
  a : Option Addr
  len : Nat
  cap : Nat
abbrev RV.v (p : RV) : Value := .slice p.a p.len p.cap
def RV.c (p : RV) : List Value := [.slice p.a p.len p.cap]
def RV.ok (p : RV) (w : World) : Prop := p.len ≤ p.cap ∧ RowR p.row p.a p.len w
def RVF (ps : List RV) (w : World) : Prop := ∀ p ∈ ps, p.ok w
abbrev RvG := List RV → Option Addr → Nat → Nat → World → Prop
def RowsR (G : RvG) (rows : List (List V3)) (v : Value) (w : World) : Prop := ∃ ps a len cap, ps.map RV.row = rows ∧ v = .slice a len cap ∧ len ≤ cap ∧ RowG RV.c 1 ps a len w ∧ RVF ps w ∧ G ps a len cap w
abbrev noG : RvG := fun _ _ _ _ _ => True
theorem cell_blk {w : World} {b o : Nat} {u : Value} (h : w.cell? ⟨b, o, none⟩ = some u) : ∃ (cs : Array Value) (t : TypeId) (fr : Nat × Nat), w.heap[b]? = some (.cells cs t fr) ∧ cs[o]? = some u := by
  unfold World.cell? at h
  split at h
  · rename_i cs t fr hb
    exact ⟨cs, t, fr, hb, by simpa using h⟩
  · cases h
section
variable {P : Program} {c : Ctx} {K : List (Nat × Ty)} {L : List Own} {Φ : List (World → Prop)} {Q : Exit → Act → World → Prop} {H : Know} {dst : Option Nat} {ty : TypeId} {pos : String} {after : Array Edge} {g : Option (Nat × Bool)}
end
end Go.Vc

namespace Go.Vc
open Go
section
variable {P : Program} {L L0 : List Own} {Φ Φ0 : List (World → Prop)} {H : Know} {dst : Option Nat} {ty : TypeId} {pos : String} {after : Array Edge} {g : Option (Nat × Bool)} {Z : Type} {Zp : Z → Prop} {f : FuncId} {As : List Ty} {V : Value}
def AllIs (L0 : List Own) : Prop := ∀ o ∈ L0, ∃ V, o.T = .is V
end
end Go.Vc

namespace Go.Vc
open Go
def floatOK (ops : Array Oper) (m f : Nat) : Bool :=
  let B := Region.before ops
  decide (m ≤ ops.size) && ((List.range ops.size).all fun j => decide (j < m) || (List.range j).all fun i => (i == f && j == m) || befHas B j i) &&
  ((ops.toList.take m).all fun o => match o.guard with | some (g, _) => decide (g < m) | none => true)
section
variable {P : Program} {ops : Array Oper} {Q : Exit → Act → World → Prop}
end
section
variable {P : Program} {c : Ctx} {K : List (Nat × Ty)} {L L' : List Own} {Φ : List (World → Prop)} {Q : Exit → Act → World → Prop}
end
end Go.Vc

namespace Go.Vc
open Go
section
variable {P : Program} {L : List Own} {Φ : List (World → Prop)} {H : Know} {dst : Option Nat} {ty : TypeId} {pos : String} {after : Array Edge} {g : Option (Nat × Bool)}
theorem eqIn_nil (d : Nat) {xt e : TypeId} {a : Option Addr} {n m n' m' : Nat} {w : World} (hu : P.underlying xt = some (.slice e)) : (Op.equalIn (d + 1) xt (.slice a n m) (.slice none n' m')).run P w = .ok a.isNone w := by
  unfold Op.equalIn
  cases a <;> simp [run_underlying hu]
theorem ob_nilS {xt yt e : TypeId} {x y : Operand} {a : Option Addr} {n m n' m' : Nat} (hu : P.underlying xt = some (.slice e)) (hx : H x (.is (.slice a n m))) (hy : H y (.is (.slice none n' m'))) : Ob P L Φ H ⟨dst, .binOp .eql xt x y yt, ty, pos, after, g⟩ (.is (.bool a.isNone)) :=
  ob_bin hx hy fun w => by
    have h : (Op.equal xt (.slice a n m) (.slice none n' m')).run P w = .ok a.isNone w := eqIn_nil 9999 hu
    simp only [eqGuard, binOp, Sem.run_bind, Sem.run_pure, Result.andThen_ok]
    simp [h]
def fldSl (P : Program) (t : TypeId) (i : Nat) : Option (Nat × TypeId) :=
  match P.underlying t with
  | some (.struct fs) =>
    match fs[i]? with
    | some f =>
      match P.underlying f.type with
      | some (.slice e) => some (f.offset, e)
      | _ => none
    | none => none
  | _ => none
end
def SlF {α : Type} (N : Nat) (e : TypeId) (en : α → List Value) (sz : Nat) (xs : List α) (v : Value) (w : World) : Prop := ∃ a len cap, v = .slice a len cap ∧ len ≤ cap ∧ RowG en sz xs a len w ∧ FreshW N e a len cap sz w
section
variable {α : Type} {en : α → List Value} {sz : Nat} {P : Program} {c : Ctx} {K K' : List (Nat × Ty)} {L L' : List Own} {Φ Φ0 : List (World → Prop)} {Q : Exit → Act → World → Prop}
def Shp (b : Nat) (e : TypeId) (n : Nat) (w : World) : Prop := ∃ cs : Array Value, w.heap[b]? = some (.cells cs e (0, 0)) ∧ cs.size = n
def Stay (e : TypeId) (E0 : Nat → Prop) (w0 : World) (F : World → Prop) : Prop := ∀ E w, Pers E w (Keeps E0 w0) → Pers E w F → ∀ b n, w0.heap.size ≤ b → Shp b e n w → Pers (fun q => E q ∨ q = b) w F
end
end Go.Vc

namespace Go.Vc
open Go
def floatsOK (ops : Array Oper) (m : Nat) (fl : List (Nat × Nat × Nat)) : Bool :=
  let B := Region.before ops
  decide (m ≤ ops.size) && ((List.range ops.size).all fun j => decide (j < m) || (List.range j).all fun i => ((fl.map (·.1)).contains i && j == m) || befHas B j i) &&
  ((ops.toList.take m).all fun o => match o.guard with | some (g, _) => decide (g < m) | none => true)
def flOK (ops : Array Oper) (m : Nat) (fl : List (Nat × Nat × Nat)) : Bool :=
  (fl.all fun x => decide (x.1 < m) && match ops[x.1]? with
    | some fo => (match fo.op with | .move (.tmp s) => s == x.2.2 | _ => false) && (fo.dst == some x.2.1) && fo.guard.isNone && (fo.after.all fun e => !Region.binds .any e || !(fl.map (·.1)).contains e.on)
    | none => false) && decide (fl.map (·.1)).Nodup && (fl.all fun x => fl.all fun y => (x.1 == y.1 || x.2.1 != y.2.1) && x.2.2 != y.2.1)
structure FlI (ops : Array Oper) (m : Nat) (fl : List (Nat × Nat × Nat)) (x : Nat × Nat × Nat) : Prop where
  lt : x.1 < m
  op : ∃ fo, ops[x.1]? = some fo ∧ fo.op = .move (.tmp x.2.2) ∧ fo.dst = some x.2.1 ∧ fo.guard = none ∧ ∀ e ∈ fo.after, Region.binds .any e = true → e.on ∉ fl.map (·.1)
def pf (x : Nat × Nat × Nat) (a : Act) : Act := a.put (some x.2.1) (a.eval (.tmp x.2.2))
def putAll : List (Nat × Nat × Nat) → Act → Act
  | [], a => a
  | x :: S, a => putAll S (pf x a)
section
variable {P : Program} {ops : Array Oper} {Q : Exit → Act → World → Prop}
end
section
variable {P : Program} {c : Ctx} {K : List (Nat × Ty)} {L L' : List Own} {Φ : List (World → Prop)} {Q : Exit → Act → World → Prop}
end
end Go.Vc

namespace Go.Vc
open Go
structure Flo where
  f : Nat
  d : Nat
  deps : List Nat
def flsOK (ops : Array Oper) (m : Nat) (fl : List Flo) (base : List Nat) (n : Nat) : Bool :=
  (fl.all fun x => decide (x.f < m) && decide (x.d < n) && match ops[x.f]? with
    | some fo => (fo.dst == some x.d) && fo.guard.isNone && x.deps.all fun s => base.contains s || fl.any fun y => y.d == s && fo.after.any fun e => Region.binds .any e && e.on == y.f
    | none => false) && decide ((fl.map (·.f)).Pairwise (· < ·)) && decide (fl.map (·.d)).Nodup &&
  ((ops.toList.take m).all fun o => match o.dst with | some d => !base.contains d | none => true) &&
  ((List.range m).all fun i => match ops[i]? with | some o => (match o.dst with | some d => fl.all fun x => x.d != d || x.f == i | none => true) | none => true) &&
  (fl.all fun x => !base.contains x.d)
structure FlsI (ops : Array Oper) (m n : Nat) (fl : List Flo) (base : List Nat) (x : Flo) : Prop where
  lt : x.f < m
  dn : x.d < n
  nb : x.d ∉ base
  op : ∃ fo, ops[x.f]? = some fo ∧ fo.dst = some x.d ∧ fo.guard = none ∧ ∀ s ∈ x.deps, s ∈ base ∨ ∃ y ∈ fl, y.d = s ∧ ∃ e ∈ fo.after, Region.binds .any e = true ∧ e.on = y.f
def FlS (P : Program) (ops : Array Oper) (σ : Nat → Value) : List Flo → Prop
  | [] => True
  | x :: fl => (∀ fo, ops[x.f]? = some fo → ∀ (a : Act), (∀ s ∈ x.deps, a.eval (.tmp s) = σ s) → execOp a.eval fo = (pure (.value (σ x.d)) : Sem Next)) ∧ FlS P ops σ fl
def putC (σ : Nat → Value) : List Flo → Act → Act
  | [], a => a
  | x :: S, a => putC σ S (a.put (some x.d) (σ x.d))
structure FlA (σ : Nat → Value) (fl : List Flo) (base : List Nat) (n : Nat) (a : Act) (dn : Nat → Prop) : Prop where
  b : ∀ s ∈ base, a.eval (.tmp s) = σ s
  v : ∀ x ∈ fl, dn x.f → a.eval (.tmp x.d) = σ x.d
  n : a.tmps.size = n
section
variable {P : Program} {ops : Array Oper} {Q : Exit → Act → World → Prop}
end
def sgv : List (Nat × Value) → Nat → Value
  | [], _ => undef
  | (t, v) :: r, s => cond (Nat.beq t s) v (sgv r s)
def FlB (K : List (Nat × Ty)) (σ : Nat → Value) : List Nat → Prop
  | [] => True
  | s :: r => look K s = some (.is (σ s)) ∧ FlB K σ r
section
variable {P : Program} {ops : Array Oper} {σ : Nat → Value} {x : Flo} {fo : Oper}
end
section
variable {P : Program} {c : Ctx} {K : List (Nat × Ty)} {L L' : List Own} {Φ : List (World → Prop)} {Q : Exit → Act → World → Prop}
end
end Go.Vc

namespace Go.Vc
open Go
section
variable {P : Program} {L L0 Lr : List Own} {Φ Φ0 : List (World → Prop)} {H : Know} {dst : Option Nat} {ty : TypeId} {pos : String} {after : Array Edge} {g : Option (Nat × Bool)} {f : FuncId} {As : List Ty}
def MadeR {Z : Type} (Zp : Z → Prop) (N : Nat) (bz : Z → Nat) (ez : Z → TypeId) (cz : Z → List Value) (vz : Z → Value) (v : Value) (w : World) : Prop := ∃ z, Zp z ∧ v = vz z ∧ N ≤ bz z ∧ HeapIs (bz z) (cz z) (ez z) w
def OneR (R : Value → World → Prop) (e : TypeId) (v : Value) (w : World) : Prop := ∃ b v', v = .slice (some ⟨b, 0, none⟩) 1 1 ∧ R v' w ∧ HeapIs b [v'] e w
abbrev vC (v : Value) : List Value := [v]
variable {c : Ctx} {K K' : List (Nat × Ty)} {L' : List Own} {Q : Exit → Act → World → Prop} {Z : Type} {Zp : Z → Prop} {L1 : Z → List Own} {R : Z → Ty}
variable {fn : Func} {n : Nat} {X : Nat → Prop} {W : World}
end
end Go.Vc

namespace Go.Vc
open Go
section
variable {P : Program} {ops : Array Oper} {c : Ctx} {K : List (Nat × Ty)} {L Lq : List Own} {Φ : List (World → Prop)} {D : Array Bool} {E : Nat → Prop} {a : Act} {w : World} {i : Nat} {o : Oper} {T : Ty} {kd : Kind}
end
def quietOK1 (ops : Array Oper) (p : Nat) : Bool := (List.range ops.size).all fun j => match ops[j]? with | some o => !isAlloc o && (j == p || match o.op with | .store .. => false | _ => true) | none => true
section
variable {P : Program} {c : Ctx} {K : List (Nat × Ty)} {L : List Own} {Φ : List (World → Prop)} {Q : Exit → Act → World → Prop}
variable {dst : Option Nat} {ty : TypeId} {pos : String} {after : Array Edge} {g : Option (Nat × Bool)} {H : Know}
end
end Go.Vc

namespace Go.Vc
open Go
abbrev MEs := List (Int × Value × Nat)
def mEnt (e : Int × Value × Nat) : MapEntry := { key := .int .i64 e.1, val := e.2.1, born := e.2.2 }
abbrev mObj (l : MEs) (cl : Nat) : Obj := .map (l.map mEnt).toArray cl
def mFind (n : Int) : MEs → Nat → Option (Nat × Value)
  | [], _ => none
  | e :: l, i => if n = e.1 then some (i, e.2.1) else mFind n l (i + 1)
theorem findNow_ent (n : Int) : ∀ (l : MEs) (i : Nat), Instr.findNow (.int .i64) (.int .i64 n) (l.map mEnt) i = some (mFind n l i)
  | [], _ => rfl
  | e :: l, i => by
    rw [List.map_cons, Instr.findNow, mFind]
    by_cases h : n = e.1
    · simp [mEnt, Instr.sameNow, h]
    · have hb : (n == e.1) = false := by simpa using h
      simp only [mEnt, Instr.sameNow, if_true, hb, if_neg h]
      exact findNow_ent n l (i + 1)
def mGet (n : Int) : MEs → Option Value
  | [] => none
  | e :: l => if n = e.1 then some e.2.1 else mGet n l
theorem mFind_get (n : Int) : ∀ (l : MEs) (i : Nat), (mFind n l i).map (·.2) = mGet n l
  | [], _ => rfl
  | e :: l, i => by
    rw [mFind, mGet]
    by_cases h : n = e.1
    · simp [h]
    · simp [h, mFind_get n l (i + 1)]
def mPut (n : Int) (v : Value) (st : Nat) : MEs → MEs
  | [] => [(n, v, st)]
  | e :: l => if n = e.1 then (n, v, e.2.2) :: l else e :: mPut n v st l
def mDel (n : Int) : MEs → MEs
  | [] => []
  | e :: l => if n = e.1 then l else e :: mDel n l
def mHas (n : Int) : MEs → Bool
  | [] => false
  | e :: l => decide (n = e.1) || mHas n l
theorem mFind_none {n : Int} : ∀ {l : MEs} {i : Nat}, mFind n l i = none → mHas n l = false
  | [], _, _ => rfl
  | e :: l, i, h => by
    rw [mFind] at h
    by_cases hn : n = e.1
    · simp [hn] at h
    · simp only [hn, if_false] at h
      simp [mHas, hn, mFind_none h]
theorem mFind_some {n : Int} : ∀ {l : MEs} {i j : Nat} {v : Value}, mFind n l i = some (j, v) → mHas n l = true ∧ i ≤ j ∧ ∃ e, l[j - i]? = some e ∧ e.1 = n ∧ (∀ w st, mPut n w st l = l.modify (j - i) (fun e => (n, w, e.2.2))) ∧ mDel n l = l.eraseIdx (j - i)
  | [], _, _, _, h => by cases h
  | e :: l, i, j, v, h => by
    rw [mFind] at h
    by_cases hn : n = e.1
    · rw [if_pos hn] at h
      injection h with h
      injection h with h1 h2
      subst h1
      refine ⟨by simp [mHas, hn], Nat.le_refl _, e, by simp, hn.symm, fun w st => ?_, ?_⟩
      · rw [mPut, if_pos hn, Nat.sub_self]; rfl
      · rw [mDel, if_pos hn, Nat.sub_self]; rfl
    · rw [if_neg hn] at h
      obtain ⟨h1, h2, e', h3, h4, h5, h6⟩ := mFind_some h
      have hs : j - i = (j - (i + 1)) + 1 := by omega
      refine ⟨by simp [mHas, h1], by omega, e', by rw [hs]; simpa using h3, h4, fun w st => ?_, ?_⟩
      · rw [mPut, if_neg hn, h5, hs]; rfl
      · rw [mDel, if_neg hn, h6, hs]; rfl
theorem mPut_none {n : Int} {v : Value} {st : Nat} : ∀ {l : MEs}, mHas n l = false → mPut n v st l = l ++ [(n, v, st)]
  | [], _ => rfl
  | e :: l, h => by
    rw [mHas, Bool.or_eq_false_iff] at h
    rw [mPut, if_neg (by simpa using h.1), mPut_none h.2]
    rfl
theorem mDel_none {n : Int} : ∀ {l : MEs}, mHas n l = false → mDel n l = l
  | [], _ => rfl
  | e :: l, h => by
    rw [mHas, Bool.or_eq_false_iff] at h
    rw [mDel, if_neg (by simpa using h.1), mDel_none h.2]
theorem ent_push (l : MEs) (e : Int × Value × Nat) : (l.map mEnt).toArray.push (mEnt e) = ((l ++ [e]).map mEnt).toArray := by simp
theorem ent_mod (l : MEs) (j : Nat) (n : Int) (v : Value) : (l.map mEnt).toArray.modify j (fun e => { e with key := .int .i64 n, val := v }) = ((l.modify j fun e => (n, v, e.2.2)).map mEnt).toArray := by
  apply Array.ext_getElem?
  intro i
  rw [Array.getElem?_modify]
  simp only [List.getElem?_toArray, List.getElem?_map, List.getElem?_modify]
  by_cases h : j = i
  · subst h
    cases l[j]? <;> simp [mEnt]
  · simp [h]
theorem eraseIdx_ent : ∀ (l : MEs) (j : Nat), (l.map mEnt).eraseIdx j = (l.eraseIdx j).map mEnt
  | [], _ => rfl
  | _ :: _, 0 => rfl
  | e :: l, j + 1 => by simp [List.eraseIdx_cons_succ, eraseIdx_ent l j]
theorem ent_del (l : MEs) (j : Nat) : (l.map mEnt).toArray.eraseIdxIfInBounds j = ((l.eraseIdx j).map mEnt).toArray := by
  apply Array.toList_inj.1
  by_cases h : j < l.length
  · simp [Array.eraseIdxIfInBounds, h, eraseIdx_ent]
  · have h' : ¬ j < (l.map mEnt).toArray.size := by simpa using h
    simp only [Array.eraseIdxIfInBounds, h', dite_false]
    rw [List.eraseIdx_of_length_le (by omega)]
section
variable {P : Program} {L : List Own} {Φ : List (World → Prop)} {H : Know} {dst : Option Nat} {ty : TypeId} {pos : String} {after : Array Edge} {g : Option (Nat × Bool)}
theorem own_ob {b : Nat} {e : TypeId} {o : Obj} {E : Nat → Prop} {w : World} (h : (⟨b, e, .ob o⟩ : Own).at E w) : w.heap[b]? = some o := by
  obtain ⟨_, _, h, _⟩ := h
  exact h
theorem at_ob {b : Nat} {e : TypeId} {o : Obj} {E : Nat → Prop} {w : World} (h : w.heap[b]? = some o) (hE : E b) : (⟨b, e, .ob o⟩ : Own).at E w := ⟨hE, undef, h, trivial⟩
theorem checkKey_int {kt : TypeId} {n : Int} (hk' : P.underlying kt = some (.int .i64)) (w : World) (b : Bool) : (Instr.checkKey b 10000 kt (.int .i64 n)).run P w = .ok () w := MapKept.run_checkKey (k := .int .i64 n) hk' (by simp [MapKept.IsKey]) b 9999
theorem ob_mget {mt kt et : TypeId} {m k : Operand} {b : Nat} {e : TypeId} {l : MEs} {cl : Nat} {n : Int} {V z : Value} (hm' : P.underlying mt = some (.map kt et)) (hk' : P.underlying kt = some (.int .i64)) (hz : zeroOf P et = some z) (hm : H m (.is (.map (some b)))) (hk : H k (.is (.int .i64 n)))
    (ho : ⟨b, e, .ob (mObj l cl)⟩ ∈ L) (hV : (mGet n l).getD z = V) : Ob P L Φ H ⟨dst, .lookup mt m k false, ty, pos, after, g⟩ (.is V) :=
  ob_is fun E w ρ hp => by
    have e1 : ρ m = .map (some b) := hp.x m _ (by simp [Op.operands]) hm
    have e2 : ρ k = .int .i64 n := hp.x k _ (by simp [Op.operands]) hk
    have hb := own_ob (hp.l _ ho)
    have hf := MapKept.run_findKey (P := P) (w := w) hk' (findNow_ent n l 0)
    have hfg := mFind_get n l 0
    have hzv : (zeroValue et).run P w = .ok z w := by
      unfold zeroOf at hz
      cases hi : P.info? et with
      | none => rw [hi] at hz; cases hz
      | some i => rw [hi, Option.bind_some] at hz; simp [zeroValue, typeInfo, hi, hz]
    cases hq : mFind n l 0 with
    | none =>
      rw [hq] at hf hfg
      rw [← hfg] at hV
      simp only [Option.map_none, Option.getD_none] at hV
      simp [execOp, e1, e2, Instr.lookup, run_underlying hm', MapKept.run_getObj_map hb, checkKey_int hk', hf, Result.andThen, hzv, hV]
    | some p =>
      obtain ⟨j, v⟩ := p
      rw [hq] at hf hfg
      rw [← hfg] at hV
      simp only [Option.map_some, Option.getD_some] at hV
      subst hV
      simp [execOp, e1, e2, Instr.lookup, run_underlying hm', MapKept.run_getObj_map hb, checkKey_int hk', hf, Result.andThen]
theorem ob_mlen {t kt et : TypeId} {x : Operand} {b : Nat} {e : TypeId} {l : MEs} {cl : Nat} (hu : P.underlying t = some (.map kt et)) (hx : H x (.is (.map (some b)))) (ho : ⟨b, e, .ob (mObj l cl)⟩ ∈ L) :
    Ob P L Φ H ⟨dst, .call { callee := .builtin .len, args := #[x], argTypes := #[t] }, ty, pos, after, g⟩ (.is (.int .i64 (l.length : Nat))) :=
  ob_is fun E w ρ hp => by
    have h1 : ρ x = .map (some b) := hp.x x _ (by simp [Op.operands, Call.operands]) hx
    have hb := own_ob (hp.l _ ho)
    simp [execOp, resolve, invoke, builtin, Builtin.len_, h1, run_underlying hu, MapKept.run_getObj_map hb, goInt]
theorem Keeps.setOb {w : World} {b : Nat} {o o' : Obj} (hb : w.heap[b]? = some o) (hn : ∀ cs t fr, o ≠ .cells cs t fr) : Keeps (fun q => q = b) w { w with heap := w.heap.setIfInBounds b o' } := by
  refine ⟨rfl, rfl, rfl, by simp, fun q hq hx => ?_, fun q cs t fr hq => ?_⟩
  · exact (MapKept.heap_set hb).2 q hx
  · by_cases e : q = b
    · subst e
      rw [hb] at hq
      injection hq with hq
      exact absurd hq (hn cs t fr)
    · exact ⟨cs, ((MapKept.heap_set hb).2 q e).trans hq, rfl⟩
theorem obm_ob {M M' : List Own} {o : Oper} {b : Nat} {e : TypeId} {x x' : Obj} {T : Ty} {v : Value} (hu : Upd M ⟨b, e, .ob x⟩ ⟨b, e, .ob x'⟩ M') (hn : ∀ cs t fr, x ≠ .cells cs t fr) (hT : ∀ E w, T.p E v w)
    (h : ∀ E w ρ, Pre L Φ H o E w ρ → w.heap[b]? = some x → ∃ nx, (execOp ρ o).run P w = .ok nx { w with heap := w.heap.setIfInBounds b x' } ∧ (nx = .value v ∨ nx = .skip ∧ v = undef)) : ObM P L Φ H M o T M' := fun E w ρ hp hM hnd => by
  have hb := own_ob (hM _ hu.mem)
  have hE := (hM _ hu.mem).1
  obtain ⟨nx, hrun, hnx⟩ := h E w ρ hp hb
  have hk : Keeps (fun q => q = b) w { w with heap := w.heap.setIfInBounds b x' } := Keeps.setOb hb hn
  have hev : Ev E w E { w with heap := w.heap.setIfInBounds b x' } := Ev.of_keeps (hk.mono fun q _ e => by rw [e]; exact hE)
  rw [hrun]
  have hfin : Keeps (fun q => q ∈ M.map (·.b)) w { w with heap := w.heap.setIfInBounds b x' } ∧ T.p E v { w with heap := w.heap.setIfInBounds b x' } ∧ ∀ m ∈ M', m.at E { w with heap := w.heap.setIfInBounds b x' } :=
    ⟨hk.mono fun q _ e => by rw [e]; exact List.mem_map_of_mem hu.mem, hT _ _, hu.all hnd (fun m hm hne => Own.keep (hM m hm) hev ((MapKept.heap_set hb).2 m.b hne)) (at_ob (MapKept.heap_set hb).1 hE)⟩
  rcases hnx with rfl | ⟨rfl, rfl⟩
  · exact hfin
  · exact hfin
theorem mObj_ne {l : MEs} {cl : Nat} : ∀ cs t fr, mObj l cl ≠ .cells cs t fr := fun _ _ _ h => by cases h
theorem obm_mset {mt kt et : TypeId} {m k v : Operand} {M M' : List Own} {b : Nat} {e : TypeId} {l : MEs} {cl : Nat} {n : Int} {V : Value} (hm' : P.underlying mt = some (.map kt et)) (hk' : P.underlying kt = some (.int .i64)) (hm : H m (.is (.map (some b)))) (hk : H k (.is (.int .i64 n))) (hv : H v (.is V))
    (hu : Upd M ⟨b, e, .ob (mObj l cl)⟩ ⟨b, e, .ob (mObj (mPut n V cl l) (if mHas n l then cl else cl + 1))⟩ M') : ObM P L Φ H M ⟨none, .mapUpdate mt m k v, ty, pos, after, g⟩ .any M' :=
  obm_ob (v := undef) hu mObj_ne (fun _ _ => trivial) fun E w ρ hp hb => by
    have e1 : ρ m = .map (some b) := hp.x m _ (by simp [Op.operands]) hm
    have e2 : ρ k = .int .i64 n := hp.x k _ (by simp [Op.operands]) hk
    have e3 : ρ v = V := hp.x v _ (by simp [Op.operands]) hv
    have hf := MapKept.run_findKey (P := P) (w := w) hk' (findNow_ent n l 0)
    refine ⟨.skip, ?_, .inr ⟨rfl, rfl⟩⟩
    cases hq : mFind n l 0 with
    | none =>
      rw [hq] at hf
      have hh := mFind_none hq
      rw [hh, mPut_none hh, mObj, ← ent_push]
      simp [execOp, e1, e2, e3, Instr.mapUpdate, run_underlying hm', MapKept.run_getObj_map hb, checkKey_int hk', hf, Result.andThen, MapKept.run_setObj_map _ hb, mEnt]
    | some p =>
      obtain ⟨j, u⟩ := p
      rw [hq] at hf
      obtain ⟨hh, _, e0, h3, h4, h5, _⟩ := mFind_some hq
      rw [hh, h5, mObj, ← ent_mod]
      simp only [Nat.sub_zero] at h3 ⊢
      have hkey : (((l.map mEnt).toArray[j]?).map (·.key)).getD (.int .i64 n) = .int .i64 n := by
        simp [h3, mEnt, h4]
      have hst : (Instr.keyThatStays (.int .i64 n) (.int .i64 n)).run P w = .ok (.int .i64 n) w := MapKept.run_keyThatStays (d := .int .i64) (by simp [MapKept.IsKey])
      simp [execOp, e1, e2, e3, Instr.mapUpdate, run_underlying hm', MapKept.run_getObj_map hb, checkKey_int hk', hf, Result.andThen, h3, mEnt, h4, hst, MapKept.run_setObj_map _ hb]
theorem obm_mdel {mt kt et tk : TypeId} {m k : Operand} {M M' : List Own} {b : Nat} {e : TypeId} {l : MEs} {cl : Nat} {n : Int} (hm' : P.underlying mt = some (.map kt et)) (hk' : P.underlying kt = some (.int .i64)) (hm : H m (.is (.map (some b)))) (hk : H k (.is (.int .i64 n)))
    (hu : Upd M ⟨b, e, .ob (mObj l cl)⟩ ⟨b, e, .ob (mObj (mDel n l) cl)⟩ M') : ObM P L Φ H M ⟨none, .call { callee := .builtin .delete, args := #[m, k], argTypes := #[mt, tk] }, ty, pos, after, g⟩ .any M' :=
  obm_ob (v := .tuple #[]) hu mObj_ne (fun _ _ => trivial) fun E w ρ hp hb => by
    have e1 : ρ m = .map (some b) := hp.x m _ (by simp [Op.operands, Call.operands]) hm
    have e2 : ρ k = .int .i64 n := hp.x k _ (by simp [Op.operands, Call.operands]) hk
    have hf := MapKept.run_findKey (P := P) (w := w) hk' (findNow_ent n l 0)
    refine ⟨.value (.tuple #[]), ?_, .inl rfl⟩
    cases hq : mFind n l 0 with
    | none =>
      rw [hq] at hf
      rw [mDel_none (mFind_none hq)]
      simp [execOp, resolve, invoke, builtin, Builtin.delete_, e1, e2, run_underlying hm', MapKept.run_getObj_map hb, checkKey_int hk', hf, Result.andThen, MapKept.run_setObj_map _ hb]
    | some p =>
      obtain ⟨j, u⟩ := p
      rw [hq] at hf
      obtain ⟨_, _, _, _, _, _, h6⟩ := mFind_some hq
      rw [h6, mObj, ← ent_del, Nat.sub_zero]
      simp [execOp, resolve, invoke, builtin, Builtin.delete_, e1, e2, run_underlying hm', MapKept.run_getObj_map hb, checkKey_int hk', hf, Result.andThen, MapKept.run_setObj_map _ hb]
end
end Go.Vc

namespace Go.Vc
open Go Go.ChangeMaps
section
variable {P : Program} {c : Ctx} {K : List (Nat × Ty)} {L L' : List Own} {Φ : List (World → Prop)} {Q : Exit → Act → World → Prop}
variable {ops : Array Oper} {rest : List Oper} {d : Nat} {ty t : TypeId} {pos : String} {after : Array Edge}
theorem SA.newOb {E : Nat → Prop} {a : Act} {w : World} {e : TypeId} {V : Value} (hs : SA c K L Φ E a w) (o : Obj) (hd : d < c.n) :
    SA c ((d, .is V) :: K) (⟨w.heap.size, e, .ob o⟩ :: L) Φ (fun b => E b ∨ b = w.heap.size) (a.put (some d) V) (w.alloc o) := by
  have hk := Keeps.alloc w o
  have hev : Ev E w (fun b => E b ∨ b = w.heap.size) (w.alloc o) := ⟨hk.of_noX, fun b hb => ⟨fun h => h.elim id (fun e => absurd hb (by omega)), .inl⟩⟩
  refine hs.put (dst := some d) (T := .is V) hev ?_ rfl (fun d' e => by injection e with e; omega) ?_ ?_ (hs.keeps.step hk fun _ => False.elim) ?_
  · rintro b (hb | rfl)
    · rw [size_alloc]; have := hs.wf b hb; omega
    · rw [size_alloc]; omega
  · intro m ho
    rcases List.mem_cons.1 ho with rfl | ho
    · exact at_ob (heap_alloc_at w _) (.inr rfl)
    · exact Own.keep0 (hs.l m ho) hev hk
  · rw [List.map_cons, List.nodup_cons]
    refine ⟨fun h => ?_, hs.ld⟩
    obtain ⟨m, hm, e'⟩ := List.mem_map.1 h
    have h1 := hs.wf m.b (hs.l m hm).1
    have e'' : m.b = w.heap.size := e'
    omega
  · intro m ho
    rcases List.mem_cons.1 ho with rfl | ho
    · exact .inr hs.keeps.size
    · exact hs.may m ho
theorem JO.mapMk (hd : Nat.blt d c.n = true) (hn : ∀ r, JO P c ((d, .is (.map (some r))) :: K) (⟨r, 0, .ob (mObj [] 0)⟩ :: L) Φ ops rest Q) : JO P c K L Φ ops (⟨some d, .makeMap t none, ty, pos, after, none⟩ :: rest) Q := by
  refine ⟨fun E a w hs => wpList_plain rfl fun K' hK => ?_⟩
  unfold Oper.wp
  have hrun : (execOp a.eval ⟨some d, .makeMap t none, ty, pos, after, none⟩).run P w = .ok (.value (.map (some w.heap.size))) (w.alloc (.map #[] 0)) := by
    simp [execOp, Instr.makeMap]
  rw [hrun]
  exact hK _ _ ((hn w.heap.size).out _ _ _ (hs.newOb (e := 0) _ (Nat.le_of_ble_eq_true hd)))
theorem JO.rangeM {kt et : TypeId} {x : Operand} {b : Nat} {e : TypeId} {l : MEs} {cl : Nat} (hu : P.underlying t = some (.map kt et)) (hx : opTy K x = some (.is (.map (some b)))) (ho : ⟨b, e, .ob (mObj l cl)⟩ ∈ L) (hd : Nat.blt d c.n = true)
    (hn : ∀ r, JO P c ((d, .is (.pointer (some ⟨r, 0, none⟩))) :: K) (⟨r, 0, .ob (.mapIter (some b) cl #[] cl)⟩ :: L) Φ ops rest Q) : JO P c K L Φ ops (⟨some d, .range t x, ty, pos, after, none⟩ :: rest) Q := by
  refine ⟨fun E a w hs => wpList_plain rfl fun K' hK => ?_⟩
  unfold Oper.wp
  have e1 : a.eval x = .map (some b) := opTy_eval hs hx
  have hb := own_ob (hs.l _ ho)
  have hrun : (execOp a.eval ⟨some d, .range t x, ty, pos, after, none⟩).run P w = .ok (.value (.pointer (some ⟨w.heap.size, 0, none⟩))) (w.alloc (.mapIter (some b) cl #[] cl)) := by
    have := run_range_map (P := P) w t kt et b _ cl hu hb
    simp [execOp, e1, this]
  rw [hrun]
  exact hK _ _ ((hn w.heap.size).out _ _ _ (hs.newOb (e := 0) _ (Nat.le_of_ble_eq_true hd)))
def nxV (go : Bool) (e : Int × Value × Nat) : Value := if go then .tuple #[.bool true, .int .i64 e.1, e.2.1] else .tuple #[.bool false]
theorem mem_leftOf {l : MEs} {seen : Array Nat} {x : MapEntry} (h : x ∈ (leftOf (l.map mEnt).toArray seen).toList) : ∃ e ∈ l, mEnt e = x ∧ e.2.2 ∉ seen := by
  unfold leftOf at h
  simp only [Array.toList_filter, List.mem_filter, List.mem_map] at h
  obtain ⟨⟨e, he, rfl⟩, h2⟩ := h
  exact ⟨e, he, rfl, by simpa [mEnt] using h2⟩
theorem leftOf_none {l : MEs} {seen : Array Nat} (h : (leftOf (l.map mEnt).toArray seen).size = 0) : ∀ e ∈ l, e.2.2 ∈ seen := fun e he => by
  have hm : mEnt e ∈ (l.map mEnt).toArray.toList := by simpa using ⟨e.1, e.2.1, e.2.2, he, rfl⟩
  have := all_seen _ seen h _ hm
  simpa [mEnt] using this
theorem JO.next {it : Operand} {r b since last cl : Nat} {eb er : TypeId} {seen : Array Nat} {l : MEs} {C : Obj → List Own} (hit : opTy K it = some (.is (.pointer (some ⟨r, 0, none⟩)))) (hu : ∀ o, Upd L ⟨r, er, .ob (.mapIter (some b) since seen last)⟩ ⟨r, er, .ob o⟩ (C o)) (hm : ⟨b, eb, .ob (mObj l cl)⟩ ∈ L)
    (hold : ∀ e ∈ l, e.2.2 < since) (hsl : since ≤ last) (hd : Nat.blt d c.n = true)
    (hn : ∀ (go : Bool) (e : Int × Value × Nat) (seen' : Array Nat) (last' : Nat), (go = true → e ∈ l ∧ e.2.2 ∉ seen ∧ seen' = seen.push e.2.2 ∧ cl = last') → (go = false → seen = seen' ∧ last = last' ∧ ∀ e ∈ l, e.2.2 ∈ seen) →
      JO P c ((d, .is (nxV go e)) :: K) (C (.mapIter (some b) since seen' last')) Φ ops rest Q) : JO P c K L Φ ops (⟨some d, .next it false, ty, pos, after, none⟩ :: rest) Q := by
  refine ⟨fun E a w hs => wpList_plain rfl fun K' hK => ?_⟩
  unfold Oper.wp
  have e1 : a.eval it = .pointer (some ⟨r, 0, none⟩) := opTy_eval hs hit
  have hb := own_ob (hs.l _ hm)
  have hur := hu (.mapIter (some b) since seen last)
  have hr := own_ob (hs.l _ hur.mem)
  have hrE := (hs.l _ hur.mem).1
  have hho : ∀ x ∈ ((l.map mEnt).toArray).toList, x.born < since := fun x hx => by
    have hx' : x ∈ l.map mEnt := hx
    obtain ⟨e, he, rfl⟩ := List.mem_map.1 hx'
    exact hold e he
  have hdn : ∀ d', some d = some d' → d' < c.n := fun d' e => by injection e with e; subst e; exact Nat.le_of_ble_eq_true hd
  rcases run_next_at (P := P) w ty r b since last seen _ cl hr hb hho hsl with ⟨h0, hrun⟩ | ⟨x, hx, w1, hw1, hrun⟩
  · have hrun' : (execOp a.eval ⟨some d, .next it false, ty, pos, after, none⟩).run P w = .ok (.value (nxV false (0, undef, 0))) w := by simp [execOp, e1, hrun, nxV]
    rw [hrun']
    refine hK _ _ ((hn false (0, undef, 0) seen last (fun h => by cases h) (fun _ => ⟨rfl, rfl, leftOf_none h0⟩)).out E _ w ?_)
    refine hs.put (dst := some d) (T := .is (nxV false (0, undef, 0))) (Ev.of_keeps (.refl _ _)) hs.wf rfl hdn (fun o ho => ?_) (by rw [hur.same rfl]; exact hs.ld) hs.keeps fun o ho => ?_
    · exact hur.all hs.ld (fun m hm _ => hs.l m hm) (hs.l _ hur.mem) o ho
    · have : o.b ∈ L.map (·.b) := by rw [← hur.same rfl]; exact List.mem_map_of_mem ho
      obtain ⟨m, hm, e'⟩ := List.mem_map.1 this
      rw [← e']
      exact hs.may m hm
  · obtain ⟨e, he, rfl, hns⟩ := mem_leftOf hx
    have hrun' : (execOp a.eval ⟨some d, .next it false, ty, pos, after, none⟩).run P w = .ok (.value (nxV true e)) (setBlock w1 r (.mapIter (some b) since (seen.push e.2.2) cl)) := by
      simp [execOp, e1, hrun, nxV, mEnt]
    rw [hrun']
    have hup := hu (.mapIter (some b) since (seen.push e.2.2) cl)
    have hk1 : Keeps noX w w1 := by rcases hw1 with rfl | rfl; exact .refl _ _; exact Keeps.drew w
    have hr1 : w1.heap[r]? = some (.mapIter (some b) since seen last) := by rcases hw1 with rfl | rfl <;> exact hr
    have hk2 : Keeps (fun q => q = r) w1 (setBlock w1 r (.mapIter (some b) since (seen.push e.2.2) cl)) := Keeps.setOb hr1 (fun _ _ _ h => by cases h)
    have hk : Keeps (fun q => q = r) w (setBlock w1 r (.mapIter (some b) since (seen.push e.2.2) cl)) := hk1.of_noX.trans hk2
    have hev : Ev E w E (setBlock w1 r (.mapIter (some b) since (seen.push e.2.2) cl)) := Ev.of_keeps (hk.mono fun q _ e => by rw [e]; exact hrE)
    refine hK _ _ ((hn true e (seen.push e.2.2) cl (fun _ => ⟨he, hns, rfl, rfl⟩) (fun h => by cases h)).out E _ _ ?_)
    refine hs.put (dst := some d) (T := .is (nxV true e)) hev (fun q hq => Nat.lt_of_lt_of_le (hs.wf q hq) hk.size) rfl hdn (fun o ho => ?_) (by rw [hup.same rfl]; exact hs.ld) (hs.keeps.step hk fun q hq => ?_) fun o ho => ?_
    · refine hup.all hs.ld (fun m hm hne => Own.keep (hs.l m hm) hev (hk.blk _ (lt_of_get (hs.l m hm).2.choose_spec.1) hne)) (at_ob ?_ hrE) o ho
      exact (MapKept.heap_set hr1).1
    · rw [hq]; exact hs.may _ hur.mem
    · have : o.b ∈ L.map (·.b) := by rw [← hup.same rfl]; exact List.mem_map_of_mem ho
      obtain ⟨m, hm, e'⟩ := List.mem_map.1 this
      rw [← e']
      exact hs.may m hm
end
section
variable {P : Program} {L : List Own} {Φ : List (World → Prop)} {H : Know} {dst : Option Nat} {ty : TypeId} {pos : String} {after : Array Edge} {g : Option (Nat × Bool)}
theorem ob_exI {t : Operand} {i : Nat} {xs : Array Value} {v : Value} (hx : H t (.is (.tuple xs))) (hv : xs[i]? = some v) : Ob P L Φ H ⟨dst, .extract t i, ty, pos, after, g⟩ (.is v) :=
  ob_is fun E w ρ hp => by
    have h1 : ρ t = .tuple xs := hp.x t _ (by simp [Op.operands]) hx
    simp [execOp, h1, Instr.extract, hv]
theorem ob_nx {t : Operand} {go : Bool} {e : Int × Value × Nat} (hx : H t (.is (nxV go e))) : Ob P L Φ H ⟨dst, .extract t 0, ty, pos, after, g⟩ (.is (.bool go)) := by
  cases go with
  | true => exact ob_exI (xs := #[.bool true, .int .i64 e.1, e.2.1]) hx rfl
  | false => exact ob_exI (xs := #[.bool false]) hx rfl
theorem ob_entry {it : Operand} {r b since cl : Nat} {er eb : TypeId} {seen : Array Nat} {l : MEs} {e : Int × Value × Nat} (hit : H it (.is (.pointer (some ⟨r, 0, none⟩)))) (hr : ⟨r, er, .ob (.mapIter (some b) since (seen.push e.2.2) cl)⟩ ∈ L) (hm : ⟨b, eb, .ob (mObj l cl)⟩ ∈ L) (he : e ∈ l) (hn : (l.map (·.2.2)).Nodup) :
    Ob P L Φ H ⟨dst, .entry it, ty, pos, after, g⟩ (.is (.tuple #[.int .i64 e.1, e.2.1])) :=
  ob_is fun E w ρ hp => by
    have h1 : ρ it = .pointer (some ⟨r, 0, none⟩) := hp.x it _ (by simp [Op.operands]) hit
    have h2 := run_entry_at (P := P) w r b since seen (l.map mEnt).toArray cl (mEnt e) (own_ob (hp.l _ hr)) (own_ob (hp.l _ hm)) (by simpa using List.mem_map_of_mem he) (by simpa [Function.comp_def, mEnt] using hn)
    simp [execOp, h1, h2, mEnt]
def mStamp (n : Int) (l : MEs) (cl : Nat) : Nat := ((l.find? fun x => decide (n = x.1)).map (·.2.2)).getD cl
theorem obm_ment {mt kt et : TypeId} {m k : Operand} {M M' : List Own} {b : Nat} {e : TypeId} {l : MEs} {cl : Nat} {n : Int} {z : Value} (hm' : P.underlying mt = some (.map kt et)) (hk' : P.underlying kt = some (.int .i64)) (hz : zeroOf P et = some z) (hm : H m (.is (.map (some b)))) (hk : H k (.is (.int .i64 n)))
    (hu : Upd M ⟨b, e, .ob (mObj l cl)⟩ ⟨b, e, .ob (mObj (if mHas n l then l else l ++ [(n, z, cl)]) (if mHas n l then cl else cl + 1))⟩ M') :
    ObM P L Φ H M ⟨dst, .mapEntry mt m k, ty, pos, after, g⟩ (.is (.tuple #[(mGet n l).getD z, .int .i64 (mStamp n l cl : Nat)])) M' :=
  obm_ob (v := .tuple #[(mGet n l).getD z, .int .i64 (mStamp n l cl : Nat)]) hu mObj_ne (fun _ _ => rfl) fun E w ρ hp hb => by
    have e1 : ρ m = .map (some b) := hp.x m _ (by simp [Op.operands]) hm
    have e2 : ρ k = .int .i64 n := hp.x k _ (by simp [Op.operands]) hk
    have hf := MapKept.run_findKey (P := P) (w := w) hk' (findNow_ent n l 0)
    have hfg := mFind_get n l 0
    have hzv : (zeroValue et).run P w = .ok z w := by
      unfold zeroOf at hz
      cases hi : P.info? et with
      | none => rw [hi] at hz; cases hz
      | some i => rw [hi, Option.bind_some] at hz; simp [zeroValue, typeInfo, hi, hz]
    refine ⟨_, ?_, .inl rfl⟩
    cases hq : mFind n l 0 with
    | none =>
      rw [hq] at hf hfg
      have hh := mFind_none hq
      have hfi : l.find? (fun x => decide (n = x.1)) = none := by
        clear hf hfg hq hb hp hu
        induction l with
        | nil => rfl
        | cons x l ih =>
          rw [mHas, Bool.or_eq_false_iff] at hh
          rw [List.find?_cons, hh.1, ih hh.2]
      rw [hh, ← hfg, mStamp, hfi]
      simp only [Bool.false_eq_true, if_false, mObj, Option.map_none, Option.getD_none]
      rw [← ent_push]
      simp [execOp, e1, e2, Instr.mapEntry, run_underlying hm', MapKept.run_getObj_map hb, checkKey_int hk', hf, Result.andThen, MapKept.run_setObj_map _ hb, mEnt, hzv, goInt]
    | some p =>
      obtain ⟨j, u⟩ := p
      rw [hq] at hf hfg
      obtain ⟨hh, _, e0, h3, h4, _, _⟩ := mFind_some hq
      have hfi : l.find? (fun x => decide (n = x.1)) = some e0 := by
        clear hf hfg hb hp hu hh
        have gen : ∀ (l : MEs) (i j : Nat) (u : Value) (e0 : Int × Value × Nat), mFind n l i = some (j, u) → l[j - i]? = some e0 → l.find? (fun x => decide (n = x.1)) = some e0 := by
          intro l
          induction l with
          | nil => intro i j u e0 h; cases h
          | cons x l ih =>
            intro i j u e0 h h3
            rw [mFind] at h
            rw [List.find?_cons]
            by_cases hn : n = x.1
            · rw [if_pos hn] at h
              injection h with h
              injection h with h1 h2
              subst h1
              simp only [Nat.sub_self, List.getElem?_cons_zero, Option.some.injEq] at h3
              simp [hn, h3]
            · rw [if_neg hn] at h
              have hle := (mFind_some h).2.1
              have hs : j - i = (j - (i + 1)) + 1 := by omega
              rw [hs, List.getElem?_cons_succ] at h3
              simp only [hn, decide_false]
              exact ih _ _ _ _ h h3
        exact gen l 0 j u e0 hq h3
      rw [hh, ← hfg, mStamp, hfi]
      simp only [if_true, mObj, Option.map_some, Option.getD_some]
      simp only [Nat.sub_zero] at h3
      have hst : (Instr.keyThatStays (.int .i64 n) (.int .i64 n)).run P w = .ok (.int .i64 n) w := MapKept.run_keyThatStays (d := .int .i64) (by simp [MapKept.IsKey])
      have hmod : (l.map mEnt).toArray.modify j (fun e => { e with key := .int .i64 n }) = (l.map mEnt).toArray := by
        apply Array.ext_getElem?
        intro i
        rw [Array.getElem?_modify]
        by_cases h : j = i
        · subst h
          simp [h3, mEnt, h4]
        · simp [h]
      have hmod' : (l.map mEnt).toArray.modify j (fun e => { key := .int .i64 n, val := e.val, born := e.born }) = (l.map mEnt).toArray := hmod
      have hgk : ((((l.map mEnt).toArray[j]?).map (·.key)).getD (.int .i64 n)) = .int .i64 n := by simp [h3, mEnt, h4]
      have hgb : ((((l.map mEnt).toArray[j]?).map (fun x => ((x.born : Nat) : Int))).getD 0) = (e0.2.2 : Int) := by simp [h3, mEnt]
      have hrun : (Instr.mapEntry mt (.map (some b)) (.int .i64 n)).run P w = .ok (.tuple #[u, .int .i64 (e0.2.2 : Nat)]) { w with heap := w.heap.setIfInBounds b (.map (l.map mEnt).toArray cl) } := by
        unfold Instr.mapEntry
        simp only [Sem.run_bind, run_underlying hm', Result.andThen_ok, MapKept.run_getObj_map hb, checkKey_int hk', hf, hgk, hgb, hst, hmod', MapKept.run_setObj_map _ hb, Sem.run_pure]
        simp [h3, mEnt, goInt]
      simp only [execOp, e1, e2, Sem.run_bind, hrun, Result.andThen_ok, Sem.run_pure]
theorem mk_store (l : MEs) (st : Nat) (V : Value) (hn : (l.map (·.2.2)).Nodup) {i : Nat} (hi : (l.map mEnt).toArray.findIdx? (fun e => (e.born : Int) == (st : Int)) = some i) :
    (l.map mEnt).toArray.modify i (fun e => { e with val := V }) = ((l.map fun x => if x.2.2 = st then (x.1, V, x.2.2) else x).map mEnt).toArray := by
  apply Array.ext_getElem?
  intro j
  rw [Array.getElem?_modify]
  have hi' : ∃ h : i < l.length, (l[i]'h).2.2 = st := by
    rw [Array.findIdx?_eq_some_iff_getElem] at hi
    obtain ⟨h, h1, _⟩ := hi
    have h' : i < l.length := by simpa using h
    refine ⟨h', ?_⟩
    have h2 : (((l[i]'h').2.2 : Nat) : Int) = (st : Int) := by simpa [mEnt] using h1
    exact Int.ofNat.inj h2
  obtain ⟨hil, hst⟩ := hi'
  by_cases h : i = j
  · subst h
    have hm : l[i]? = some l[i] := List.getElem?_eq_getElem hil
    simp [hm, hst, mEnt]
  · simp only [h, if_false, List.getElem?_toArray, List.getElem?_map]
    cases hj : l[j]? with
    | none => rfl
    | some x =>
      have hne : x.2.2 ≠ st := fun e => by
        obtain ⟨hjl, hx⟩ := List.getElem?_eq_some_iff.1 hj
        have hp := List.pairwise_iff_getElem.1 hn
        rcases Nat.lt_or_ge i j with h' | h'
        · exact hp i j (by simpa using hil) (by simpa using hjl) h' (by simp [hst, hx, e])
        · exact hp j i (by simpa using hjl) (by simpa using hil) (by omega) (by simp [hst, hx, e])
      simp [hne]
theorem obm_mest {mt : TypeId} {m s v : Operand} {M M' : List Own} {b : Nat} {e : TypeId} {l : MEs} {cl st : Nat} {V : Value} (hm : H m (.is (.map (some b)))) (hs : H s (.is (.int .i64 (st : Nat)))) (hv : H v (.is V)) (hn : (l.map (·.2.2)).Nodup) (hi : st ∈ l.map (·.2.2))
    (hu : Upd M ⟨b, e, .ob (mObj l cl)⟩ ⟨b, e, .ob (mObj (l.map fun x => if x.2.2 = st then (x.1, V, x.2.2) else x) cl)⟩ M') : ObM P L Φ H M ⟨none, .entryStore mt m s v, ty, pos, after, g⟩ .any M' :=
  obm_ob (v := undef) hu mObj_ne (fun _ _ => trivial) fun E w ρ hp hb => by
    have e1 : ρ m = .map (some b) := hp.x m _ (by simp [Op.operands]) hm
    have e2 : ρ s = .int .i64 st := hp.x s _ (by simp [Op.operands]) hs
    have e3 : ρ v = V := hp.x v _ (by simp [Op.operands]) hv
    refine ⟨.skip, ?_, .inr ⟨rfl, rfl⟩⟩
    obtain ⟨i, hfi⟩ : ∃ i, (l.map mEnt).toArray.findIdx? (fun e => (e.born : Int) == (st : Int)) = some i := by
      cases hq : (l.map mEnt).toArray.findIdx? (fun e => (e.born : Int) == (st : Int)) with
      | some i => exact ⟨i, rfl⟩
      | none =>
        rw [Array.findIdx?_eq_none_iff] at hq
        obtain ⟨x, hx, hxs⟩ := List.mem_map.1 hi
        have := hq (mEnt x) (by simpa using ⟨x.1, x.2.1, x.2.2, hx, rfl⟩)
        simp [mEnt, hxs] at this
    rw [mObj, ← mk_store l st V hn hfi]
    have hai : (asInt (.int .i64 (st : Nat))).run P w = .ok (st : Int) w := by simp [asInt, asIntOf]
    have hrun : (Instr.entryStore mt (.map (some b)) (.int .i64 (st : Nat)) V).run P w = .ok () { w with heap := w.heap.setIfInBounds b (.map ((l.map mEnt).toArray.modify i fun e => { e with val := V }) cl) } := by
      unfold Instr.entryStore
      simp only [Sem.run_bind, MapKept.run_getObj_map hb, Result.andThen_ok, hai, hfi, MapKept.run_setObj_map _ hb]
    simp only [execOp, e1, e2, e3, Sem.run_bind, hrun, Result.andThen_ok, Sem.run_pure]
end
end Go.Vc
