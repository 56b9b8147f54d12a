/- What each operation does, in types: calls, strings, lists, stores. No condition. -/
import Derived.Test.YtjlojkchgfeenaaXVc7
namespace Go.Vc
open Go
section
variable {P : Program} {L : List Own} {Φ : List (World → Prop)} {H : Know} {dst : Option Nat} {ty : TypeId} {pos : String} {after : Array Edge} {g : Option (Nat × Bool)}
theorem TyAll.append {E : Nat → Prop} {w : World} : ∀ {As Bs : List Ty} {xs ys : List Value}, TyAll E w As xs → TyAll E w Bs ys → TyAll E w (As ++ Bs) (xs ++ ys)
  | [], _, [], _, _, h => h
  | _ :: _, _, _ :: _, _, ⟨h1, h2⟩, h => ⟨h1, TyAll.append h2 h⟩
  | [], _, _ :: _, _, h, _ => h.elim
  | _ :: _, _, [], _, h, _ => h.elim
theorem TyAll.is {E : Nat → Prop} {w : World} : ∀ (vs : List Value), TyAll E w (vs.map Ty.is) vs
  | [] => trivial
  | _ :: vs => ⟨rfl, TyAll.is vs⟩
theorem run_call {f : FuncId} {As : List Ty} {R : Ty} (hc : CallTy P f As R) {E : Nat → Prop} {w : World} {vs : List Value} (hw : ∀ b, E b → b < w.heap.size) (ht : TyAll E w As vs) :
    Runs P ((callFunc f vs.toArray).run P w) fun v w' => Keeps noX w w' ∧ R.p E v w' := by
  rw [hc.enter]
  refine Calls.mono (hc.calls E w vs hw ht) ?_
  rintro e w' ⟨v, rfl, h⟩
  exact h
theorem ob_callv {cal : Operand} {f : FuncId} {xs : List Operand} {ats : Array TypeId} {As : List Ty} {fs cs : List Value} {R : Ty} (hf : H cal (.is (.func (.func f) fs.toArray cs.toArray))) (hc : CallTy P f (fs.map Ty.is ++ As ++ cs.map Ty.is) R) (ha : Args L Φ H xs As) :
    Ob P L Φ H ⟨dst, .call { callee := .value cal, args := xs.toArray, argTypes := ats }, ty, pos, after, g⟩ R := fun E w ρ hp => by
  have h1 : ρ cal = .func (.func f) fs.toArray cs.toArray := hp.x cal _ (by simp [Op.operands, Call.operands]) hf
  have hall := ha.all (ρ := ρ) (pre_facts hp) fun x T hx => hp.x x T (by simp [Op.operands, Call.operands, hx])
  have h2 := run_call hc hp.wf (((TyAll.is fs).append hall).append (TyAll.is cs))
  simp only [execOp, resolve, h1, Deferred.ofValue, invoke, Sem.run_bind, Sem.run_pure, Result.andThen_ok, List.map_toArray]
  rw [show fs.toArray ++ (xs.map ρ).toArray ++ cs.toArray = (fs ++ xs.map ρ ++ cs).toArray by simp]
  exact h2
theorem ob_call {f : FuncId} {xs : List Operand} {ats : Array TypeId} {As : List Ty} {R : Ty} (hf : H (.func f) (.is (.func (.func f) #[] #[]))) (hc : CallTy P f As R) (ha : Args L Φ H xs As) :
    Ob P L Φ H ⟨dst, .call { callee := .value (.func f), args := xs.toArray, argTypes := ats }, ty, pos, after, g⟩ R :=
  ob_callv (fs := []) (cs := []) hf (by simpa using hc) ha
theorem ob_extract0 {t : Operand} {A B : Ty} (h : H t (.tup2 A B)) : Ob P L Φ H ⟨dst, .extract t 0, ty, pos, after, g⟩ A := fun E w ρ hp => by
  obtain ⟨x, y, e, h1, h2⟩ := hp.x t _ (by simp [Op.operands]) h
  simp only [execOp, e, Instr.extract]
  exact ⟨.refl _ _, h1⟩
theorem ob_extract1 {t : Operand} {A B : Ty} (h : H t (.tup2 A B)) : Ob P L Φ H ⟨dst, .extract t 1, ty, pos, after, g⟩ B := fun E w ρ hp => by
  obtain ⟨x, y, e, h1, h2⟩ := hp.x t _ (by simp [Op.operands]) h
  simp only [execOp, e, Instr.extract]
  exact ⟨.refl _ _, h2⟩
theorem ob_extract30 {t : Operand} {A B C : Ty} (h : H t (.tup3 A B C)) : Ob P L Φ H ⟨dst, .extract t 0, ty, pos, after, g⟩ A := fun E w ρ hp => by
  obtain ⟨x, y, z, e, h1, h2, h3⟩ := hp.x t _ (by simp [Op.operands]) h
  simp only [execOp, e, Instr.extract]
  exact ⟨.refl _ _, h1⟩
theorem ob_extract31 {t : Operand} {A B C : Ty} (h : H t (.tup3 A B C)) : Ob P L Φ H ⟨dst, .extract t 1, ty, pos, after, g⟩ B := fun E w ρ hp => by
  obtain ⟨x, y, z, e, h1, h2, h3⟩ := hp.x t _ (by simp [Op.operands]) h
  simp only [execOp, e, Instr.extract]
  exact ⟨.refl _ _, h2⟩
theorem ob_extract32 {t : Operand} {A B C : Ty} (h : H t (.tup3 A B C)) : Ob P L Φ H ⟨dst, .extract t 2, ty, pos, after, g⟩ C := fun E w ρ hp => by
  obtain ⟨x, y, z, e, h1, h2, h3⟩ := hp.x t _ (by simp [Op.operands]) h
  simp only [execOp, e, Instr.extract]
  exact ⟨.refl _ _, h3⟩
theorem ob_not {xt : TypeId} {x : Operand} {b : Bool} (h : H x (.is (.bool b))) : Ob P L Φ H ⟨dst, .unOp .not xt x, ty, pos, after, g⟩ (.is (.bool (!b))) :=
  ob_is fun E w ρ hp => by
    have h1 : ρ x = .bool b := hp.x x _ (by simp [Op.operands]) h
    simp [execOp, h1, Op.unary]
theorem ob_neg {xt : TypeId} {x : Operand} {k : IntKind} {n : Int} (h : H x (.is (.int k n))) : Ob P L Φ H ⟨dst, .unOp .neg xt x, ty, pos, after, g⟩ (.is (.int k (k.wrap (0 - n)))) :=
  ob_is fun E w ρ hp => by
    have h1 : ρ x = .int k n := hp.x x _ (by simp [Op.operands]) h
    simp [execOp, h1, Op.unary, Op.intArith]
def seq (s t : ByteArray) : Bool := s.toList == t.toList
theorem ob_seql {xt yt : TypeId} {x y : Operand} {s t : ByteArray} (hx : H x (.is (.string s))) (hy : H y (.is (.string t))) : Ob P L Φ H ⟨dst, .binOp .eql xt x y yt, ty, pos, after, g⟩ (.is (.bool (seq s t))) :=
  ob_bin hx hy fun w => by simp [eqGuard, binOp, Op.stringOp, seq]
theorem ob_sneq {xt yt : TypeId} {x y : Operand} {s t : ByteArray} (hx : H x (.is (.string s))) (hy : H y (.is (.string t))) : Ob P L Φ H ⟨dst, .binOp .neq xt x y yt, ty, pos, after, g⟩ (.is (.bool (!seq s t))) :=
  ob_bin hx hy fun w => by simp [eqGuard, binOp, Op.stringOp, seq]
def slt (s t : ByteArray) : Bool := Op.bytesLess s.toList t.toList
theorem ob_slss {xt yt : TypeId} {x y : Operand} {s t : ByteArray} (hx : H x (.is (.string s))) (hy : H y (.is (.string t))) : Ob P L Φ H ⟨dst, .binOp .lss xt x y yt, ty, pos, after, g⟩ (.is (.bool (slt s t))) :=
  ob_bin hx hy fun w => by simp [eqGuard, binOp, Op.stringOp, slt]
theorem ob_sgtr {xt yt : TypeId} {x y : Operand} {s t : ByteArray} (hx : H x (.is (.string s))) (hy : H y (.is (.string t))) : Ob P L Φ H ⟨dst, .binOp .gtr xt x y yt, ty, pos, after, g⟩ (.is (.bool !(slt s t || seq s t))) :=
  ob_bin hx hy fun w => by simp [eqGuard, binOp, Op.stringOp, slt, seq]
theorem run_equal_bool {t : TypeId} (hu : P.underlying t = some .bool) (x y : Bool) (w : World) : (Op.equal t (.bool x) (.bool y)).run P w = .ok (x == y) w := by
  have h : ∀ d, (Op.equalIn (d + 1) t (.bool x) (.bool y)).run P w = .ok (x == y) w := fun d => by simp [Op.equalIn, run_underlying hu]
  exact h 9999
theorem ob_beql {xt yt : TypeId} {x y : Operand} {s t : Bool} (hu : P.underlying xt = some .bool) (hx : H x (.is (.bool s))) (hy : H y (.is (.bool t))) : Ob P L Φ H ⟨dst, .binOp .eql xt x y yt, ty, pos, after, g⟩ (.is (.bool (s == t))) :=
  ob_bin hx hy fun w => by simp [eqGuard, binOp, run_equal_bool hu]
theorem ob_bneq {xt yt : TypeId} {x y : Operand} {s t : Bool} (hu : P.underlying xt = some .bool) (hx : H x (.is (.bool s))) (hy : H y (.is (.bool t))) : Ob P L Φ H ⟨dst, .binOp .neq xt x y yt, ty, pos, after, g⟩ (.is (.bool (!(s == t)))) :=
  ob_bin hx hy fun w => by simp [eqGuard, binOp, run_equal_bool hu]
theorem ob_len {t e : TypeId} {x : Operand} {a : Option Addr} {n cap : Nat} (hu : P.underlying t = some (.slice e)) (hx : H x (.is (.slice a n cap))) : Ob P L Φ H ⟨dst, .call { callee := .builtin .len, args := #[x], argTypes := #[t] }, ty, pos, after, g⟩ (.is (.int .i64 n)) :=
  ob_is fun E w ρ hp => by
    have h1 : ρ x = .slice a n cap := hp.x x _ (by simp [Op.operands, Call.operands]) hx
    simp [execOp, resolve, invoke, builtin, Builtin.len_, run_underlying hu, h1, goInt]
theorem ob_slen {t : TypeId} {x : Operand} {s : ByteArray} (hu : P.underlying t = some .string) (hx : H x (.is (.string s))) : Ob P L Φ H ⟨dst, .call { callee := .builtin .len, args := #[x], argTypes := #[t] }, ty, pos, after, g⟩ (.is (.int .i64 s.size)) :=
  ob_is fun E w ρ hp => by
    have h1 : ρ x = .string s := hp.x x _ (by simp [Op.operands, Call.operands]) hx
    simp [execOp, resolve, invoke, builtin, Builtin.len_, run_underlying hu, h1, goInt]
theorem ob_max {x y : Operand} {ats : Array TypeId} {k k' : IntKind} {a b : Int} (hx : H x (.is (.int k a))) (hy : H y (.is (.int k' b))) : Ob P L Φ H ⟨dst, .call { callee := .builtin .max, args := #[x, y], argTypes := ats }, ty, pos, after, g⟩ (.is (.int k (if b > a then b else a))) :=
  ob_is fun E w ρ hp => by
    have h1 : ρ x = .int k a := hp.x x _ (by simp [Op.operands, Call.operands]) hx
    have h2 : ρ y = .int k' b := hp.x y _ (by simp [Op.operands, Call.operands]) hy
    simp [execOp, resolve, invoke, builtin, Builtin.max_, Builtin.max2, h1, h2]
def elSize (P : Program) (t : TypeId) : Option Nat := match P.underlying t with | some (.slice e) => (P.info? e).map (·.size) | _ => none
theorem ob_indexAddr {t : TypeId} {x i : Operand} {a : Option Addr} {b o len cap sz : Nat} {k : IntKind} {n : Int} (hs : elSize P t = some sz) (hx : H x (.is (.slice a len cap))) (ha : a = some ⟨b, o, none⟩) (hi : H i (.is (.int k n))) (h0 : 0 ≤ n) (h1 : n < len) :
    Ob P L Φ H ⟨dst, .indexAddr t x i, ty, pos, after, g⟩ (.is (.pointer (some ⟨b, o + n.toNat * sz, none⟩))) :=
  ob_is fun E w ρ hp => by
    subst ha
    have e1 : ρ x = .slice (some ⟨b, o, none⟩) len cap := hp.x x _ (by simp [Op.operands]) hx
    have e2 : ρ i = .int k n := hp.x i _ (by simp [Op.operands]) hi
    unfold elSize at hs
    cases hu : P.underlying t with
    | none => rw [hu] at hs; cases hs
    | some d =>
      rw [hu] at hs
      cases d with
      | slice e =>
        cases hq : P.info? e with
        | none => simp [hq] at hs
        | some ie =>
          simp only [hq, Option.map_some, Option.some.injEq] at hs
          simp [execOp, e1, e2, Instr.indexAt, asIntOf, run_underlying hu, h0, h1, sizeOf, typeInfo, hq, hs, add_at]
      | _ => cases hs
theorem ob_indexNew {t : TypeId} {x i : Operand} {len cap sz : Nat} {ob : Obj} {k : IntKind} {n : Int} (hs : elSize P t = some sz) (hx : H x (.newSl ob len cap)) (hi : H i (.is (.int k n))) (h0 : 0 ≤ n) (h1 : n < len) :
    Ob P L Φ H ⟨dst, .indexAddr t x i, ty, pos, after, g⟩ (.newPtr ob (n.toNat * sz)) := fun E w ρ hp => by
    obtain ⟨b, e1, hb1, hb2⟩ := hp.x x _ (by simp [Op.operands]) hx
    have e2 : ρ i = .int k n := hp.x i _ (by simp [Op.operands]) hi
    unfold elSize at hs
    cases hu : P.underlying t with
    | none => rw [hu] at hs; cases hs
    | some d =>
      rw [hu] at hs
      cases d with
      | slice e =>
        cases hq : P.info? e with
        | none => simp [hq] at hs
        | some ie =>
          simp only [hq, Option.map_some, Option.some.injEq] at hs
          have hr : (execOp ρ ⟨dst, .indexAddr t x i, ty, pos, after, g⟩).run P w = .ok (.value (.pointer (some ⟨b, n.toNat * sz, none⟩))) w := by
            simp [execOp, e1, e2, Instr.indexAt, asIntOf, run_underlying hu, h0, h1, sizeOf, typeInfo, hq, hs, add_at]
          rw [hr]
          exact ⟨.refl _ _, b, rfl, hb1, hb2⟩
      | _ => cases hs
theorem ob_loadNew1 {t ety : TypeId} {x : Operand} {off : Nat} {cs : Array Value} {fr : Nat × Nat} {v : Value} (hs : szOf P t = some none) (hx : H x (.newPtr (.cells cs ety fr) off)) (hv : cs[off]? = some v) : Ob P L Φ H ⟨dst, .load t x, ty, pos, after, g⟩ (.is v) :=
  ob_is fun E w ρ hp => by
    obtain ⟨b, e1, hb1, hb2⟩ := hp.x x _ (by simp [Op.operands]) hx
    have := run_load1 (P := P) (w := w) (t := t) (p := ⟨b, off, none⟩) (v := v) hs ((cell_of_blk hb2).trans hv)
    simp [execOp, e1, Instr.loadAt, Instr.sureAddr, this]
inductive PartsIs (H : Know) : List (Nat × Operand) → List (Nat × Value) → Prop
  | nil : PartsIs H [] []
  | cons {i : Nat} {x : Operand} {v : Value} {xs : List (Nat × Operand)} {vs : List (Nat × Value)} (h : H x (.is v)) (r : PartsIs H xs vs) : PartsIs H ((i, x) :: xs) ((i, v) :: vs)
theorem PartsIs.map {H : Know} {E : Nat → Prop} {w : World} {ρ : Operand → Value} {xs : List (Nat × Operand)} {vs : List (Nat × Value)} (h : PartsIs H xs vs) (hx : ∀ x T, x ∈ xs.map (·.2) → H x T → T.p E (ρ x) w) :
    xs.map (fun p => (p.1, ρ p.2)) = vs := by
  induction h with
  | nil => rfl
  | cons h r ih =>
    rw [List.map_cons, ih fun x T hm => hx x T (List.mem_cons_of_mem _ hm)]
    rw [show ρ _ = _ from hx _ _ List.mem_cons_self h]
structure Shape (P : Program) (t : TypeId) (pf : Nat → Option (Nat × Nat)) (zc : List Value) : Prop where
  h : ∀ parts, P.built t parts = Instr.fill pf zc.toArray parts
def putL : List Value → Nat → List Value → List Value
  | cs, _, [] => cs
  | [], _, _ => []
  | _ :: cs, 0, v :: vs => v :: putL cs 0 vs
  | c :: cs, n + 1, vs => c :: putL cs n vs
def fillV (pf : Nat → Option (Nat × Nat)) : List Value → List (Nat × Value) → List Value
  | cs, [] => cs
  | cs, (i, v) :: rest => fillV pf (match pf i with | some (off, _) => putL cs off v.cells.toList | none => cs) rest
def fillOK (pf : Nat → Option (Nat × Nat)) (n : Nat) : List (Nat × Value) → Bool
  | [] => true
  | (i, v) :: rest => (match pf i with | some (off, sz) => Nat.beq v.cells.size sz && Nat.ble (off + sz) n | none => false) && fillOK pf n rest
theorem putL_length : ∀ (cs : List Value) (n : Nat) (vs : List Value), (putL cs n vs).length = cs.length
  | cs, n, [] => by cases cs <;> cases n <;> rfl
  | [], n, v :: vs => by cases n <;> rfl
  | c :: cs, 0, v :: vs => by simp [putL, putL_length cs 0 vs]
  | c :: cs, n + 1, v :: vs => by simp [putL, putL_length cs n (v :: vs)]
theorem putL_get : ∀ (cs : List Value) (n : Nat) (vs : List Value) (j : Nat), n + vs.length ≤ cs.length → (putL cs n vs)[j]? = if n ≤ j ∧ j < n + vs.length then vs[j - n]? else cs[j]?
  | cs, n, [], j, _ => by
    have : putL cs n [] = cs := by cases cs <;> cases n <;> rfl
    rw [this, if_neg (by simp)]
  | [], n, v :: vs, j, h => by simp at h
  | c :: cs, 0, v :: vs, 0, _ => by simp [putL]
  | c :: cs, 0, v :: vs, j + 1, h => by
    have := putL_get cs 0 vs j (by simp at h; omega)
    simp only [putL, List.getElem?_cons_succ, this]
    by_cases hj : j < vs.length
    · rw [if_pos (by omega), if_pos (by simp; omega)]; simp
    · rw [if_neg (by omega), if_neg (by simp; omega)]
  | c :: cs, n + 1, v :: vs, 0, _ => by simp [putL]
  | c :: cs, n + 1, v :: vs, j + 1, h => by
    have := putL_get cs n (v :: vs) j (by simp at h ⊢; omega)
    simp only [putL, List.getElem?_cons_succ, this]
    by_cases hj : n ≤ j ∧ j < n + (v :: vs).length
    · rw [if_pos hj, if_pos (by omega), show j + 1 - (n + 1) = j - n by omega]
    · rw [if_neg hj, if_neg (by omega)]
theorem foldl_put (off : Nat) : ∀ (vs : List Value) (k : Nat) (cs : Array Value) (j : Nat), off + k + vs.length ≤ cs.size →
    ((vs.zipIdx k).foldl (fun cs (x : Value × Nat) => cs.setIfInBounds (off + x.2) x.1) cs)[j]? = if off + k ≤ j ∧ j < off + k + vs.length then vs[j - (off + k)]? else cs[j]?
  | [], k, cs, j, _ => by
    rw [if_neg (by rintro ⟨p, q⟩; simp at q; omega)]
    rfl
  | v :: vs, k, cs, j, h => by
    simp only [List.zipIdx_cons, List.foldl_cons]
    rw [foldl_put off vs (k + 1) _ j (by simp at h ⊢; omega)]
    simp at h
    by_cases hj : j = off + k
    · subst hj
      rw [if_neg (by omega), if_pos (by simp)]
      simp [Array.getElem?_setIfInBounds_self_of_lt (show off + k < cs.size by omega)]
    · by_cases hj2 : off + (k + 1) ≤ j ∧ j < off + (k + 1) + vs.length
      · rw [if_pos hj2, if_pos (by simp; omega)]
        rw [show j - (off + k) = (j - (off + (k + 1))) + 1 by omega, List.getElem?_cons_succ]
      · rw [if_neg hj2, if_neg (by simp; omega), Array.getElem?_setIfInBounds_ne (by omega)]
theorem fill_eq (pf : Nat → Option (Nat × Nat)) : ∀ (vs : List (Nat × Value)) (cs : List Value), fillOK pf cs.length vs = true → Instr.fill pf cs.toArray vs = some (fillV pf cs vs).toArray
  | [], cs, _ => rfl
  | (i, v) :: rest, cs, h => by
    simp only [fillOK, Bool.and_eq_true] at h
    obtain ⟨h1, h2⟩ := h
    cases hp : pf i with
    | none => rw [hp] at h1; cases h1
    | some q =>
      obtain ⟨off, sz⟩ := q
      rw [hp] at h1
      simp only [Bool.and_eq_true] at h1
      have e1 := Nat.eq_of_beq_eq_true h1.1
      have e2 := Nat.le_of_ble_eq_true h1.2
      have hput : (v.cells.zipIdx.foldl (fun cs (x : Value × Nat) => match x with | (c, j) => cs.setIfInBounds (off + j) c) cs.toArray) = (putL cs off v.cells.toList).toArray := by
        rw [← Array.foldl_toList]
        apply Array.ext_getElem?
        intro j
        have := foldl_put off v.cells.toList 0 cs.toArray j (by simp; omega)
        have e3 : (v.cells.zipIdx).toList = v.cells.toList.zipIdx := by simp
        rw [e3]
        refine this.trans ?_
        have h5 := putL_get cs off v.cells.toList j (by simp; omega)
        rw [show (putL cs off v.cells.toList).toArray[j]? = (putL cs off v.cells.toList)[j]? from List.getElem?_toArray, h5]
        simp
      simp only [Instr.fill, hp, fillV]
      rw [if_neg (by simp; omega)]
      have := fill_eq pf rest (putL cs off v.cells.toList) (by rw [putL_length]; exact h2)
      rw [← this]
      exact congrArg (fun c => Instr.fill pf c rest) hput
theorem ob_build {t : TypeId} {xs : List (Nat × Operand)} {vs : List (Nat × Value)} {pf : Nat → Option (Nat × Nat)} {zc : List Value} {cs : List Value} (hsh : Shape P t pf zc) (hp' : PartsIs H xs vs) (hok : fillOK pf zc.length vs = true) (hc : fillV pf zc vs = cs) :
    Ob P L Φ H ⟨dst, .build t xs.toArray, ty, pos, after, g⟩ (.is (.agg cs.toArray)) :=
  ob_is fun E w ρ hp => by
    have hm := hp'.map (ρ := ρ) (w := w) (E := E) fun x T hx => hp.x x T (by simpa [Op.operands] using hx)
    have hb := run_build (P := P) w t vs.toArray cs.toArray (by rw [hsh.h, ← hc]; exact fill_eq pf vs zc hok)
    simp only [execOp]
    rw [show (xs.toArray.map fun (i, x) => (i, ρ x)) = vs.toArray by rw [List.map_toArray]; exact congrArg List.toArray hm]
    simp [hb]
structure SlShape (P : Program) (t e : TypeId) (sz : Nat) (z : List Value) : Prop where
  hu : P.underlying t = some (.slice e)
  hi' : (P.info? e).map (fun i => (i.size, i.zero.map Value.cells)) = some (sz, some z.toArray)
  pos : 0 < sz
theorem SlShape.hi {P : Program} {t e : TypeId} {sz : Nat} {z : List Value} (h : SlShape P t e sz z) : ∃ ie zv, P.info? e = some ie ∧ ie.size = sz ∧ ie.zero = some zv ∧ zv.cells = z.toArray := by
  have h1 := h.hi'
  cases hq : P.info? e with
  | none => rw [hq] at h1; cases h1
  | some i =>
    rw [hq, Option.map_some, Option.some.injEq, Prod.mk.injEq] at h1
    cases hz : i.zero with
    | none => rw [hz] at h1; cases h1.2
    | some zv => rw [hz, Option.map_some, Option.some.injEq] at h1; exact ⟨i, zv, rfl, h1.1, hz, h1.2⟩
def zeros (z : List Value) (m : Nat) : List Value := (List.range m).map fun i => z.getD (i % z.length) undef
theorem zeros_eq (z : List Value) (hz : 0 < z.length) (m : Nat) : (Array.range m).map (fun i => z.toArray[i % z.toArray.size]!) = (zeros z m).toArray := by
  apply Array.ext_getElem?
  intro j
  simp only [zeros, Array.getElem?_map, List.getElem?_toArray, List.getElem?_map]
  by_cases hj : j < m
  · rw [Array.getElem?_eq_getElem (by simpa using hj), List.getElem?_eq_getElem (by simpa using hj)]
    simp [List.getElem?_eq_getElem (Nat.mod_lt j hz)]
  · rw [Array.getElem?_eq_none (by simpa using hj), List.getElem?_eq_none (by simpa using hj)]
    rfl
theorem run_buildSlice' (n : Nat) {t e : TypeId} {sz : Nat} {vs : List (Nat × Value)} {z cs : List Value} (w : World) (hsh : SlShape P t e sz z) (hn : 0 < n) (hsm : n * sz ≤ 16777216) (hzl : z.length = sz)
    (hok : fillOK (fun i => some (i * sz, sz)) (n * sz) vs = true) (hc : fillV (fun i => some (i * sz, sz)) (zeros z (n * sz)) vs = cs) :
    (Instr.buildSlice t n vs.toArray).run P w = .ok (.slice (some ⟨w.heap.size, 0, none⟩) n n) (w.alloc (.cells cs.toArray e)) := by
  obtain ⟨ie, zv, h1, h2, h3, h4⟩ := hsh.hi
  have hpos := hsh.pos
  refine run_buildSlice (P := P) w t e n vs.toArray cs.toArray ie zv hsh.hu h1 h3 (by rw [h2]; show ¬ n * sz > 16777216; omega) (by rw [h2]; exact Nat.ne_of_gt (Nat.mul_pos hn hpos)) ?_
  rw [h2, h4, zeros_eq z (by omega), ← hc]
  exact fill_eq _ vs _ (by simpa [zeros] using hok)
theorem ob_buildSlice {t e : TypeId} {n sz : Nat} {xs : List (Nat × Operand)} {vs : List (Nat × Value)} {z cs : List Value} (hsh : SlShape P t e sz z) (hn : 0 < n) (hsm : n * sz ≤ 16777216) (hp' : PartsIs H xs vs) (hzl : z.length = sz)
    (hok : fillOK (fun i => some (i * sz, sz)) (n * sz) vs = true) (hc : fillV (fun i => some (i * sz, sz)) (zeros z (n * sz)) vs = cs) :
    Ob P L Φ H ⟨dst, .buildSlice t n xs.toArray, ty, pos, after, g⟩ (.newSl (.cells cs.toArray e (0, 0)) n n) := fun E w ρ hp => by
  have hm := hp'.map (ρ := ρ) (w := w) (E := E) fun x T hx => hp.x x T (by simpa [Op.operands] using hx)
  have hb := run_buildSlice' n w hsh hn hsm hzl hok hc
  have hr : (execOp ρ ⟨dst, .buildSlice t n xs.toArray, ty, pos, after, g⟩).run P w = .ok (.value (.slice (some ⟨w.heap.size, 0, none⟩) n n)) (w.alloc (.cells cs.toArray e)) := by
    simp only [execOp]
    rw [show (xs.toArray.map fun (i, x) => (i, ρ x)) = vs.toArray by rw [List.map_toArray]; exact congrArg List.toArray hm]
    simp [hb]
  rw [hr]
  exact ⟨Keeps.alloc w _, w.heap.size, rfl, fun he => absurd (hp.wf _ he) (by omega), heap_alloc_at w _⟩
theorem ob_buildSlice0 {t e : TypeId} {sz : Nat} {z : List Value} (hsh : SlShape P t e sz z) :
    Ob P L Φ H ⟨dst, .buildSlice t 0 #[], ty, pos, after, g⟩ (.newSl (.cells #[] e (0, 0)) 0 0) := fun E w ρ hp => by
  obtain ⟨ie, zv, h1, h2, h3, h4⟩ := hsh.hi
  have hr : (execOp ρ ⟨dst, .buildSlice t 0 #[], ty, pos, after, g⟩).run P w = .ok (.value (.slice (some ⟨w.heap.size, 0, none⟩) 0 0)) (w.alloc (.cells #[] e)) := by
    have h0 : Array.range 0 = #[] := by decide
    simp [h0, execOp, Instr.buildSlice, run_underlying hsh.hu, sizeOf, typeInfo, h1, Instr.fill, newRow]
  rw [hr]
  exact ⟨Keeps.alloc w _, w.heap.size, rfl, fun he => absurd (hp.wf _ he) (by omega), heap_alloc_at w _⟩
inductive IsAll (H : Know) : List Operand → List Value → Prop
  | nil : IsAll H [] []
  | cons {x : Operand} {v : Value} {xs : List Operand} {vs : List Value} (h : H x (.is v)) (r : IsAll H xs vs) : IsAll H (x :: xs) (v :: vs)
theorem IsAll.map {E : Nat → Prop} {w : World} {ρ : Operand → Value} {xs : List Operand} {vs : List Value} (h : IsAll H xs vs) (hx : ∀ x T, x ∈ xs → H x T → T.p E (ρ x) w) : xs.map ρ = vs := by
  induction h with
  | nil => rfl
  | cons h r ih =>
    rw [List.map_cons, ih fun x T hm => hx x T (List.mem_cons_of_mem _ hm)]
    rw [show ρ _ = _ from hx _ _ List.mem_cons_self h]
theorem ob_makeFunc {f : FuncId} {xs ys : List Operand} {fs cs : List Value} (hx : IsAll H xs fs) (hy : IsAll H ys cs) : Ob P L Φ H ⟨dst, .makeFunc (.func f) xs.toArray ys.toArray, ty, pos, after, g⟩ (.is (.func (.func f) fs.toArray cs.toArray)) :=
  ob_is fun E w ρ hp => by
    have h1 := hx.map (ρ := ρ) (w := w) (E := E) fun x T hm => hp.x x T (by simp [Op.operands, hm])
    have h2 := hy.map (ρ := ρ) (w := w) (E := E) fun x T hm => hp.x x T (by simp [Op.operands, hm])
    simp [execOp, Instr.makeFunc, h1, h2]
inductive Upd : List Own → Own → Own → List Own → Prop
  | here {o o' : Own} {L : List Own} : Upd (o :: L) o o' (o' :: L)
  | there {x o o' : Own} {L L' : List Own} (h : Upd L o o' L') : Upd (x :: L) o o' (x :: L')
theorem Upd.mem {M M' : List Own} {o o' : Own} (h : Upd M o o' M') : o ∈ M := by
  induction h with
  | here => exact List.mem_cons_self
  | there h ih => exact List.mem_cons_of_mem _ ih
theorem Upd.keys {M M' : List Own} {o o' : Own} (h : Upd M o o' M') (hb : o'.b = o.b) : M'.map (·.b) = M.map (·.b) := by
  induction h with
  | here => simp [hb]
  | there h ih => simp [ih hb]
theorem Upd.all {M M' : List Own} {o o' : Own} (h : Upd M o o' M') {p : Own → Prop} (hnd : (M.map (·.b)).Nodup) (hp : ∀ m ∈ M, m.b ≠ o.b → p m) (ho : p o') : ∀ m ∈ M', p m := by
  induction h with
  | here =>
    intro m hm
    rw [List.map_cons, List.nodup_cons] at hnd
    rcases List.mem_cons.1 hm with rfl | hm
    · exact ho
    · exact hp m (List.mem_cons_of_mem _ hm) fun e => hnd.1 (by rw [← e]; exact List.mem_map_of_mem hm)
  | there h ih =>
    rename_i x o o' L L'
    intro m hm
    rw [List.map_cons, List.nodup_cons] at hnd
    rcases List.mem_cons.1 hm with rfl | hm
    · exact hp m List.mem_cons_self fun e => hnd.1 (by rw [e]; exact List.mem_map_of_mem h.mem)
    · exact ih hnd.2 (fun m hm => hp m (List.mem_cons_of_mem _ hm)) ho m hm
def Cnt (T : Ty) (n : Nat) : Prop := ∀ E v w, T.p E v w → v.cells.size = n ∧ ∀ u ∈ v.cells.toList, u.oneCell' = true
theorem cnt_is {V : Value} {n : Nat} (h : V.cells.size = n) (h1 : V.cells.toList.all (·.oneCell') = true) : Cnt (.is V) n := fun E v w e => by
  rw [show v = V from e]
  exact ⟨h, List.all_eq_true.1 h1⟩
theorem obm_store {M M' : List Own} {t : TypeId} {p x : Operand} {b n : Nat} {ety : TypeId} {T0 T : Ty} (hp' : H p (.is (.pointer (some ⟨b, 0, none⟩)))) (hx : H x T) (hu : Upd M ⟨b, ety, T0⟩ ⟨b, ety, T⟩ M') (h0 : Cnt T0 n) (h1 : Cnt T n) (hs : (P.info? t).map (·.size) = some n) :
    ObM P L Φ H M ⟨none, .store t p x, ty, pos, after, g⟩ .any M' := fun E w ρ hp hM hnd => by
  have e1 : ρ p = .pointer (some ⟨b, 0, none⟩) := hp.x p _ (by simp [Op.operands]) hp'
  have hv := hp.x x T (by simp [Op.operands]) hx
  obtain ⟨hE, v0, hb0, hv0⟩ := hM _ hu.mem
  obtain ⟨c0, _⟩ := h0 _ _ _ hv0
  obtain ⟨c1, c2⟩ := h1 _ _ _ hv
  have hrun : (execOp ρ ⟨none, .store t p x, ty, pos, after, g⟩).run P w = .ok .skip (w.setRow b (ρ x).cells) := by
    have := run_store_whole (P := P) w t b (ρ x) v0.cells ety hb0 (by rw [hs, c0]) (by rw [c1, c0]) c2
    simp only [execOp, e1]
    simp [this]
  rw [hrun]
  have hk := Keeps.setRow w b (ρ x).cells v0.cells ety hb0 (by rw [c1, c0])
  have hev : Ev E w E (w.setRow b (ρ x).cells) := Ev.of_keeps (hk.mono fun q _ e => by rw [e]; exact hE)
  exact ⟨hk.mono fun q _ e => by rw [e]; exact List.mem_map_of_mem hu.mem, trivial, hu.all hnd (fun m hm hne => Own.keep (hM m hm) hev (heap_setRow_ne w b _ hne)) ⟨hE, ρ x, heap_setRow w b _ _ _ _ hb0, Ty.mono hev hv⟩⟩
def splice (cs : List Value) (off : Nat) (vs : List Value) : List Value := cs.take off ++ vs ++ cs.drop (off + vs.length)
theorem obm_storeF {M M' : List Own} {t : TypeId} {p x : Operand} {b off n : Nat} {ety : TypeId} {cs cs' : List Value} {V : Value} (hp' : H p (.is (.pointer (some ⟨b, off, none⟩)))) (hx : H x (.is V))
    (hu : Upd M ⟨b, ety, .is (.agg cs.toArray)⟩ ⟨b, ety, .is (.agg cs'.toArray)⟩ M') (hc : splice cs off V.cells.toList = cs') (hn : V.cells.size = n) (h1 : V.cells.toList.all (·.oneCell') = true) (hl : Nat.ble (off + n) cs.length = true) (hs : (P.info? t).map (·.size) = some n) :
    ObM P L Φ H M ⟨none, .store t p x, ty, pos, after, g⟩ .any M' := fun E w ρ hp hM hnd => by
  have e1 : ρ p = .pointer (some ⟨b, off, none⟩) := hp.x p _ (by simp [Op.operands]) hp'
  have e2 : ρ x = V := hp.x x _ (by simp [Op.operands]) hx
  have hE := (hM _ hu.mem).1
  have hb0 : w.heap[b]? = some (.cells cs.toArray ety (0, 0)) := own_blk (hM _ hu.mem) rfl
  have hl' := Nat.le_of_ble_eq_true hl
  have hst := run_storeCells_at (P := P) b off ety V.cells.toList 0 cs.toArray w hb0 (by simp; omega) (List.all_eq_true.1 h1)
  have hrun : (execOp ρ ⟨none, .store t p x, ty, pos, after, g⟩).run P w = .ok .skip (w.setRow b cs'.toArray) := by
    cases hq : P.info? t with
    | none => simp [hq] at hs
    | some i =>
      have hs' : V.cells.size = i.size := by simp [hq] at hs; omega
      rw [← hc]
      simp only [Nat.add_zero] at hst
      simp [execOp, e1, e2, Instr.storeAt, Instr.sureAddr, storeVar, sizeOf, typeInfo, hq, hs', hst, splice]
  rw [hrun]
  have hlen : cs'.toArray.size = cs.toArray.size := by rw [← hc]; simp [splice]; omega
  have hk := Keeps.setRow w b cs'.toArray cs.toArray ety hb0 hlen
  have hev : Ev E w E (w.setRow b cs'.toArray) := Ev.of_keeps (hk.mono fun q _ e => by rw [e]; exact hE)
  exact ⟨hk.mono fun q _ e => by rw [e]; exact List.mem_map_of_mem hu.mem, trivial, hu.all hnd (fun m hm hne => Own.keep (hM m hm) hev (heap_setRow_ne w b _ hne)) ⟨hE, .agg cs'.toArray, heap_setRow w b _ _ _ _ hb0, rfl⟩⟩
end
end Go.Vc
