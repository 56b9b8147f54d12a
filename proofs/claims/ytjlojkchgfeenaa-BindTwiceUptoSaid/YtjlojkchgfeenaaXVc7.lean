/- What each operation does, in types. No condition. -/
import Derived.Test.YtjlojkchgfeenaaXVc6
import Derived.Great.BuildSlice
namespace Go.Vc
open Go
def TyAll (E : Nat → Prop) (w : World) : List Ty → List Value → Prop
  | [], [] => True
  | A :: As, v :: vs => A.p E v w ∧ TyAll E w As vs
  | _, _ => False
structure CallTy (P : Program) (f : FuncId) (As : List Ty) (R : Ty) : Prop where
  enter : ∀ args w, (callFunc f args).run P w = .ok (.enter f args) w
  calls : ∀ (E : Nat → Prop) (w : World) (vs : List Value), (∀ b, E b → b < w.heap.size) → TyAll E w As vs →
    Calls P f vs.toArray w fun e w' => ∃ v, e = .returned v ∧ Keeps noX w w' ∧ R.p E v w'
def Facts (L : List Own) (Φ : List (World → Prop)) (E : Nat → Prop) (w : World) : Prop := (∀ m ∈ L, m.at E w) ∧ ∀ F ∈ Φ, Pers E w F
def Sub (L : List Own) (Φ : List (World → Prop)) (T A : Ty) : Prop := ∀ E v w, Facts L Φ E w → T.p E v w → A.p E v w
theorem Sub.rfl' {L : List Own} {Φ : List (World → Prop)} {T : Ty} : Sub L Φ T T := fun _ _ _ _ h => h
inductive Args (L : List Own) (Φ : List (World → Prop)) (H : Know) : List Operand → List Ty → Prop
  | nil : Args L Φ H [] []
  | one {x : Operand} {A : Ty} {xs : List Operand} {As : List Ty} (h : H x A) (r : Args L Φ H xs As) : Args L Φ H (x :: xs) (A :: As)
  | sub {x : Operand} {T A : Ty} {xs : List Operand} {As : List Ty} (h : H x T) (s : Sub L Φ T A) (r : Args L Φ H xs As) : Args L Φ H (x :: xs) (A :: As)
section
variable {P : Program} {L : List Own} {Φ : List (World → Prop)} {H : Know} {dst : Option Nat} {ty : TypeId} {pos : String} {after : Array Edge} {g : Option (Nat × Bool)}
theorem Args.all {xs : List Operand} {As : List Ty} {E : Nat → Prop} {w : World} {ρ : Operand → Value} (hf : Facts L Φ E w) (h : Args L Φ H xs As) (hx : ∀ x T, x ∈ xs → H x T → T.p E (ρ x) w) : TyAll E w As (xs.map ρ) := by
  induction h with
  | nil => trivial
  | one h r ih => exact ⟨hx _ _ List.mem_cons_self h, ih fun x T hm => hx x T (List.mem_cons_of_mem _ hm)⟩
  | sub h s r ih => exact ⟨s _ _ _ hf (hx _ _ List.mem_cons_self h), ih fun x T hm => hx x T (List.mem_cons_of_mem _ hm)⟩
theorem pre_facts {o : Oper} {E : Nat → Prop} {w : World} {ρ : Operand → Value} (h : Pre L Φ H o E w ρ) : Facts L Φ E w := ⟨h.l, h.f⟩
theorem ob_move {x : Operand} {T : Ty} (h : H x T) : Ob P L Φ H ⟨dst, .move x, ty, pos, after, g⟩ T :=
  fun _ w _ hp => ⟨Keeps.refl _ w, hp.x x T (by simp [Op.operands]) h⟩
theorem ob_assign {x : Operand} {T : Ty} (h : H x T) : Ob P L Φ H ⟨dst, .assign x, ty, pos, after, g⟩ T :=
  fun _ w _ hp => ⟨Keeps.refl _ w, hp.x x T (by simp [Op.operands]) h⟩
theorem ob_is {o : Oper} {V : Value} (h : ∀ E w ρ, Pre L Φ H o E w ρ → (execOp ρ o).run P w = .ok (.value V) w) : Ob P L Φ H o (.is V) := fun E w ρ hp => by
  rw [h E w ρ hp]
  exact ⟨.refl _ _, rfl⟩
theorem ob_pickT {x y z : Operand} {T : Ty} (hc : H x (.is (.bool true))) (h : H y T) : Ob P L Φ H ⟨dst, .pick x y z, ty, pos, after, g⟩ T := fun E w ρ hp => by
  have h1 : ρ x = .bool true := hp.x x _ (by simp [Op.operands]) hc
  simp only [execOp, h1, asBool]
  exact ⟨.refl _ _, hp.x y T (by simp [Op.operands]) h⟩
theorem ob_pickF {x y z : Operand} {T : Ty} (hc : H x (.is (.bool false))) (h : H z T) : Ob P L Φ H ⟨dst, .pick x y z, ty, pos, after, g⟩ T := fun E w ρ hp => by
  have h1 : ρ x = .bool false := hp.x x _ (by simp [Op.operands]) hc
  simp only [execOp, h1, asBool]
  exact ⟨.refl _ _, hp.x z T (by simp [Op.operands]) h⟩
theorem ob_pickAnd {x y : Operand} {c d : Bool} {π : Prop} (hx : H x (.is (.bool c))) (hy : H y (.opt π (.is (.bool d)))) (hz : H (.const (.bool false)) (.is (.bool false))) (hπ : c = true → π) : Ob P L Φ H ⟨dst, .pick x y (.const (.bool false)), ty, pos, after, g⟩ (.is (.bool (c && d))) := ob_is fun E w ρ hp => by
  have h1 : ρ x = .bool c := hp.x x _ (by simp [Op.operands]) hx
  have h2 := hp.x y _ (by simp [Op.operands]) hy
  have h3 : ρ (.const (.bool false)) = .bool false := hp.x _ _ (by simp [Op.operands]) hz
  cases c with
  | true =>
    have h4 : ρ y = .bool d := h2.1 (hπ rfl)
    simp [execOp, h1, asBool, h4]
  | false => simp [execOp, h1, asBool, h3]
theorem ob_pickOr {x z : Operand} {c d : Bool} {π : Prop} (hx : H x (.is (.bool c))) (hz : H z (.opt π (.is (.bool d)))) (hy : H (.const (.bool true)) (.is (.bool true))) (hπ : c = false → π) : Ob P L Φ H ⟨dst, .pick x (.const (.bool true)) z, ty, pos, after, g⟩ (.is (.bool (c || d))) := ob_is fun E w ρ hp => by
  have h1 : ρ x = .bool c := hp.x x _ (by simp [Op.operands]) hx
  have h2 := hp.x z _ (by simp [Op.operands]) hz
  have h3 : ρ (.const (.bool true)) = .bool true := hp.x _ _ (by simp [Op.operands]) hy
  cases c with
  | false =>
    have h4 : ρ z = .bool d := h2.1 (hπ rfl)
    simp [execOp, h1, asBool, h4]
  | true => simp [execOp, h1, asBool, h3]
def fldOff (P : Program) (s : TypeId) (k : Nat) : Option Nat :=
  match P.underlying s with
  | some (.struct fs) => match fs[k]? with
    | some f => match P.info? f.type with
      | some i => if i.size = 0 then none else some f.offset
      | none => none
    | none => none
  | _ => none
theorem add_at (b off n : Nat) : (⟨b, off, none⟩ : Addr).add n = ⟨b, off + n, none⟩ := by
  unfold Addr.add
  split
  · rename_i h; subst h; rfl
  · rfl
theorem run_fieldAt {w : World} {s : TypeId} {k off b o : Nat} (h : fldOff P s k = some off) : (Instr.fieldAt s (.pointer (some ⟨b, o, none⟩)) k).run P w = .ok (.pointer (some ⟨b, o + off, none⟩)) w := by
  unfold fldOff at h
  cases hu : P.underlying s with
  | none => simp [hu] at h
  | some d =>
    cases d with
    | struct fs =>
      simp only [hu] at h
      cases hf : fs[k]? with
      | none => simp [hf] at h
      | some f =>
        simp only [hf] at h
        cases hi : P.info? f.type with
        | none => simp [hi] at h
        | some i =>
          simp only [hi] at h
          by_cases hz : i.size = 0
          · simp [hz] at h
          · rw [if_neg hz] at h
            injection h with h
            subst h
            simp [Instr.fieldAt, run_underlying hu, hf, Instr.sureAddr, fieldPlace, sizeOf, typeInfo, hi, hz, add_at]
    | _ => simp [hu] at h
theorem ob_fieldAddr {s : TypeId} {x : Operand} {k off b o : Nat} (hf : fldOff P s k = some off) (hx : H x (.is (.pointer (some ⟨b, o, none⟩)))) : Ob P L Φ H ⟨dst, .fieldAddr s x k, ty, pos, after, g⟩ (.is (.pointer (some ⟨b, o + off, none⟩))) :=
  ob_is fun E w ρ hp => by
    have h1 : ρ x = .pointer (some ⟨b, o, none⟩) := hp.x x _ (by simp [Op.operands]) hx
    simp [execOp, h1, run_fieldAt hf]
theorem ob_nilCheck {x : Operand} {p : Addr} (hx : H x (.is (.pointer (some p)))) : Ob P L Φ H ⟨dst, .nilCheck x, ty, pos, after, g⟩ (.is (.pointer (some p))) :=
  ob_is fun E w ρ hp => by
    have h1 : ρ x = .pointer (some p) := hp.x x _ (by simp [Op.operands]) hx
    simp [execOp, h1]
def szOf (P : Program) (t : TypeId) : Option (Option Nat) :=
  match P.underlying t with
  | some (.struct _) | some (.array ..) => (P.info? t).map fun i => some i.size
  | some _ => some none
  | none => none
theorem run_load1 {w : World} {t : TypeId} {p : Addr} {v : Value} (h : szOf P t = some none) (hc : w.cell? p = some v) : (loadVar t p).run P w = .ok v w := by
  unfold szOf at h
  cases hu : P.underlying t with
  | none => simp [hu] at h
  | some d =>
    rw [hu] at h
    cases d <;> first
      | (simp [loadVar, isAgg, run_underlying hu, run_load, hc]; done)
      | (cases hi : P.info? t <;> simp [hi] at h)
theorem run_loadN {w : World} {t : TypeId} {p : Addr} {cs : List Value} (h : szOf P t = some (some cs.length)) (hc : ∀ j v, cs[j]? = some v → w.cell? (p.add j) = some v) : (loadVar t p).run P w = .ok (.agg cs.toArray) w := by
  unfold szOf at h
  have hl := run_loadCells_list (P := P) w p cs hc
  cases hu : P.underlying t with
  | none => simp [hu] at h
  | some d =>
    rw [hu] at h
    cases d <;> first
      | (simp at h; done)
      | (cases hi : P.info? t with
         | none => simp [hi] at h
         | some i =>
           simp only [hi, Option.map_some, Option.some.injEq] at h
           simp [loadVar, isAgg, run_underlying hu, sizeOf, typeInfo, hi, h, hl])
def Loads (P : Program) (L : List Own) (Φ : List (World → Prop)) (t : TypeId) (p : Addr) (V : Value) : Prop := ∀ E w, Facts L Φ E w → (loadVar t p).run P w = .ok V w
theorem ob_load {t : TypeId} {x : Operand} {p : Addr} {V : Value} (hx : H x (.is (.pointer (some p)))) (hl : Loads P L Φ t p V) : Ob P L Φ H ⟨dst, .load t x, ty, pos, after, g⟩ (.is V) :=
  ob_is fun E w ρ hp => by
    have h1 : ρ x = .pointer (some p) := hp.x x _ (by simp [Op.operands]) hx
    simp [execOp, h1, Instr.loadAt, Instr.sureAddr, hl E w (pre_facts hp)]
theorem cell_of_blk {w : World} {b off : Nat} {cs : Array Value} {t : TypeId} {fr : Nat × Nat} (h : w.heap[b]? = some (.cells cs t fr)) : w.cell? ⟨b, off, none⟩ = cs[off]? := by
  simp [World.cell?, h]
theorem own_blk {m : Own} {E : Nat → Prop} {w : World} {V : Value} (h : m.at E w) (hT : m.T = .is V) : w.heap[m.b]? = some (.cells V.cells m.ety (0, 0)) := by
  obtain ⟨_, v, hb, hv⟩ := h
  rw [hT] at hv
  rw [show v = V from hv] at hb
  exact hb
theorem loads_own1 {b off : Nat} {ety t : TypeId} {V v : Value} (hs : szOf P t = some none) (hm : ⟨b, ety, .is V⟩ ∈ L) (hv : V.cells[off]? = some v) : Loads P L Φ t ⟨b, off, none⟩ v := fun _ _ hf =>
  run_load1 hs ((cell_of_blk (own_blk (hf.1 _ hm) rfl)).trans hv)
theorem loads_ownN {b off n : Nat} {ety t : TypeId} {V : Value} {cs : List Value} (hs : szOf P t = some (some n)) (hm : ⟨b, ety, .is V⟩ ∈ L) (hv : (V.cells.toList.drop off).take n = cs) (hn : cs.length = n) : Loads P L Φ t ⟨b, off, none⟩ (.agg cs.toArray) := fun E w hf => by
  subst hn
  refine run_loadN hs fun j v hj => ?_
  rw [add_at, cell_of_blk (own_blk (hf.1 _ hm) rfl)]
  rw [← hv, List.getElem?_take] at hj
  split at hj
  · rw [List.getElem?_drop] at hj
    simpa using hj
  · cases hj
theorem ob_loadT {t ety : TypeId} {x : Operand} {b n : Nat} {T : Ty} (hx : H x (.is (.pointer (some ⟨b, 0, none⟩)))) (hs : szOf P t = some (some n)) (hm : ⟨b, ety, T⟩ ∈ L) (hT : ∀ E v w, T.p E v w → ∃ cs, v = .agg cs ∧ cs.size = n) : Ob P L Φ H ⟨dst, .load t x, ty, pos, after, g⟩ T :=
  fun E w ρ hp => by
    have h1 : ρ x = .pointer (some ⟨b, 0, none⟩) := hp.x x _ (by simp [Op.operands]) hx
    obtain ⟨_, v, hb, hv⟩ := hp.l _ hm
    obtain ⟨cs, rfl, hn⟩ := hT E v w hv
    have hl := run_loadN (P := P) (w := w) (t := t) (p := ⟨b, 0, none⟩) (cs := cs.toList) (by simpa [hn] using hs) fun j u hj => by
      rw [add_at, cell_of_blk hb]
      simpa [Value.cells] using hj
    simp only [execOp, h1, Instr.loadAt, Instr.sureAddr]
    simp only [Sem.run_bind, Sem.run_pure, Result.andThen_ok, hl]
    exact ⟨.refl _ _, by simpa using hv⟩
theorem ob_bin {op : BinOp} {xt yt : TypeId} {x y : Operand} {A B V : Value} (hx : H x (.is A)) (hy : H y (.is B)) (h : ∀ w, (do eqGuard op xt x y A B; binOp op xt A B : Sem Value).run P w = .ok V w) :
    Ob P L Φ H ⟨dst, .binOp op xt x y yt, ty, pos, after, g⟩ (.is V) :=
  ob_is fun E w ρ hp => by
    have h1 : ρ x = A := hp.x x _ (by simp [Op.operands]) hx
    have h2 : ρ y = B := hp.x y _ (by simp [Op.operands]) hy
    have := h w
    simp only [execOp, h1, h2]
    simp only [Sem.run_bind, Sem.run_pure] at this ⊢
    rw [this]
    rfl
section
variable {xt yt : TypeId} {x y : Operand} {k : IntKind} {a b : Int}
theorem ob_eql (hx : H x (.is (.int k a))) (hy : H y (.is (.int k b))) : Ob P L Φ H ⟨dst, .binOp .eql xt x y yt, ty, pos, after, g⟩ (.is (.bool (a == b))) :=
  ob_bin hx hy fun w => by simp [eqGuard, binOp, Op.intCmp]
theorem ob_neq (hx : H x (.is (.int k a))) (hy : H y (.is (.int k b))) : Ob P L Φ H ⟨dst, .binOp .neq xt x y yt, ty, pos, after, g⟩ (.is (.bool (a != b))) :=
  ob_bin hx hy fun w => by simp [eqGuard, binOp, Op.intCmp]
theorem ob_lss (hx : H x (.is (.int k a))) (hy : H y (.is (.int k b))) : Ob P L Φ H ⟨dst, .binOp .lss xt x y yt, ty, pos, after, g⟩ (.is (.bool (decide (a < b)))) :=
  ob_bin hx hy fun w => by simp [eqGuard, binOp, Op.intCmp]
theorem ob_leq (hx : H x (.is (.int k a))) (hy : H y (.is (.int k b))) : Ob P L Φ H ⟨dst, .binOp .leq xt x y yt, ty, pos, after, g⟩ (.is (.bool (decide (a ≤ b)))) :=
  ob_bin hx hy fun w => by simp [eqGuard, binOp, Op.intCmp]
theorem ob_gtr (hx : H x (.is (.int k a))) (hy : H y (.is (.int k b))) : Ob P L Φ H ⟨dst, .binOp .gtr xt x y yt, ty, pos, after, g⟩ (.is (.bool (decide (b < a)))) :=
  ob_bin hx hy fun w => by simp [eqGuard, binOp, Op.intCmp]
theorem ob_geq (hx : H x (.is (.int k a))) (hy : H y (.is (.int k b))) : Ob P L Φ H ⟨dst, .binOp .geq xt x y yt, ty, pos, after, g⟩ (.is (.bool (decide (b ≤ a)))) :=
  ob_bin hx hy fun w => by simp [eqGuard, binOp, Op.intCmp]
theorem ob_add (hx : H x (.is (.int k a))) (hy : H y (.is (.int k b))) : Ob P L Φ H ⟨dst, .binOp .add xt x y yt, ty, pos, after, g⟩ (.is (.int k (k.wrap (a + b)))) :=
  ob_bin hx hy fun w => by simp [eqGuard, binOp, Op.intArith]
theorem ob_sub (hx : H x (.is (.int k a))) (hy : H y (.is (.int k b))) : Ob P L Φ H ⟨dst, .binOp .sub xt x y yt, ty, pos, after, g⟩ (.is (.int k (k.wrap (a - b)))) :=
  ob_bin hx hy fun w => by simp [eqGuard, binOp, Op.intArith]
theorem ob_mul (hx : H x (.is (.int k a))) (hy : H y (.is (.int k b))) : Ob P L Φ H ⟨dst, .binOp .mul xt x y yt, ty, pos, after, g⟩ (.is (.int k (k.wrap (a * b)))) :=
  ob_bin hx hy fun w => by simp [eqGuard, binOp, Op.intArith]
end
end
end Go.Vc
