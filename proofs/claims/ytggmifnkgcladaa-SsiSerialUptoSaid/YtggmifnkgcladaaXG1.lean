/- The program logic, part 2. No condition. -/
import Derived.Test.YtggmifnkgcladaaXG0
import Derived.ProofKit
import Derived.WideKeyArgs
import Derived.ChangeArms
import Derived.Carry
import Derived.ChangeSame
import Derived.Deep.AppendSrc
import Derived.Laws.AppendOwn
import Derived.Laws.CopyRow
namespace Go.Vc
open Go
section
variable {P : Program} {L : List Own} {Φ : List (World → Prop)} {H : Know} {dst : Option Nat} {ty : TypeId} {pos : String} {after : Array Edge} {g : Option (Nat × Bool)}
variable {xt yt : TypeId} {x y : Operand} {k k' : IntKind} {a b : Int}
end
theorem wrap64_eq {n : Int} (h1 : -9223372036854775808 ≤ n) (h2 : n < 9223372036854775808) : IntKind.i64.wrap n = n := by rw [IntKind.wrap_i64]; omega
section
variable {P : Program} {L : List Own} {Φ : List (World → Prop)} {H : Know} {dst : Option Nat} {ty : TypeId} {pos : String} {after : Array Edge} {g : Option (Nat × Bool)}
variable {xt yt : TypeId} {x y : Operand} {a b : Int}
theorem ob_addc {cc : Int} (hx : H x (.is (.int .i64 a))) (hy : H y (.is (.int .i64 b))) (hc : a + b = cc) (h1 : -9223372036854775808 ≤ cc) (h2 : cc < 9223372036854775808) : Ob P L Φ H ⟨dst, .binOp .add xt x y yt, ty, pos, after, g⟩ (.is (.int .i64 cc)) := by
  subst hc
  have h := ob_add (P := P) (L := L) (Φ := Φ) (dst := dst) (ty := ty) (pos := pos) (after := after) (g := g) (xt := xt) (yt := yt) hx hy
  rwa [wrap64_eq h1 h2] at h
theorem ob_subc {cc : Int} (hx : H x (.is (.int .i64 a))) (hy : H y (.is (.int .i64 b))) (hc : a - b = cc) (h1 : -9223372036854775808 ≤ cc) (h2 : cc < 9223372036854775808) : Ob P L Φ H ⟨dst, .binOp .sub xt x y yt, ty, pos, after, g⟩ (.is (.int .i64 cc)) := by
  subst hc
  have h := ob_sub (P := P) (L := L) (Φ := Φ) (dst := dst) (ty := ty) (pos := pos) (after := after) (g := g) (xt := xt) (yt := yt) hx hy
  rwa [wrap64_eq h1 h2] at h
variable {c : Ctx} {K : List (Nat × Ty)} {Q : Exit → Act → World → Prop}
theorem J.loopF {α : Type} {body : Code} (Kf : α → List (Nat × Ty)) (inv : α → Prop) (μ : α → Nat) (x0 : α) (ss : List Nat) (h0 : Sel K ss (Kf x0)) (hi : inv x0)
    (h : ∀ x, inv x → J P c (Kf x) L Φ body (Exit.then (fun a w => ∃ x', inv x' ∧ μ x' < μ x ∧ ∃ E, SA c (Kf x') L Φ E a w) Q)) : J P c K L Φ (.loop body) Q :=
  J.sel ss h0 (J.loop Kf (fun _ => L) (fun _ => Φ) inv μ x0 ⟨rfl, rfl, rfl⟩ hi h)
theorem JX.roundF {α : Type} {Kf : α → List (Nat × Ty)} {inv : α → Prop} {μ : α → Nat} {x : α} (x' : α) (hi : inv x') (hμ : μ x' < μ x) (ss : List Nat) (hK : Sel K ss (Kf x')) :
    JX c K L Φ .normal (Exit.then (fun a w => ∃ x', inv x' ∧ μ x' < μ x ∧ ∃ E, SA c (Kf x') L Φ E a w) Q) :=
  JX.round (Lf := fun _ => L) (Φf := fun _ => Φ) x' hi hμ ss hK rfl (fun _ h => h)
end
structure CallM (P : Program) (f : FuncId) (ety : TypeId) (V0 : Value) (Φ0 : List (World → Prop)) (As : List Ty) (V1 : Value) (R : Ty) : Prop where
  enter : ∀ args w, (callFunc f args).run P w = .ok (.enter f args) w
  calls : ∀ (E : Nat → Prop) (w : World) (b : Nat) (vs : List Value), (∀ b, E b → b < w.heap.size) → E b → w.heap[b]? = some (.cells V0.cells ety (0, 0)) → (∀ F ∈ Φ0, Pers E w F) → TyAll E w As vs →
    Calls P f (.pointer (some ⟨b, 0, none⟩) :: vs).toArray w fun e w' => ∃ v, e = .returned v ∧ Keeps (fun q => q = b) w w' ∧ w'.heap[b]? = some (.cells V1.cells ety (0, 0)) ∧ R.p E v w'
section
variable {P : Program} {L : List Own} {Φ : List (World → Prop)} {H : Know} {dst : Option Nat} {ty : TypeId} {pos : String} {after : Array Edge} {g : Option (Nat × Bool)}
def PostM (X : Nat → Prop) (W : World) (b : Nat) (ety : TypeId) (V1 : Value) (R : Ty) : Ending → World → Prop := fun e w' => ∃ v, e = .returned v ∧ Keeps (fun q => q = b) W w' ∧ w'.heap[b]? = some (.cells V1.cells ety (0, 0)) ∧ R.p X v w'
variable {K : List (Nat × Ty)} {fn : Func} {R : Ty} {n : Nat} {X : Nat → Prop} {W : World}
end
section
variable {c : Ctx} {K : List (Nat × Ty)} {L L' : List Own} {Φ Φ' : List (World → Prop)} {Q : Exit → Act → World → Prop}
theorem JX.roundS {α : Type} {Kf : α → List (Nat × Ty)} {inv : α → Prop} {μ : α → Nat} {x : α} (x' : α) (hi : inv x') (hμ : μ x' < μ x) (ss : List Nat) (hK : Sel K ss (Kf x')) (hL : L'.Sublist L) (hΦ : Φ'.Sublist Φ) :
    JX c K L Φ .normal (Exit.then (fun a w => ∃ x', inv x' ∧ μ x' < μ x ∧ ∃ E, SA c (Kf x') L' Φ' E a w) Q) :=
  ⟨fun E a w h => (JX.roundF (L := L') (Φ := Φ') x' hi hμ ss hK).out E a w (h.sub (fun _ _ h => h) (fun _ ho => hL.subset ho) ((hL.map _).nodup h.ld) (fun _ h => hΦ.subset h))⟩
end
end Go.Vc

namespace Go.Vc
open Go
def RowAt (cs : List Value) (b o : Nat) (w : World) : Prop := ∀ j v, cs[j]? = some v → w.cell? ⟨b, o + j, none⟩ = some v
inductive Ex where
  | mk (k vk vn : Int) (vs tb nm : ByteArray) (sl : Int) (kids : List Ex)
def exCells (k vk vn : Int) (vs tb nm : ByteArray) (sl : Int) (a : Option Addr) (len cap : Nat) : List Value :=
  [.int .i64 k, .int .i64 vk, .int .i64 vn, .string vs, .string tb, .string nm, .int .i64 sl, .slice a len cap]
mutual
def ExR : Ex → Value → World → Prop
  | .mk k vk vn vs tb nm sl kids, v, w => ∃ a len cap, v = .agg (exCells k vk vn vs tb nm sl a len cap).toArray ∧ kids.length = len ∧ (len ≠ 0 → ∃ b o, a = some ⟨b, o, none⟩ ∧ KidsAt kids b o w)
def KidsAt : List Ex → Nat → Nat → World → Prop
  | [], _, _, _ => True
  | x :: xs, b, o, w => (∃ cs : List Value, cs.length = 8 ∧ ExR x (.agg cs.toArray) w ∧ RowAt cs b o w) ∧ KidsAt xs b (o + 8) w
end
def KidsR (kids : List Ex) (a : Option Addr) (len : Nat) (w : World) : Prop := kids.length = len ∧ (len ≠ 0 → ∃ b o, a = some ⟨b, o, none⟩ ∧ KidsAt kids b o w)
def ExsR (kids : List Ex) (v : Value) (w : World) : Prop := ∃ a len cap, v = .slice a len cap ∧ KidsR kids a len w
theorem exR_mk {k vk vn : Int} {vs tb nm : ByteArray} {sl : Int} {kids : List Ex} {v : Value} {w : World} : ExR (.mk k vk vn vs tb nm sl kids) v w ↔ ∃ a len cap, v = .agg (exCells k vk vn vs tb nm sl a len cap).toArray ∧ KidsR kids a len w := by
  rw [ExR]; rfl
structure V3 where
  k : Int
  n : Int
  s : ByteArray
def V3.cells (v : V3) : List Value := [.int .i64 v.k, .int .i64 v.n, .string v.s]
def RowR (vals : List V3) (a : Option Addr) (len : Nat) (w : World) : Prop := vals.length = len ∧ (len ≠ 0 → ∃ b o, a = some ⟨b, o, none⟩ ∧ ∀ i v, vals[i]? = some v → RowAt v.cells b (o + 3 * i) w)
def RowS (vals : List V3) (v : Value) (w : World) : Prop := ∃ a len cap, v = .slice a len cap ∧ RowR vals a len w
end Go.Vc

namespace Go.Vc
open Go
section
variable {P : Program} {L : List Own} {Φ : List (World → Prop)} {H : Know} {dst : Option Nat} {ty : TypeId} {pos : String} {after : Array Edge} {g : Option (Nat × Bool)}
theorem run_loadRow {t : TypeId} {b o : Nat} {cs : List Value} {w : World} (hs : szOf P t = some (some cs.length)) (h : RowAt cs b o w) : (loadVar t ⟨b, o, none⟩).run P w = .ok (.agg cs.toArray) w :=
  run_loadN hs fun j v hj => by rw [add_at]; exact h j v hj
abbrev vv (v : V3) : Value := .agg #[.int .i64 v.k, .int .i64 v.n, .string v.s]
theorem row_get {vals : List V3} {b o len i : Nat} {v : V3} {w : World} (h : RowR vals (some ⟨b, o, none⟩) len w) (hi : vals[i]? = some v) : RowAt v.cells b (o + 3 * i) w := by
  obtain ⟨hl, hk⟩ := h
  have hne : len ≠ 0 := fun e => by rw [e] at hl; rw [List.length_eq_zero_iff.1 hl] at hi; simp at hi
  obtain ⟨b', o', e, hK⟩ := hk hne
  injection e with e
  injection e with e1 e2
  subst e1 e2
  exact hK i v hi
theorem ob_loadVal {t : TypeId} {x : Operand} {b o off i len : Nat} {vals : List V3} {v : V3} {a : Option Addr} (hs : szOf P t = some (some 3)) (hx : H x (.is (.pointer (some ⟨b, off, none⟩)))) (hF : RowR vals a len ∈ Φ) (ha : a = some ⟨b, o, none⟩) (hi : vals[i]? = some v) (ho : off = o + 3 * i) :
    Ob P L Φ H ⟨dst, .load t x, ty, pos, after, g⟩ (.is (vv v)) :=
  ob_load hx fun E w hf => run_loadRow (cs := v.cells) hs (by rw [ho]; exact row_get (by subst ha; exact (hf.2 _ hF).now) hi)
variable {c : Ctx} {K : List (Nat × Ty)} {Q : Exit → Act → World → Prop}
theorem J.openRow {x : Code} {s : Nat} {vals : List V3} (h : look K s = some (.rep (RowS vals)))
    (hj : ∀ a len cap b o, vals.length = len → (len ≠ 0 → a = some ⟨b, o, none⟩) → J P c ((s, .is (.slice a len cap)) :: K) L (RowR vals a len :: RowS vals (.slice a len cap) :: Φ) x Q) : J P c K L Φ x Q := by
  refine J.open_ h ?_
  rintro v ⟨w, a, len, cap, rfl, hl, hk⟩
  obtain ⟨b, o, hbo⟩ : ∃ b o, len ≠ 0 → a = some ⟨b, o, none⟩ := by
    by_cases hn : len = 0
    · exact ⟨0, 0, fun h => absurd hn h⟩
    · obtain ⟨b, o, e, _⟩ := hk hn; exact ⟨b, o, fun _ => e⟩
  refine J.fact (RowR vals a len) (fun E w hG _ => ?_) (hj a len cap b o hl hbo)
  intro w' hk'
  obtain ⟨a', len', cap', e, hK⟩ := hG _ List.mem_cons_self w' hk'
  injection e with e1 e2 e3
  subst e1 e2
  exact hK
end
end Go.Vc

namespace Go.Vc
open Go
def veq (k1 n1 : Int) (s1 : ByteArray) (k2 n2 : Int) (s2 : ByteArray) : Bool := (k1 == k2) && ((n1 == n2) && seq s1 s2)
structure VEq (P : Program) (t ti tj ts : TypeId) : Prop where
  ht : P.underlying t = some (.struct (P.fieldsOf t))
  hp : P.stoodInHeld t = false
  hg : P.eqGuardType P.depth t = false
  hf : (P.fieldsOf t).toList.map (fun f => (f.name == "_", f.type, f.offset)) = [(false, ti, 0), (false, tj, 1), (false, ts, 2)]
  h1 : P.underlying ti = some (.int .i64)
  h2 : P.underlying tj = some (.int .i64)
  h3 : P.underlying ts = some .string
section
variable {P : Program}
theorem run_veq {t ti tj ts : TypeId} (h : VEq P t ti tj ts) (k1 n1 : Int) (s1 : ByteArray) (k2 n2 : Int) (s2 : ByteArray) (w : World) :
    (Op.equalIn 10000 t (.agg #[.int .i64 k1, .int .i64 n1, .string s1]) (.agg #[.int .i64 k2, .int .i64 n2, .string s2])).run P w = .ok (veq k1 n1 s1 k2 n2 s2) w := by
  have e := run_equalIn_struct (P := P) w 9999 t #[.int .i64 k1, .int .i64 n1, .string s1] #[.int .i64 k2, .int .i64 n2, .string s2] h.ht h.hp
  refine e.trans ?_
  have hf := h.hf
  generalize hd : (9999 : Nat) = d
  obtain ⟨d', rfl⟩ : ∃ d', d = d' + 1 := ⟨9998, by omega⟩
  generalize (P.fieldsOf t).toList = fs at hf ⊢
  have h3' : ∃ f0 f1 f2, fs = [f0, f1, f2] := by
    obtain ⟨f0, l0, rfl, _, hf⟩ := List.map_eq_cons_iff.1 hf
    obtain ⟨f1, l1, rfl, _, hf⟩ := List.map_eq_cons_iff.1 hf
    obtain ⟨f2, l2, rfl, _, hf⟩ := List.map_eq_cons_iff.1 hf
    exact ⟨f0, f1, f2, by rw [List.map_eq_nil_iff.1 hf]⟩
  obtain ⟨f0, f1, f2, rfl⟩ := h3'
  simp only [List.map_cons, List.map_nil, List.cons.injEq, Prod.mk.injEq, and_true] at hf
  obtain ⟨⟨a0, b0, c0⟩, ⟨a1, b1, c1⟩, ⟨a2, b2, c2⟩⟩ := hf
  have i1 : (isAgg ti).run P w = .ok false w := by simp [isAgg, run_underlying h.h1]
  have i2 : (isAgg tj).run P w = .ok false w := by simp [isAgg, run_underlying h.h2]
  have i3 : (isAgg ts).run P w = .ok false w := by simp [isAgg, run_underlying h.h3]
  have q1 := run_equalIn_int (P := P) w d' ti .i64 .i64 k1 k2 h.h1
  have q2 := run_equalIn_int (P := P) w d' tj .i64 .i64 n1 n2 h.h2
  have q3 := run_equalIn_string (P := P) w d' ts s1 s2 h.h3
  have x0 : f0.name ≠ "_" := by simpa using a0
  have x1 : f1.name ≠ "_" := by simpa using a1
  have x2 : f2.name ≠ "_" := by simpa using a2
  unfold veq seq
  generalize (k1 == k2) = A at *
  generalize (n1 == n2) = B at *
  generalize (s1.toList == s2.toList) = C at *
  simp only [Op.eqFields, ne_eq, x0, x1, x2, not_false_eq_true, if_true, b0, b1, b2, c0, c1, c2, part, Sem.run_bind, i1, i2, i3, Result.andThen_ok, Bool.false_eq_true, if_false, List.getElem?_toArray, List.getElem?_cons_zero, List.getElem?_cons_succ, Sem.run_pure, q1]
  cases A <;> cases B <;> cases C <;> simp [q2, q3, i2, i3]
variable {L : List Own} {Φ : List (World → Prop)} {H : Know} {dst : Option Nat} {ty : TypeId} {pos : String} {after : Array Edge} {g : Option (Nat × Bool)} {yt : TypeId} {x y : Operand}
theorem ob_veq {t ti tj ts : TypeId} (h : VEq P t ti tj ts) {k1 n1 : Int} {s1 : ByteArray} {k2 n2 : Int} {s2 : ByteArray} (hx : H x (.is (.agg #[.int .i64 k1, .int .i64 n1, .string s1]))) (hy : H y (.is (.agg #[.int .i64 k2, .int .i64 n2, .string s2]))) :
  Ob P L Φ H ⟨dst, .binOp .eql t x y yt, ty, pos, after, g⟩ (.is (.bool (veq k1 n1 s1 k2 n2 s2))) :=
  ob_bin hx hy fun w => by
  rw [Sem.run_bind, run_eqGuard_agg _ _ _ _ _ _ _ h.hg, Result.andThen_ok, run_eql_struct, run_veq h, Result.andThen_ok]
end
end Go.Vc

namespace Go.Vc
open Go
section
variable {P : Program} {L : List Own} {Φ : List (World → Prop)} {H : Know} {dst : Option Nat} {ty : TypeId} {pos : String} {after : Array Edge} {g : Option (Nat × Bool)}
theorem exR_agg {x : Ex} {v : Value} {w : World} (h : ExR x v w) : ∃ k vk vn vs tb nm sl a len cap, v = .agg (exCells k vk vn vs tb nm sl a len cap).toArray := by
  cases x with
  | mk k vk vn vs tb nm sl kids =>
    obtain ⟨a, len, cap, e, _⟩ := exR_mk.1 h
    exact ⟨_, _, _, _, _, _, _, _, _, _, e⟩
abbrev exZ : List Value := [.int .i64 0, .int .i64 0, .int .i64 0, .string ⟨#[]⟩, .string ⟨#[]⟩, .string ⟨#[]⟩, .int .i64 0, .slice none 0 0]
end
section
variable {P : Program} {K : List (Nat × Ty)} {L : List Own} {Φ : List (World → Prop)} {fn : Func} {R : Ty} {n : Nat} {X : Nat → Prop} {W : World}
end
end Go.Vc

namespace Go.Vc
open Go
def I64 (n : Int) : Prop := -9223372036854775808 ≤ n ∧ n < 9223372036854775808
def V3.rng (v : V3) : Prop := I64 v.k ∧ I64 v.n
mutual
def exRng : Ex → Prop
  | .mk k vk vn _ _ _ sl kids => I64 k ∧ I64 vk ∧ I64 vn ∧ I64 sl ∧ exsRng kids
def exsRng : List Ex → Prop
  | [] => True
  | x :: xs => exRng x ∧ exsRng xs
end
end Go.Vc
namespace Go.Vc
open Go
section
variable {P : Program} {L : List Own} {Φ : List (World → Prop)} {H : Know} {dst : Option Nat} {ty : TypeId} {pos : String} {after : Array Edge} {g : Option (Nat × Bool)}
end
end Go.Vc
namespace Go.Vc
open Go
section
variable {P : Program} {L : List Own} {Φ : List (World → Prop)} {H : Know} {dst : Option Nat} {ty : TypeId} {pos : String} {after : Array Edge} {g : Option (Nat × Bool)}
theorem cnt_ex {x : Ex} : Cnt (.rep (ExR x)) 8 := fun E v w h => by
  obtain ⟨k, vk, vn, vs, tb, nm, sl, a, len, cap, e⟩ := exR_agg (Pers.now h)
  subst e
  exact ⟨rfl, by intro u hu; simp [exCells, Value.cells] at hu; rcases hu with rfl | rfl | rfl | rfl | rfl | rfl | rfl | rfl <;> rfl⟩
end
abbrev nodeE (k : Int) (kids : List Ex) : Ex := .mk k 0 0 ⟨#[]⟩ ⟨#[]⟩ ⟨#[]⟩ 0 kids
abbrev numE (n : Int) : Ex := .mk 1 1 n ⟨#[]⟩ ⟨#[]⟩ ⟨#[]⟩ 0 []
end Go.Vc

namespace Go.Vc
open Go
theorem wf_i64 {n : Int} (h : (Lit.int .i64 n).wf = true) : I64 n := by
  simp [Lit.wf, IntKind.min, IntKind.max, IntKind.signed, IntKind.bits] at h
  unfold I64
  omega
theorem field_at {fs : Array Field} {g : Array (TypeId × Nat)} (h : fs.map (fun f => (f.type, f.offset)) = g) {i : Nat} {t : TypeId} {o : Nat} (hi : g[i]? = some (t, o)) : ∃ f, fs[i]? = some f ∧ f.type = t ∧ f.offset = o := by
  subst h
  rw [Array.getElem?_map] at hi
  cases hf : fs[i]? with
  | none => rw [hf] at hi; cases hi
  | some f => rw [hf] at hi; injection hi with hi; injection hi with h1 h2; exact ⟨f, rfl, h1, h2⟩
structure ValTy (P : Program) (tV tI tJ tS : TypeId) : Prop where
  hV : P.underlying tV = some (.struct (P.fieldsOf tV))
  fV : (P.fieldsOf tV).map (fun f => (f.type, f.offset)) = #[(tI, 0), (tJ, 1), (tS, 2)]
  hI : P.underlying tI = some (.int .i64)
  hJ : P.underlying tJ = some (.int .i64)
  hS : P.underlying tS = some .string
  cV : P.cellsOf tV = 3
  cI : P.cellsOf tI = 1
  cJ : P.cellsOf tJ = 1
  cS : P.cellsOf tS = 1
structure ExTy (P : Program) (tE tEs tV tI tJ tS : TypeId) : Prop extends ValTy P tV tI tJ tS where
  hE : P.underlying tE = some (.struct (P.fieldsOf tE))
  fE : (P.fieldsOf tE).map (fun f => (f.type, f.offset)) = #[(tI, 0), (tV, 1), (tS, 4), (tS, 5), (tI, 6), (tEs, 7)]
  hEs : P.underlying tEs = some (.slice tE)
  cE : P.cellsOf tE = 8
  cEs : P.cellsOf tEs = 1
def v3Of {H : Type} : DataW H → V3
  | .agg [.lit (.int _ k), .lit (.int _ n), .lit (.string s)] => ⟨k, n, ⟨s.toArray⟩⟩
  | _ => ⟨0, 0, ⟨#[]⟩⟩
def rowOf {H : Type} : DataW H → List V3
  | .slice es _ => es.map v3Of
  | _ => []
def exOf {H : Type} : Nat → DataW H → Ex
  | n + 2, .agg [.lit (.int _ k), v, .lit (.string tb), .lit (.string nm), .lit (.int _ sl), .nil] => .mk k (v3Of v).k (v3Of v).n (v3Of v).s ⟨tb.toArray⟩ ⟨nm.toArray⟩ sl []
  | n + 2, .agg [.lit (.int _ k), v, .lit (.string tb), .lit (.string nm), .lit (.int _ sl), .slice es _] => .mk k (v3Of v).k (v3Of v).n (v3Of v).s ⟨tb.toArray⟩ ⟨nm.toArray⟩ sl (es.map (exOf n))
  | _, _ => .mk 0 0 0 ⟨#[]⟩ ⟨#[]⟩ ⟨#[]⟩ 0 []
section
variable {H : Type} {enc : TypeId × Value → H} {P : Program} {w : World} {base : Nat} {spare : Nat → Bool} {held : Bool}
theorem read_val {tV tI tJ tS : TypeId} (T : ValTy P tV tI tJ tS) {n : Nat} {cs : List Value} {x : DataW H × List MemPlace} (h : DataW.trod enc P w base spare held n tV cs = some x) :
    cs = (v3Of x.1).cells ∧ (v3Of x.1).rng := by
  obtain ⟨xs, m, rfl, rfl, hl, hn, hf⟩ := DataW.trod_struct T.hV h
  obtain ⟨f0, a0, b0, c0⟩ := field_at T.fV (i := 0) rfl
  obtain ⟨f1, a1, b1, c1⟩ := field_at T.fV (i := 1) rfl
  obtain ⟨f2, a2, b2, c2⟩ := field_at T.fV (i := 2) rfl
  have e0 := hf 0 f0 a0
  have e1 := hf 1 f1 a1
  have e2 := hf 2 f2 a2
  have hsz : (P.fieldsOf tV).size = 3 := by have := congrArg Array.size T.fV; simpa using this
  rw [b0, c0, T.cI] at e0
  rw [b1, c1, T.cJ] at e1
  rw [b2, c2, T.cS] at e2
  rw [hsz] at hn
  rw [T.cV] at hl
  match xs, hn with
  | [x0, x1, x2], _ =>
    obtain ⟨k, g0, q0, r0⟩ := DataW.trod_int T.hI (x := x0) e0
    obtain ⟨l, g1, q1, r1⟩ := DataW.trod_int T.hJ (x := x1) e1
    obtain ⟨s, g2, q2, r2⟩ := DataW.trod_string T.hS (x := x2) e2
    match cs, hl with
    | [y0, y1, y2], _ =>
      simp at g0 g1 g2
      subst g0 g1 g2 q0 q1 q2
      exact ⟨rfl, wf_i64 r0, wf_i64 r1⟩
theorem cells_row {a : Addr} {n : Nat} {cs : List Value} (h : w.cells? base a n = some cs) (hn : 0 < n) : a.spot = none ∧ cs.length = n ∧ RowAt cs a.block a.off w := by
  unfold World.cells? at h
  split at h
  · have hl : cs.length = n := by simpa using mapM_some_length h
    have hg : ∀ i, i < n → w.cell? (a.add i) = cs[i]? := fun i hi => mapM_some_get h i i (by simp [hi])
    have hs : a.spot = none := by
      have h0 := hg 0 hn
      have : cs[0]? = some cs[0] := List.getElem?_eq_getElem (by omega)
      rw [this] at h0
      unfold World.cell? at h0
      split at h0
      · split at h0
        · cases h0
        · rename_i hsp
          cases hq : a.spot with
          | none => rfl
          | some q => simp [Addr.add, hq] at hsp
      · cases h0
    refine ⟨hs, hl, fun j v hj => ?_⟩
    have hj' : j < n := by have := (List.getElem?_eq_some_iff.1 hj).1; omega
    have := hg j hj'
    rw [hj] at this
    rw [← this]
    cases a
    simp only at hs
    subst hs
    rw [add_at]
  · cases h
theorem add_block (a : Addr) (n : Nat) : (a.add n).block = a.block := by unfold Addr.add; split <;> rfl
theorem add_off (a : Addr) (n : Nat) : (a.add n).off = a.off + n := by unfold Addr.add; split <;> simp_all
theorem add_0 (a : Addr) : a.add 0 = a := by simp [Addr.add]
theorem read_row {tVs tV tI tJ tS : TypeId} (T : ValTy P tV tI tJ tS) (hVs : P.underlying tVs = some (.slice tV)) {n : Nat} {v : Value} {x : DataW H × List MemPlace} (h : DataW.trod enc P w base spare held n tVs v.cells.toList = some x) (hv : ∀ cs, v ≠ .agg cs) :
    RowS (rowOf x.1) v w ∧ ∀ y ∈ rowOf x.1, y.rng := by
  have hc : v.cells.toList = [v] := by
    cases v <;> first | rfl | exact absurd rfl (hv _)
  rw [hc] at h
  rcases DataW.trod_slice hVs h with ⟨g5, q5⟩ | ⟨a, len, cap, elems, rest, q, rfl, g5, q5, hb, hlc, hmx, hel, hall, _, _⟩
  · simp at g5
    subst g5 q5
    exact ⟨⟨none, 0, 0, rfl, rfl, fun h => absurd rfl h⟩, fun y hy => by simp [rowOf] at hy⟩
  · simp at g5
    subst g5
    obtain ⟨xa, xb⟩ := x
    injection q5 with q5 q5'
    subst q5 q5'
    have hval : ∀ i y, ((elems.map (·.1)).map v3Of)[i]? = some y → RowAt y.cells a.block (a.off + 3 * i) w ∧ y.rng ∧ (i = 0 → a.spot = none) := by
      intro i y hy
      have hi : i < len := by
        have := (List.getElem?_eq_some_iff.1 hy).1
        simpa [hel] using this
      have hA := hall i hi
      rw [List.getElem?_eq_getElem (by omega), T.cV] at hA
      obtain ⟨cs', hc1, hc2⟩ := Option.bind_eq_some_iff.1 hA
      obtain ⟨z1, z2, z3⟩ := cells_row hc1 (by omega)
      obtain ⟨j1, j2⟩ := read_val T hc2
      have hy' : y = v3Of elems[i].1 := by
        simp [List.getElem?_eq_getElem (show i < elems.length by omega)] at hy
        exact hy.symm
      subst hy'
      refine ⟨?_, j2, fun h0 => ?_⟩
      · rw [add_block, add_off] at z3
        rw [← j1, Nat.mul_comm 3 i]
        exact z3
      · subst h0
        rwa [Nat.zero_mul, add_0] at z1
    refine ⟨⟨some a, len, cap, rfl, by simp [rowOf, hel], fun hne => ⟨a.block, a.off, ?_, fun i y hy => (hval i y hy).1⟩⟩, fun y hy => ?_⟩
    · have h0 : ((elems.map (·.1)).map v3Of)[0]? = some (((elems.map (·.1)).map v3Of)[0]'(by simp [hel]; omega)) := List.getElem?_eq_getElem _
      obtain ⟨_, _, hsp⟩ := hval 0 _ h0
      replace hsp := hsp rfl
      cases a
      simp only at hsp
      subst hsp
      rfl
    · obtain ⟨i, hi⟩ := List.getElem?_of_mem hy
      exact (hval i y hi).2.1
end
end Go.Vc

namespace Go.Vc
open Go Go.RowKit Go.WideShapes Go.ChangeShapes
theorem Keeps.below {w w' : World} (h : Keeps noX w w') : Below w.heap.size w w' := ⟨h.os, h.tape, h.output, h.size, fun k hk => h.blk k hk id⟩
section
variable {H : Type} {enc : TypeId × Value → H} {P : Program}
theorem trodAll_stays (hl : laidOutB P = true) {W W' : World} {sp : Nat → Bool} (hb : Below W.heap.size W W') : ∀ {ts : List TypeId} {vs : List Value} {ds : List (DataW H)} {ps : List MemPlace},
    (∀ t ∈ ts, P.readableRec t = true ∧ t < P.types.size) → DataW.TrodAll enc P W 0 (fun _ => true) true ts vs ds ps → (∀ p ∈ ps, p.block < W.heap.size) → (∀ p ∈ ps, sp p.block = true) → DataW.TrodAll enc P W' 0 sp true ts vs ds ps
  | [], [], [], _, _, h, _, _ => h
  | t :: ts, _ :: _, _ :: _, _, hT, ⟨p, q, h1, h2, e⟩, hlt, hs => by
    subst e
    have ht := hT t List.mem_cons_self
    exact ⟨p, q, WideElems.Trod_stays hl ht.1 ht.2 h1 (fun x hx => hb.same (hlt x (List.mem_append_left _ hx))) (fun x hx => hs x (List.mem_append_left _ hx)),
      trodAll_stays hl hb (fun u hu => hT u (List.mem_cons_of_mem _ hu)) h2 (fun x hx => hlt x (List.mem_append_right _ hx)) (fun x hx => hs x (List.mem_append_right _ hx)), rfl⟩
theorem post_true {f : Func} {s : ChangeSpec} {handsOn again : Bool} {tB : TypeId} {W W' : World} {args : Array Value} {ds : List (DataW H)} {before : List MemPlace}
    (hl : laidOutB P = true) (hT : ∀ t ∈ f.params.toList, P.readableRec t = true ∧ t < P.types.size) (hB : P.underlying tB = some .bool) (hr : f.resultTypes = #[tB]) (hv : s.vars = [])
    (hs1 : (s.fn H ds).results = [.lit (.bool true)]) (hs2 : (s.fn H ds).args = ds) (hs3 : (s.fn H ds).vars = [])
    (hW : DataW.Whole enc P f.params.toList s.vars false W args.toList ds [] before) (hk : Keeps noX W W') : s.post enc P f false true handsOn again W args (.bool true) W' := by
  have hb := hk.below
  have hlt : ∀ p ∈ before, p.block < W.heap.size := fun p hp => hW.lt p hp
  have hW' := hW
  obtain ⟨p, q, hA, hV, rfl, hz, hn⟩ := hW
  rw [hv] at hV
  obtain ⟨_, rfl⟩ := trodVars_none hV
  simp only [List.append_nil] at hlt hz
  have hA' : ∀ sp : Nat → Bool, (∀ x ∈ p, sp x.block = true) → DataW.TrodAll enc P W' 0 sp true f.params.toList args.toList ds p := fun sp hsp => trodAll_stays hl hb hT hA hlt hsp
  have hres : ∀ (b : Nat) (sp : Nat → Bool) (hd : Bool), DataW.TrodAll enc P W' b sp hd f.resultTypes.toList ((Value.bool true).resultList f.resultTypes.size) (s.fn H (ds ++ [])).results [] := fun b sp hd => by
    rw [List.append_nil, hs1, hr]
    exact trodAll_mk1 (shut_bool hB _)
  have hold : ∀ x ∈ p, (fun b => decide (b < W.heap.size)) x.block = true := fun x hx => by simpa using hlt x hx
  have hvar : ∀ sp : Nat → Bool, DataW.TrodVars enc P W' sp s.vars (s.fn H (ds ++ [])).vars [] := fun sp => by
    rw [List.append_nil, hs3, hv]
    rfl
  have harg : ∀ sp : Nat → Bool, (∀ x ∈ p, sp x.block = true) → DataW.TrodAll enc P W' 0 sp true f.params.toList args.toList (s.fn H (ds ++ [])).args p := fun sp hsp => by
    rw [List.append_nil, hs2]
    exact hA' sp hsp
  refine ⟨ds, [], p ++ [], [], p, [], hW', hres _ _ _, harg _ hold, hvar _, World.keptBut_mono (fun x hx => ⟨hx, Or.inr (by simpa using hx)⟩) (hb.frame (· ∈ p ++ [])), fun _ => ?_⟩
  refine ⟨ok_one (by rw [hr]) rfl (okWide_bool_mk hB _), _, _, ([] ++ p) ++ [], ⟨[] ++ p, [], trodAll_append (harg _ (fun _ _ => rfl)) (hres _ _ _), hvar _, rfl, ?_, ?_⟩, ?_⟩
  · intro b off hp
    have hin : MemPlace.cell b off ∈ p := by simpa using hp
    rw [hb.frozen (hlt _ hin)]
    exact hz b off hin
  · intro ha
    cases ha
  · intro x hx _
    simpa using hx
end
end Go.Vc
namespace Go.Vc
open Go Go.WideShapes
theorem noagg {P : Program} {w : World} {r : Reach} {base : Nat} {t e : TypeId} {v : Value} (ht : P.underlying t = some (.slice e)) (h : Value.okWide P w r base t v) : ∀ cs, v ≠ .agg cs := by
  obtain ⟨a, l, c, rfl⟩ := okWide_slice ht h
  intro cs e
  cases e
end Go.Vc
namespace Go.Vc
open Go
theorem mem1 {p : TypeId → Prop} {a : TypeId} (ha : p a) : ∀ t ∈ [a], p t := by simpa using ha
end Go.Vc
namespace Go.Vc
open Go
end Go.Vc
namespace Go.Vc
open Go Go.RowKit Go.WideShapes Go.ChangeShapes
end Go.Vc

namespace Go.Vc
open Go
def nullCells (op : Int) (xc : List Value) (rv : Value) (left : Bool) : List Value := .int .u8 op :: (xc ++ [rv, .bool left])
def NullR (op : Int) (x : Ex) (vals : List V3) (left : Bool) (v : Value) (w : World) : Prop := ∃ xc rv, xc.length = 8 ∧ v = .agg (nullCells op xc rv left).toArray ∧ ExR x (.agg xc.toArray) w ∧ RowS vals rv w
section
variable {P : Program} {c : Ctx} {K : List (Nat × Ty)} {L : List Own} {Φ : List (World → Prop)} {Q : Exit → Act → World → Prop}
end
section
variable {P : Program} {L : List Own} {Φ : List (World → Prop)} {H : Know} {o : Oper}
end
structure NullTy (P : Program) (tN tE tEs tVs tV tI tJ tS tU tB : TypeId) : Prop extends ExTy P tE tEs tV tI tJ tS where
  hN : P.underlying tN = some (.struct (P.fieldsOf tN))
  fN : (P.fieldsOf tN).map (fun f => (f.type, f.offset)) = #[(tU, 0), (tE, 1), (tVs, 9), (tB, 10)]
  hVs : P.underlying tVs = some (.slice tV)
  hU : P.underlying tU = some (.int .u8)
  hB : P.underlying tB = some .bool
  cN : P.cellsOf tN = 11
  cVs : P.cellsOf tVs = 1
  cU : P.cellsOf tU = 1
  cB : P.cellsOf tB = 1
def opOf {H : Type} : DataW H → Int
  | .lit (.int _ n) => n
  | _ => 0
def boolOf {H : Type} : DataW H → Bool
  | .lit (.bool b) => b
  | _ => false
def nullOf {H : Type} (n : Nat) : DataW H → Int × Ex × List V3 × Bool
  | .agg [a, b, c, d] => (opOf a, exOf n b, rowOf c, boolOf d)
  | _ => (0, .mk 0 0 0 ⟨#[]⟩ ⟨#[]⟩ ⟨#[]⟩ 0 [], [], false)
section
variable {H : Type} {enc : TypeId × Value → H} {P : Program} {w : World} {base : Nat} {spare : Nat → Bool} {held : Bool}
end
end Go.Vc
namespace Go.Vc
open Go
end Go.Vc

namespace Go.Vc
open Go
section
variable {P : Program}
theorem run_append_own {t tx ty e : TypeId} {i : TypeInfo} {z : Value} (ht : P.underlying t = some (.slice e)) (hi : P.info? e = some i) (hz : i.zero = some z) (hzs : z.cells.size = i.size)
    {w : World} {b len cap n : Nat} {cs news : List Value} {x : Value} (hb : w.heap[b]? = some (.cells cs.toArray e (0, 0))) (hc : cs.length = cap * i.size) (hl : len ≤ cap) (hs : Src P i.size tx x n news w) (hfit : (len + n) * i.bytes ≤ 140737488355328) (h63 : len + n ≤ 9223372036854775807) :
    ∃ (b' cap' : Nat) (cs' : List Value) (w' : World), (Builtin.append_ #[t, tx] ty #[.slice (some ⟨b, 0, none⟩) len cap, x]).run P w = .ok (.slice (some ⟨b', 0, none⟩) (len + n) cap') w' ∧ cs'.length = cap' * i.size ∧ len + n ≤ cap' ∧
      cs'.take ((len + n) * i.size) = cs.take (len * i.size) ++ news ∧ w'.heap[b']? = some (.cells cs'.toArray e (0, 0)) ∧ Keeps (fun q => q = b) w w' ∧ (b' = b ∨ w.heap.size ≤ b') := by
  have hnl := hs.newsLen
  by_cases hroom : len + n ≤ cap
  · have hm : len * i.size + n * i.size ≤ cap * i.size := by rw [← Nat.add_mul]; exact Nat.mul_le_mul_right _ hroom
    have hst := run_storeCells_at (P := P) b (len * i.size) e news 0 cs.toArray w hb (by simp; omega) hs.one
    refine ⟨b, cap, cs.take (len * i.size) ++ news ++ cs.drop (len * i.size + news.length), w.setRow b (cs.take (len * i.size) ++ news ++ cs.drop (len * i.size + news.length)).toArray, ?_, ?_, hroom, ?_, heap_setRow w b _ _ _ _ hb, Keeps.setRow w b _ _ _ hb ?_, Or.inl rfl⟩
    · simp only [Nat.add_zero] at hst
      have ha : ∀ m, (⟨b, 0, none⟩ : Addr).add m = ⟨b, m, none⟩ := fun m => by rw [add_at]; simp
      rcases hs.kind with ⟨e', hk⟩ | hk <;> simp [Builtin.append_, run_underlying ht, run_underlying hk, sizeOf, typeInfo, hi, hs.len, hroom, hs.cells, ha, hst]
    · simp; omega
    · rw [List.take_append_of_le_length (by simp; rw [Nat.add_mul]; omega), List.take_of_length_le (by simp; rw [Nat.add_mul]; omega)]
    · simp; omega
  · have hold : (Builtin.firstCells i.size len (.slice (some ⟨b, 0, none⟩) len cap)).run P w.drew = .ok (cs.take (len * i.size)).toArray w.drew := by
      have hle : len * i.size ≤ cap * i.size := Nat.mul_le_mul_right _ hl
      refine run_firstCells_some _ _ _ _ _ _ _ (by simp; omega) fun j v hj => ?_
      have hd : w.drew.heap[b]? = some (.cells cs.toArray e (0, 0)) := hb
      rw [add_at, cell_of_blk hd, Nat.zero_add]
      rw [List.getElem?_take] at hj
      split at hj
      · simpa using hj
      · cases hj
    have hg : cap < len + n := by omega
    have hr := run_append_grow_src (P := P) w t tx ty e i z ht hi hz (some ⟨b, 0, none⟩) len cap (cs.take (len * i.size)) hold x n news hs hg (by omega) (growslice_fits hg hfit)
    have hge := grownCap_ge w (len + n) cap e
    refine ⟨w.heap.size, grownCap w (len + n) cap e, (cs.take (len * i.size) ++ news) ++ (Builtin.zeroCells z.cells (grownCap w (len + n) cap e - (len + n))).toList, _, hr, ?_, hge, ?_, ?_, ?_, Or.inr (Nat.le_refl _)⟩
    · have hle : len * i.size ≤ cap * i.size := Nat.mul_le_mul_right _ hl
      have : (Builtin.zeroCells z.cells (grownCap w (len + n) cap e - (len + n))).size = (grownCap w (len + n) cap e - (len + n)) * i.size := by simp [Builtin.zeroCells, hzs]
      simp only [List.length_append, List.length_take, Array.length_toList, this, hnl]
      rw [Nat.min_eq_left (by omega), ← Nat.add_mul, ← Nat.add_mul]
      congr 1
      omega
    · have hle : len * i.size ≤ cap * i.size := Nat.mul_le_mul_right _ hl
      rw [List.take_append_of_le_length (by simp [hnl]; rw [Nat.add_mul]; omega), List.take_of_length_le (by simp [hnl]; rw [Nat.add_mul]; omega)]
    · have := heap_alloc_at w.drew (.cells ((cs.take (len * i.size) ++ news).toArray ++ Builtin.zeroCells z.cells (grownCap w (len + n) cap e - (len + n))) e (0, 0))
      rw [show w.drew.heap.size = w.heap.size from rfl] at this
      rw [this]
      congr 2
      apply Array.ext'
      simp
    · exact ((Keeps.drew w).trans (Keeps.alloc _ _)).mono fun _ _ h => h.elim
end
end Go.Vc
namespace Go.Vc
open Go
section
variable {P : Program} {c : Ctx} {K : List (Nat × Ty)} {L : List Own} {Φ : List (World → Prop)} {Q : Exit → Act → World → Prop}
theorem SA.swap {E : Nat → Prop} {a : Act} {w w' : World} {b b' d : Nat} {ety : TypeId} {T : Ty} {u v : Value} (hs : SA c K (⟨b, ety, T⟩ :: L) Φ E a w) (hk : Keeps (fun q => q = b) w w') (hb' : b' = b ∨ w.heap.size ≤ b')
    (hat : w'.heap[b']? = some (.cells u.cells ety (0, 0))) (hd : d < c.n) : ∃ E', SA c ((d, .is v) :: K) (⟨b', ety, .is u⟩ :: L) Φ E' (a.put (some d) v) w' := by
  have hE : E b := (hs.l _ List.mem_cons_self).1
  have hev : Ev E w (fun q => E q ∨ q = b') w' := ⟨hk.mono fun q _ e => by rw [e]; exact hE, fun q hq => ⟨fun h => h.elim id fun e => by
    rcases hb' with h | h
    · rw [e, h]; exact hE
    · exact absurd hq (by omega), .inl⟩⟩
  have hne : ∀ o ∈ L, o.b ≠ b := fun o ho e => by
    have := hs.ld
    rw [List.map_cons, List.nodup_cons] at this
    exact this.1 (List.mem_map.2 ⟨o, ho, e⟩)
  have hmay := hs.may _ List.mem_cons_self
  refine ⟨fun q => E q ∨ q = b', hs.put (dst := some d) (T := .is v) hev ?_ rfl (fun d' e => by injection e with e; omega) ?_ ?_ (hs.keeps.step hk fun q e => by rw [e]; exact hmay) ?_⟩
  · rintro q (hq | rfl)
    · have := hs.wf q hq; have := hk.size; omega
    · exact lt_of_get hat
  · intro o ho
    rcases List.mem_cons.1 ho with rfl | ho
    · exact ⟨.inr rfl, u, hat, rfl⟩
    · have h := hs.l o (List.mem_cons_of_mem _ ho)
      exact Own.keep h hev (hk.blk _ (hs.wf _ h.1) (hne o ho))
  · have := hs.ld
    rw [List.map_cons, List.nodup_cons] at this ⊢
    refine ⟨fun h => ?_, this.2⟩
    obtain ⟨m, hm, e⟩ := List.mem_map.1 h
    have e' : m.b = b' := e
    rcases hb' with h | h
    · exact hne m hm (e'.trans h)
    · have := hs.wf m.b (hs.l m (List.mem_cons_of_mem _ hm)).1
      omega
  · intro o ho
    rcases List.mem_cons.1 ho with rfl | ho
    · rcases hb' with h | h
      · show c.X0 b' ∨ c.W0.heap.size ≤ b'
        rw [h]; exact hmay
      · have := hs.keeps.size
        exact .inr (by show c.W0.heap.size ≤ b'; omega)
    · exact hs.may o (List.mem_cons_of_mem _ ho)
def SrcOf (P : Program) (L : List Own) (Φ : List (World → Prop)) (size : Nat) (tx : TypeId) (T : Ty) (n : Nat) (news : List Value) : Prop := ∀ E w v, (∀ m ∈ L, m.at E w) → (∀ F ∈ Φ, Pers E w F) → T.p E v w → Src P size tx v n news w
theorem JO.append {ops : Array Oper} {rest : List Oper} {d : Nat} {ty t tx e : TypeId} {pos : String} {after : Array Edge} {s x : Operand} {i : TypeInfo} {z : Value} {b len cap n : Nat} {cs news : List Value} {TX : Ty}
    (ht : P.underlying t = some (.slice e)) (hi : P.info? e = some i) (hz : i.zero = some z) (hzs : z.cells.size = i.size)
    (h0 : opTy K s = some (.is (.slice (some ⟨b, 0, none⟩) len cap))) (hx : opTy K x = some TX) (hS : SrcOf P (⟨b, e, .is (.agg cs.toArray)⟩ :: L) Φ i.size tx TX n news) (hc : cs.length = cap * i.size) (hl : len ≤ cap) (hfit : (len + n) * i.bytes ≤ 140737488355328) (h63 : len + n ≤ 9223372036854775807) (hd : Nat.blt d c.n = true)
    (hn : ∀ (b' cap' : Nat) (cs' : List Value), cs'.length = cap' * i.size → len + n ≤ cap' → cs'.take ((len + n) * i.size) = cs.take (len * i.size) ++ news → JO P c ((d, .is (.slice (some ⟨b', 0, none⟩) (len + n) cap')) :: K) (⟨b', e, .is (.agg cs'.toArray)⟩ :: L) Φ ops rest Q) :
    JO P c K (⟨b, e, .is (.agg cs.toArray)⟩ :: L) Φ ops (⟨some d, .call { callee := .builtin .append, args := #[s, x], argTypes := #[t, tx] }, ty, pos, after, none⟩ :: rest) Q := by
  refine ⟨?_⟩
  intro E a w hs
  refine wpList_plain rfl fun K' hK => ?_
  have e1 : a.eval s = .slice (some ⟨b, 0, none⟩) len cap := opTy_eval hs h0
  have e2 := hS E w (a.eval x) hs.l hs.f (opTy_eval hs hx)
  have hb := own_blk (hs.l _ List.mem_cons_self) rfl
  obtain ⟨b', cap', cs', w', hr, h1, h2, h3, h4, h5, h6⟩ := run_append_own (P := P) (tx := tx) (ty := ty) ht hi hz hzs hb hc hl e2 hfit h63
  obtain ⟨E', hs'⟩ := hs.swap (d := d) (u := .agg cs'.toArray) (v := .slice (some ⟨b', 0, none⟩) (len + n) cap') h5 h6 h4 (Nat.le_of_ble_eq_true hd)
  unfold Oper.wp
  have hrun : (execOp a.eval ⟨some d, .call { callee := .builtin .append, args := #[s, x], argTypes := #[t, tx] }, ty, pos, after, none⟩).run P w = .ok (.value (.slice (some ⟨b', 0, none⟩) (len + n) cap')) w' := by
    simp [execOp, resolve, invoke, builtin, e1, hr]
  rw [hrun]
  exact hK _ _ ((hn b' cap' cs' h1 h2 h3).out E' _ _ hs')
end
end Go.Vc
