/- The program logic, part 4. No condition. -/
import Derived.Test.YtggmifnkgcladaaXG2
import Derived.MapKept
import Derived.Below
import Derived.Laws.IdiomStrings
import Derived.Laws.Strings3
namespace Go.Vc
open Go
theorem keeps_claim {E E0 : Nat → Prop} {w w0 : World} {b : Nat} (h : Pers E w (Keeps E0 w0)) (hb : w0.heap.size ≤ b) : Pers (fun q => E q ∨ q = b) w (Keeps E0 w0) := by
  intro w' hk
  have hn := h.now
  refine ⟨hk.os.trans hn.os, hk.tape.trans hn.tape, hk.output.trans hn.output, Nat.le_trans hn.size hk.size, fun q hq hx => ?_, fun q cs t fr hq => ?_⟩
  · have hqw : q < w.heap.size := Nat.lt_of_lt_of_le hq hn.size
    have hqw' : q < w'.heap.size := Nat.lt_of_lt_of_le hqw hk.size
    by_cases he : E q
    ·
      have h1 := h { w with heap := w.heap.set q w'.heap[q] hqw } ⟨rfl, rfl, rfl, by simp, fun r hr hne => by
        have : q ≠ r := fun e => hne (e ▸ he)
        simp [Array.getElem?_set, this], fun r cs t fr hr => by
        by_cases e : q = r
        · subst e
          obtain ⟨cs', h2, h3⟩ := hk.shp q cs t fr hr
          refine ⟨cs', ?_, h3⟩
          rw [Array.getElem?_eq_getElem hqw'] at h2
          simpa using h2
        · exact ⟨cs, by simp [Array.getElem?_set, e, hr], rfl⟩⟩
      have h2 := h1.blk q hq hx
      rw [← h2, Array.getElem?_eq_getElem hqw']
      simp
    · have hne : ¬ (E q ∨ q = b) := fun h => h.elim he (fun e => by omega)
      exact (hk.blk q hqw hne).trans (hn.blk q hq hx)
  · obtain ⟨cs1, h1, e1⟩ := hn.shp q cs t fr hq
    obtain ⟨cs2, h2, e2⟩ := hk.shp q cs1 t fr h1
    exact ⟨cs2, h2, e2.trans e1⟩
def Ty.isIs : Ty → Bool
  | .is _ => true
  | _ => false
def Fresh (N : Nat) (e : TypeId) (a : Option Addr) (n sz : Nat) (w : World) : Prop := n ≠ 0 → ∃ b cs, a = some ⟨b, 0, none⟩ ∧ N ≤ b ∧ w.heap[b]? = some (.cells cs e (0, 0)) ∧ n * sz ≤ cs.size
theorem look_is : ∀ {K : List (Nat × Ty)}, K.all (fun p => p.2.isIs) = true → ∀ s T, look K s = some T → ∃ v, T = .is v
  | [], _, s, T, h => by cases h
  | (t, U) :: K, ha, s, T, h => by
    simp only [List.all_cons, Bool.and_eq_true] at ha
    unfold look at h
    cases hb : Nat.beq t s
    · rw [hb] at h
      exact look_is ha.2 s T h
    · rw [hb] at h
      injection h with h
      subst h
      cases U with
      | is v => exact ⟨v, rfl⟩
      | _ => simp [Ty.isIs] at ha
section
variable {P : Program} {c : Ctx} {K K' : List (Nat × Ty)} {L L' : List Own} {Φ Φ0 : List (World → Prop)} {Q : Exit → Act → World → Prop}
theorem J.mark {x : Code} (h : ∀ (E0 : Nat → Prop) (w0 : World), c.W0.heap.size ≤ w0.heap.size → (∀ F ∈ Φ, Pers E0 w0 F) → J P c K L ((fun w => w0.heap.size ≤ w.heap.size) :: Keeps E0 w0 :: Φ) x Q) : J P c K L Φ x Q :=
  ⟨fun E a w hs => (h E w hs.keeps.size hs.f).out E a w ⟨hs.n, hs.d, hs.wf, hs.k, hs.l, hs.ld, fun F hF => by
    rcases List.mem_cons.1 hF with rfl | hF
    · exact fun w' hk => hk.size
    · rcases List.mem_cons.1 hF with rfl | hF
      · exact fun w' hk => hk
      · exact hs.f F hF, hs.x, hs.xs, hs.keeps, hs.may⟩⟩
end
section
variable {P : Program} {fn : Func} {R : Ty} {n : Nat}
end
def FExR (N : Nat) (tE : TypeId) (x : Ex) (v : Value) (w : World) : Prop := ExR x v w ∧ ∃ a len cap, v = .agg (exCells x.K x.VK x.VN x.VS x.TB x.NM x.SL a len cap).toArray ∧ Fresh N tE a len 8 w
def NExR (N : Nat) (x : Ex) (v : Value) (w : World) : Prop := N ≤ w.heap.size ∧ ExR x v w
section
variable {L : List Own} {Φ : List (World → Prop)}
end
section
variable {P : Program} {c : Ctx} {K : List (Nat × Ty)} {L : List Own} {Φ : List (World → Prop)} {Q : Exit → Act → World → Prop}
theorem splice_len {cs ys : List Value} {off : Nat} (h : off + ys.length ≤ cs.length) : (splice cs off ys).length = cs.length := by
  unfold splice
  simp
  omega
end
end Go.Vc
namespace Go.Vc
open Go
section
variable {P : Program} {c : Ctx} {K : List (Nat × Ty)} {L : List Own} {Φ : List (World → Prop)} {Q : Exit → Act → World → Prop}
end
end Go.Vc

namespace Go.Vc
open Go
section
variable {P : Program} {c : Ctx} {K : List (Nat × Ty)} {L : List Own} {Φ : List (World → Prop)} {Q : Exit → Act → World → Prop}
structure JM (P : Program) (c : Ctx) (K : List (Nat × Ty)) (L : List Own) (Φ : List (World → Prop)) (r : Nat) (es : Array MapEntry) (cl : Nat) (ops : Array Oper) (l : List Oper) (Q : Exit → Act → World → Prop) : Prop where
  out : ∀ E a w, SA c K L Φ E a w → r = w.heap.size → wpList P ops Q l a (w.alloc (.map es cl))
variable {ops : Array Oper} {rest : List Oper} {d : Nat} {ty t : TypeId} {pos : String} {after : Array Edge} {r cl : Nat} {es : Array MapEntry}
end
end Go.Vc
namespace Go.Vc
open Go
structure C4 where
  n : ByteArray
  ty : Int
  nn : Bool
  un : Bool
def C4.cells (c : C4) : List Value := [.string c.n, .int .i64 c.ty, .bool c.nn, .bool c.un]
def c4D : C4 := ⟨⟨#[]⟩, 0, false, false⟩
structure I4 where
  n : ByteArray
  t : ByteArray
  col : Int
  h : Bool
def I4.cells (c : I4) : List Value := [.string c.n, .string c.t, .int .i64 c.col, .bool c.h]
def i4D : I4 := ⟨⟨#[]⟩, ⟨#[]⟩, 0, false⟩
def TabR (nm : ByteArray) (cols : List C4) (v : Value) (w : World) : Prop := ∃ a len cap, v = .agg [.string nm, .slice a len cap].toArray ∧ RowG C4.cells 4 cols a len w
section
variable {P : Program} {c : Ctx} {K : List (Nat × Ty)} {L : List Own} {Φ : List (World → Prop)} {Q : Exit → Act → World → Prop}
end
section
variable {P : Program} {L : List Own} {Φ : List (World → Prop)} {H : Know} {dst : Option Nat} {ty : TypeId} {pos : String} {after : Array Edge} {g : Option (Nat × Bool)}
end
end Go.Vc
namespace Go.Vc
open Go
section
variable {P : Program} {K : List (Nat × Ty)} {L : List Own} {Φ : List (World → Prop)} {fn : Func} {n : Nat} {X : Nat → Prop} {W : World}
end
end Go.Vc

namespace Go.Vc
open Go
section
variable {P : Program}
theorem run_veqD (d' : Nat) {t ti tj ts : TypeId} (h : VEq P t ti tj ts) (k1 n1 : Int) (s1 : ByteArray) (k2 n2 : Int) (s2 : ByteArray) (w : World) :
    (Op.equalIn (d' + 2) t (.agg #[.int .i64 k1, .int .i64 n1, .string s1]) (.agg #[.int .i64 k2, .int .i64 n2, .string s2])).run P w = .ok (veq k1 n1 s1 k2 n2 s2) w := by
  have e := run_equalIn_struct (P := P) w (d' + 1) t #[.int .i64 k1, .int .i64 n1, .string s1] #[.int .i64 k2, .int .i64 n2, .string s2] h.ht h.hp
  refine e.trans ?_
  have hf := h.hf
  generalize (P.fieldsOf t).toList = fs at hf ⊢
  have h3' : ∃ f0 f1 f2, fs = [f0, f1, f2] := by
    obtain ⟨f0, l0, rfl, _, hf⟩ := List.map_eq_cons_iff.1 hf
    obtain ⟨f1, l1, rfl, _, hf⟩ := List.map_eq_cons_iff.1 hf
    obtain ⟨f2, l2, rfl, _, hf⟩ := List.map_eq_cons_iff.1 hf
    exact ⟨f0, f1, f2, by rw [List.map_eq_nil_iff.1 hf]⟩
  obtain ⟨f0, f1, f2, rfl⟩ := h3'
  simp only [List.map_cons, List.map_nil, List.cons.injEq, Prod.mk.injEq, and_true] at hf
  obtain ⟨⟨a0, b0, c0⟩, ⟨a1, b1, c1⟩, ⟨a2, b2, c2⟩⟩ := hf
  have i1 : (isAgg ti).run P w = .ok false w := by simp [isAgg, run_underlying h.h1]
  have i2 : (isAgg tj).run P w = .ok false w := by simp [isAgg, run_underlying h.h2]
  have i3 : (isAgg ts).run P w = .ok false w := by simp [isAgg, run_underlying h.h3]
  have q1 := run_equalIn_int (P := P) w d' ti .i64 .i64 k1 k2 h.h1
  have q2 := run_equalIn_int (P := P) w d' tj .i64 .i64 n1 n2 h.h2
  have q3 := run_equalIn_string (P := P) w d' ts s1 s2 h.h3
  have x0 : f0.name ≠ "_" := by simpa using a0
  have x1 : f1.name ≠ "_" := by simpa using a1
  have x2 : f2.name ≠ "_" := by simpa using a2
  unfold veq seq
  generalize (k1 == k2) = A at *
  generalize (n1 == n2) = B at *
  generalize (s1.toList == s2.toList) = C at *
  simp only [Op.eqFields, ne_eq, x0, x1, x2, not_false_eq_true, if_true, b0, b1, b2, c0, c1, c2, part, Sem.run_bind, i1, i2, i3, Result.andThen_ok, Bool.false_eq_true, if_false, List.getElem?_toArray, List.getElem?_cons_zero, List.getElem?_cons_succ, Sem.run_pure, q1]
  cases A <;> cases B <;> cases C <;> simp [q2, q3, i2, i3]
structure REq (P : Program) (t tv ti tj ts : TypeId) : Prop extends VEq P tv ti tj ts where
  rt : P.underlying t = some (.struct (P.fieldsOf t))
  rp : P.stoodInHeld t = false
  rg : P.eqGuardType P.depth t = false
  rf : (P.fieldsOf t).toList.map (fun f => (f.name == "_", f.type, f.offset)) = [(false, ts, 0), (false, ti, 1), (false, tv, 2), (false, tv, 5)]
  rs : (P.info? tv).map (·.size) = some 3
theorem run_req {t tv ti tj ts : TypeId} (h : REq P t tv ti tj ts) (t1 : ByteArray) (c1 : Int) (a b : V3) (t2 : ByteArray) (c2 : Int) (a' b' : V3) (w : World) :
    (Op.equalIn 10000 t (.agg #[.string t1, .int .i64 c1, .int .i64 a.k, .int .i64 a.n, .string a.s, .int .i64 b.k, .int .i64 b.n, .string b.s]) (.agg #[.string t2, .int .i64 c2, .int .i64 a'.k, .int .i64 a'.n, .string a'.s, .int .i64 b'.k, .int .i64 b'.n, .string b'.s])).run P w =
      .ok (seq t1 t2 && ((c1 == c2) && (veq a.k a.n a.s a'.k a'.n a'.s && veq b.k b.n b.s b'.k b'.n b'.s))) w := by
  have e := run_equalIn_struct (P := P) w 9999 t #[.string t1, .int .i64 c1, .int .i64 a.k, .int .i64 a.n, .string a.s, .int .i64 b.k, .int .i64 b.n, .string b.s] #[.string t2, .int .i64 c2, .int .i64 a'.k, .int .i64 a'.n, .string a'.s, .int .i64 b'.k, .int .i64 b'.n, .string b'.s] h.rt h.rp
  refine e.trans ?_
  have hf := h.rf
  generalize hd : (9999 : Nat) = d
  obtain ⟨d', rfl⟩ : ∃ d', d = d' + 2 := ⟨9997, by omega⟩
  generalize (P.fieldsOf t).toList = fs at hf ⊢
  have h3' : ∃ f0 f1 f2 f3, fs = [f0, f1, f2, f3] := by
    obtain ⟨f0, l0, rfl, _, hf⟩ := List.map_eq_cons_iff.1 hf
    obtain ⟨f1, l1, rfl, _, hf⟩ := List.map_eq_cons_iff.1 hf
    obtain ⟨f2, l2, rfl, _, hf⟩ := List.map_eq_cons_iff.1 hf
    obtain ⟨f3, l3, rfl, _, hf⟩ := List.map_eq_cons_iff.1 hf
    exact ⟨f0, f1, f2, f3, by rw [List.map_eq_nil_iff.1 hf]⟩
  obtain ⟨f0, f1, f2, f3, rfl⟩ := h3'
  simp only [List.map_cons, List.map_nil, List.cons.injEq, Prod.mk.injEq, and_true] at hf
  obtain ⟨⟨a0, b0, g0⟩, ⟨a1, b1, g1⟩, ⟨a2, b2, g2⟩, ⟨a3, b3, g3⟩⟩ := hf
  have i1 : (isAgg ti).run P w = .ok false w := by simp [isAgg, run_underlying h.h1]
  have i3 : (isAgg ts).run P w = .ok false w := by simp [isAgg, run_underlying h.h3]
  have iv : (isAgg tv).run P w = .ok true w := by simp [isAgg, run_underlying h.ht]
  have q1 := run_equalIn_int (P := P) w (d' + 1) ti .i64 .i64 c1 c2 h.h1
  have q3 := run_equalIn_string (P := P) w (d' + 1) ts t1 t2 h.h3
  have v1 := run_veqD (P := P) d' h.toVEq a.k a.n a.s a'.k a'.n a'.s w
  have v2 := run_veqD (P := P) d' h.toVEq b.k b.n b.s b'.k b'.n b'.s w
  have x0 : f0.name ≠ "_" := by simpa using a0
  have x1 : f1.name ≠ "_" := by simpa using a1
  have x2 : f2.name ≠ "_" := by simpa using a2
  have x3 : f3.name ≠ "_" := by simpa using a3
  have hsz : (sizeOf tv).run P w = .ok 3 w := by
    have := h.rs
    cases hi : P.info? tv with
    | none => rw [hi] at this; cases this
    | some i => rw [hi, Option.map_some, Option.some.injEq] at this; simp [Go.sizeOf, typeInfo, hi, this]
  generalize hX : (#[.string t1, .int .i64 c1, .int .i64 a.k, .int .i64 a.n, .string a.s, .int .i64 b.k, .int .i64 b.n, .string b.s] : Array Value) = X
  generalize hY : (#[.string t2, .int .i64 c2, .int .i64 a'.k, .int .i64 a'.n, .string a'.s, .int .i64 b'.k, .int .i64 b'.n, .string b'.s] : Array Value) = Y
  have pA0 : (part ts X 0).run P w = .ok (.string t1) w := by subst hX; simp [part, i3]
  have pB0 : (part ts Y 0).run P w = .ok (.string t2) w := by subst hY; simp [part, i3]
  have pA1 : (part ti X 1).run P w = .ok (.int .i64 c1) w := by subst hX; simp [part, i1]
  have pB1 : (part ti Y 1).run P w = .ok (.int .i64 c2) w := by subst hY; simp [part, i1]
  have pA2 : (part tv X 2).run P w = .ok (.agg #[.int .i64 a.k, .int .i64 a.n, .string a.s]) w := by subst hX; simp [part, iv, hsz]
  have pB2 : (part tv Y 2).run P w = .ok (.agg #[.int .i64 a'.k, .int .i64 a'.n, .string a'.s]) w := by subst hY; simp [part, iv, hsz]
  have pA3 : (part tv X 5).run P w = .ok (.agg #[.int .i64 b.k, .int .i64 b.n, .string b.s]) w := by subst hX; simp [part, iv, hsz]
  have pB3 : (part tv Y 5).run P w = .ok (.agg #[.int .i64 b'.k, .int .i64 b'.n, .string b'.s]) w := by subst hY; simp [part, iv, hsz]
  clear hX hY
  unfold seq
  generalize (c1 == c2) = B at *
  generalize (t1.toList == t2.toList) = A at *
  generalize veq a.k a.n a.s a'.k a'.n a'.s = C at *
  generalize veq b.k b.n b.s b'.k b'.n b'.s = D at *
  cases A <;> cases B <;> cases C <;> cases D <;> simp [Op.eqFields, x0, x1, x2, x3, b0, b1, b2, b3, g0, g1, g2, g3, pA0, pA1, pA2, pA3, pB0, pB1, pB2, pB3, q1, q3, v1, v2]
variable {L : List Own} {Φ : List (World → Prop)} {H : Know} {dst : Option Nat} {ty : TypeId} {pos : String} {after : Array Edge} {g : Option (Nat × Bool)} {yt : TypeId} {x y : Operand}
theorem ob_req {t tv ti tj ts : TypeId} (h : REq P t tv ti tj ts) {t1 : ByteArray} {c1 : Int} {a b : V3} {t2 : ByteArray} {c2 : Int} {a' b' : V3} (hx : H x (.is (.agg #[.string t1, .int .i64 c1, .int .i64 a.k, .int .i64 a.n, .string a.s, .int .i64 b.k, .int .i64 b.n, .string b.s])))
    (hy : H y (.is (.agg #[.string t2, .int .i64 c2, .int .i64 a'.k, .int .i64 a'.n, .string a'.s, .int .i64 b'.k, .int .i64 b'.n, .string b'.s]))) :
    Ob P L Φ H ⟨dst, .binOp .eql t x y yt, ty, pos, after, g⟩ (.is (.bool (seq t1 t2 && ((c1 == c2) && (veq a.k a.n a.s a'.k a'.n a'.s && veq b.k b.n b.s b'.k b'.n b'.s))))) :=
  ob_bin hx hy fun w => by
  rw [Sem.run_bind, run_eqGuard_agg _ _ _ _ _ _ _ h.rg, Result.andThen_ok, run_eql_struct, run_req h, Result.andThen_ok]
end
end Go.Vc

namespace Go.Vc
open Go
section
variable {P : Program} {L : List Own} {Φ : List (World → Prop)} {H : Know} {dst : Option Nat} {ty : TypeId} {pos : String} {after : Array Edge} {g : Option (Nat × Bool)}
theorem ob_sliceHi {t e : TypeId} {x hi : Operand} {a : Option Addr} {len cap sz : Nat} {k : IntKind} {n : Int} (hu : P.underlying t = some (.slice e)) (hs : elSize P t = some sz) (hx : H x (.is (.slice a len cap))) (hh : H hi (.is (.int k n))) (h0 : 0 ≤ n) (h1 : n ≤ cap) :
    Ob P L Φ H ⟨dst, .slice t x none (some hi) none, ty, pos, after, g⟩ (.is (.slice a n.toNat cap)) :=
  ob_is fun E w ρ hp => by
    have e1 : ρ x = .slice a len cap := hp.x x _ (by simp [Op.operands]) hx
    have e2 : ρ hi = .int k n := hp.x hi _ (by simp [Op.operands]) hh
    have hel : P.elem t = e := by unfold Program.elem; rw [hu]
    have hu' : P.underlying t = some (.slice (P.elem t)) := by rw [hel]; exact hu
    have hsz : (sizeOf (P.elem t)).run P w = .ok sz w := by
      unfold elSize at hs
      rw [hu] at hs
      rw [hel]
      simp only at hs
      cases hi' : P.info? e with
      | none => rw [hi'] at hs; cases hs
      | some i => rw [hi', Option.map_some, Option.some.injEq] at hs; simp [Go.sizeOf, typeInfo, hi', hs]
    have ha : (if cap = 0 then a else a.map (·.add (0 * sz))) = a := by
      split
      · rfl
      · cases a with
        | none => rfl
        | some p => simp [add_0]
    simp only [execOp, e1, e2, Option.map_some, Option.map_none]
    have h := run_slice_h (P := P) w t a len cap hu' k n h0 h1
    have hsl : (Instr.sliceAt t (.slice a len cap) none (some (.int k n)) none).run P w = .ok (.slice a n.toNat cap) w := by
      rw [run_sliceAt_slice (P := P) w t _ _ _ _ hu', h, hsz, Result.andThen_ok]
      simp only [sliced, Nat.sub_zero]
      rw [ha]
    simp [hsl]
end
structure Rd where
  t : ByteArray
  col : Int
  lo : V3
  hi : V3
abbrev rdV (r : Rd) : Value := .agg #[.string r.t, .int .i64 r.col, .int .i64 r.lo.k, .int .i64 r.lo.n, .string r.lo.s, .int .i64 r.hi.k, .int .i64 r.hi.n, .string r.hi.s]
def wideCells (r : Rd) (lo hi : V3) (rv : Value) : List Value := [.string r.t, .int .i64 r.col, .int .i64 r.lo.k, .int .i64 r.lo.n, .string r.lo.s, .int .i64 r.hi.k, .int .i64 r.hi.n, .string r.hi.s, .int .i64 lo.k, .int .i64 lo.n, .string lo.s, .int .i64 hi.k, .int .i64 hi.n, .string hi.s, rv]
def WideR (r : Rd) (lo hi : V3) (vals : List V3) (v : Value) (w : World) : Prop := ∃ a len cap, v = .agg (wideCells r lo hi (.slice a len cap)).toArray ∧ len ≤ cap ∧ RowR vals a len w
section
variable {P : Program} {c : Ctx} {K : List (Nat × Ty)} {L : List Own} {Φ : List (World → Prop)} {Q : Exit → Act → World → Prop}
end
section
variable {L : List Own} {Φ : List (World → Prop)}
theorem Sub.rowF {vals : List V3} {a : Option Addr} {len cap : Nat} (h : RowR vals a len ∈ Φ) : Sub L Φ (.is (.slice a len cap)) (.rep (RowS vals)) := fun E v w hf e => by
  rw [show v = _ from e]
  exact fun w' hk => ⟨a, len, cap, rfl, hf.2 _ h w' hk⟩
end
end Go.Vc

namespace Go.Vc
open Go
structure WideTy (P : Program) (tW tR tVs tV tI tJ tS : TypeId) : Prop extends ValTy P tV tI tJ tS where
  hR : P.underlying tR = some (.struct (P.fieldsOf tR))
  fR : (P.fieldsOf tR).map (fun f => (f.type, f.offset)) = #[(tS, 0), (tI, 1), (tV, 2), (tV, 5)]
  cR : P.cellsOf tR = 8
  hW : P.underlying tW = some (.struct (P.fieldsOf tW))
  fW : (P.fieldsOf tW).map (fun f => (f.type, f.offset)) = #[(tR, 0), (tV, 8), (tV, 11), (tVs, 14)]
  cW : P.cellsOf tW = 15
  hVs : P.underlying tVs = some (.slice tV)
  cVs : P.cellsOf tVs = 1
def rdOf {H : Type} : DataW H → Rd
  | .agg [.lit (.string t), .lit (.int _ c), a, b] => ⟨⟨t.toArray⟩, c, v3Of a, v3Of b⟩
  | _ => ⟨⟨#[]⟩, 0, ⟨0, 0, ⟨#[]⟩⟩, ⟨0, 0, ⟨#[]⟩⟩⟩
def wideOf {H : Type} : DataW H → Rd × V3 × V3 × List V3
  | .agg [r, a, b, row] => (rdOf r, v3Of a, v3Of b, rowOf row)
  | _ => (⟨⟨#[]⟩, 0, ⟨0, 0, ⟨#[]⟩⟩, ⟨0, 0, ⟨#[]⟩⟩⟩, ⟨0, 0, ⟨#[]⟩⟩, ⟨0, 0, ⟨#[]⟩⟩, [])
section
variable {H : Type} {enc : TypeId × Value → H} {P : Program} {w : World} {base : Nat} {spare : Nat → Bool} {held : Bool}
end
end Go.Vc

namespace Go.Vc
open Go Go.RowKit
section
variable {P : Program} {K : List (Nat × Ty)} {L : List Own} {Φ : List (World → Prop)} {fn : Func} {n : Nat} {X : Nat → Prop} {W : World}
theorem Sub.isEq {V V' : Value} (h : V = V') : Sub L Φ (.is V) (.is V') := h ▸ Sub.rfl'
end
end Go.Vc

namespace Go.Vc
open Go
def AskR (nm : ByteArray) (cols : List C4) (ixs : List I4) (v : Value) (w : World) : Prop :=
  ∃ wa wl wc a len cap ia il ic, v = .agg [.slice wa wl wc, .string nm, .slice a len cap, .slice ia il ic].toArray ∧ RowG C4.cells 4 cols a len w ∧ RowG I4.cells 4 ixs ia il w
section
variable {P : Program} {c : Ctx} {K : List (Nat × Ty)} {L : List Own} {Φ : List (World → Prop)} {Q : Exit → Act → World → Prop}
end
structure AskTy (P : Program) (tA tX tT tC tI tCs tIs tS tN tB : TypeId) : Prop where
  hA : P.underlying tA = some (.struct (P.fieldsOf tA))
  fA : (P.fieldsOf tA).map (fun f => (f.type, f.offset)) = #[(tX, 0), (tT, 1), (tIs, 3)]
  cA : P.cellsOf tA = 4
  hX : ∃ e, P.underlying tX = some (.slice e)
  cX : P.cellsOf tX = 1
  hT : P.underlying tT = some (.struct (P.fieldsOf tT))
  fT : (P.fieldsOf tT).map (fun f => (f.type, f.offset)) = #[(tS, 0), (tCs, 1)]
  cT : P.cellsOf tT = 2
  hCs : P.underlying tCs = some (.slice tC)
  cCs : P.cellsOf tCs = 1
  hIs : P.underlying tIs = some (.slice tI)
  cIs : P.cellsOf tIs = 1
  hC : P.underlying tC = some (.struct (P.fieldsOf tC))
  fC : (P.fieldsOf tC).map (fun f => (f.type, f.offset)) = #[(tS, 0), (tN, 1), (tB, 2), (tB, 3)]
  cC : P.cellsOf tC = 4
  hI : P.underlying tI = some (.struct (P.fieldsOf tI))
  fI : (P.fieldsOf tI).map (fun f => (f.type, f.offset)) = #[(tS, 0), (tS, 1), (tN, 2), (tB, 3)]
  cI : P.cellsOf tI = 4
  hS : P.underlying tS = some .string
  cS : P.cellsOf tS = 1
  hN : P.underlying tN = some (.int .i64)
  cN : P.cellsOf tN = 1
  hB : P.underlying tB = some .bool
  cB : P.cellsOf tB = 1
def c4Of {H : Type} : DataW H → C4
  | .agg [.lit (.string n), .lit (.int _ t), .lit (.bool a), .lit (.bool b)] => ⟨⟨n.toArray⟩, t, a, b⟩
  | _ => c4D
def i4Of {H : Type} : DataW H → I4
  | .agg [.lit (.string n), .lit (.string t), .lit (.int _ c), .lit (.bool b)] => ⟨⟨n.toArray⟩, ⟨t.toArray⟩, c, b⟩
  | _ => i4D
def askOf {H : Type} : DataW H → ByteArray × DataW H × DataW H
  | .agg [_, .agg [.lit (.string n), cs], is] => (⟨n.toArray⟩, cs, is)
  | _ => (⟨#[]⟩, .nil, .nil)
section
variable {H : Type} {enc : TypeId × Value → H} {P : Program} {w : World} {base : Nat} {spare : Nat → Bool} {held : Bool}
end
end Go.Vc

namespace Go.Vc
open Go
def sb (s : ByteArray) (i : Nat) : Int := ((s.data.toList.getD i 0).toNat : Int)
def bC (b : UInt8) : List Value := [.int .u8 b.toNat]
section
variable {P : Program} {L : List Own} {Φ : List (World → Prop)} {H : Know} {dst : Option Nat} {ty : TypeId} {pos : String} {after : Array Edge} {g : Option (Nat × Bool)}
end
end Go.Vc

namespace Go.Vc
open Go
structure CallF (P : Program) (f : FuncId) (Fs : List (World → Prop)) (As : List Ty) (R : Ty) : Prop where
  enter : ∀ args w, (callFunc f args).run P w = .ok (.enter f args) w
  calls : ∀ (E : Nat → Prop) (w : World) (vs : List Value), (∀ b, E b → b < w.heap.size) → (∀ F ∈ Fs, Pers E w F) → TyAll E w As vs →
    Calls P f vs.toArray w fun e w' => ∃ v, e = .returned v ∧ Keeps noX w w' ∧ R.p E v w'
structure CallMR (P : Program) (f : FuncId) (ety : TypeId) (V0 : Value) (Φ0 : List (World → Prop)) (As : List Ty) (V1 : Value) (R : Nat → Ty) : Prop where
  enter : ∀ args w, (callFunc f args).run P w = .ok (.enter f args) w
  calls : ∀ (E : Nat → Prop) (w : World) (b : Nat) (vs : List Value), (∀ b, E b → b < w.heap.size) → E b → w.heap[b]? = some (.cells V0.cells ety (0, 0)) → (∀ F ∈ Φ0, Pers E w F) → TyAll E w As vs →
    Calls P f (.pointer (some ⟨b, 0, none⟩) :: vs).toArray w fun e w' => ∃ v, e = .returned v ∧ Keeps (fun q => q = b) w w' ∧ w'.heap[b]? = some (.cells V1.cells ety (0, 0)) ∧ (R b).p E v w'
def MethV (P : Program) (b : Nat) (fv : Value) (ety : TypeId) (V0 : Value) (Φ0 : List (World → Prop)) (As : List Ty) (V1 : Value) (R : Ty) : Prop :=
  ∃ f, fv = .func (.func f) #[.pointer (some ⟨b, 0, none⟩)] #[] ∧ CallM P f ety V0 Φ0 As V1 R
section
variable {P : Program} {L : List Own} {Φ : List (World → Prop)} {H : Know} {dst : Option Nat} {ty : TypeId} {pos : String} {after : Array Edge} {g : Option (Nat × Bool)}
theorem JX.normal_ret {c : Ctx} {K : List (Nat × Ty)} {fn : Func} {N : Ending → World → Prop} (h : JX c K L Φ .ret (bodyPost P fn N)) : JX c K L Φ .normal (bodyPost P fn N) := ⟨h.out⟩
def PostMR (X : Nat → Prop) (W : World) (b : Nat) (ety : TypeId) (V1 : Value) (R : Ty) : Ending → World → Prop := PostM X W b ety V1 R
variable {fn : Func} {R : Ty} {n : Nat}
variable {K : List (Nat × Ty)} {X : Nat → Prop} {W : World}
end
structure T3 where
  k : Int
  t : ByteArray
  n : Int
def T3.cells (t : T3) : List Value := [.int .i64 t.k, .string t.t, .int .i64 t.n]
def t3D : T3 := ⟨0, ⟨#[]⟩, 0⟩
abbrev tv (t : T3) : Value := .agg #[.int .i64 t.k, .string t.t, .int .i64 t.n]
def teq (a b : T3) : Bool := (a.k == b.k) && (seq a.t b.t && (a.n == b.n))
structure TEq (P : Program) (t ti ts tj : TypeId) : Prop where
  ht : P.underlying t = some (.struct (P.fieldsOf t))
  hp : P.stoodInHeld t = false
  hg : P.eqGuardType P.depth t = false
  hf : (P.fieldsOf t).toList.map (fun f => (f.name == "_", f.type, f.offset)) = [(false, ti, 0), (false, ts, 1), (false, tj, 2)]
  h1 : P.underlying ti = some (.int .i64)
  h2 : P.underlying ts = some .string
  h3 : P.underlying tj = some (.int .i64)
section
variable {P : Program}
variable {L : List Own} {Φ : List (World → Prop)} {H : Know} {dst : Option Nat} {ty : TypeId} {pos : String} {after : Array Edge} {g : Option (Nat × Bool)} {yt : TypeId} {x y : Operand}
end
def dr (s : ByteArray) (i : Nat) : List UInt8 := s.data.toList.drop i
def by_ (s : ByteArray) (i : Nat) : UInt8 := s.data.toList.getD i 0
end Go.Vc

namespace Go.Vc
open Go
section
variable {P : Program} {c : Ctx} {K : List (Nat × Ty)} {L L' : List Own} {Φ : List (World → Prop)} {Q : Exit → Act → World → Prop}
theorem SA.freezeM {E : Nat → Prop} {a : Act} {w : World} {b : Nat} {e : TypeId} {cs : List Value} (hs : SA c K (⟨b, e, .is (.agg cs.toArray)⟩ :: L) Φ E a w) (h0 : ∀ q, c.X0 q → ∃ o ∈ L, o.b = q) (hK : ∀ s T, look K s = some T → T.out = true) (hL : ∀ o ∈ L, o.T.out = true) :
    ∃ E', SA c K L (HeapIs b cs e :: Φ) E' a w := by
  have hb := own_blk (hs.l _ List.mem_cons_self) rfl
  have hld := hs.ld
  rw [List.map_cons, List.nodup_cons] at hld
  have hbW : c.W0.heap.size ≤ b := (hs.may _ List.mem_cons_self).resolve_left (fun h => by
    obtain ⟨o, ho, e⟩ := h0 b h
    exact hld.1 (List.mem_map.2 ⟨o, ho, e⟩))
  have hsub : ∀ q, q < w.heap.size → (E q ∧ q ≠ b) → E q := fun q _ h => h.1
  refine ⟨fun q => E q ∧ q ≠ b, hs.n, hs.d, fun q h => hs.wf q h.1, fun s T h => Ty.weak hsub (hK s T h) (hs.k s T h), fun o ho => ?_, hld.2, fun F hF => ?_, fun q hq => ⟨hs.x q hq, fun e => ?_⟩, hs.xs, hs.keeps, fun o ho => hs.may o (List.mem_cons_of_mem _ ho)⟩
  · obtain ⟨h1, v, h2, h3⟩ := hs.l o (List.mem_cons_of_mem _ ho)
    exact ⟨⟨h1, fun e => hld.1 (List.mem_map.2 ⟨o, ho, e⟩)⟩, v, h2, Ty.weak hsub (hL o ho) h3⟩
  · rcases List.mem_cons.1 hF with rfl | hF
    · intro w' hk
      exact hk.get hb fun h => h.2 rfl
    · exact Pers.weak (hs.f F hF) hsub
  · have := hs.xs q hq
    omega
theorem J.freezeM {x : Code} {b : Nat} {e : TypeId} {cs : List Value} (h0 : ∀ q, c.X0 q → ∃ o ∈ L, o.b = q) (hK : K.all (fun p => p.2.out) = true) (hL : L.all (fun o => o.T.out) = true) (h : J P c K L (HeapIs b cs e :: Φ) x Q) : J P c K (⟨b, e, .is (.agg cs.toArray)⟩ :: L) Φ x Q :=
  ⟨fun E a w hs => by
    obtain ⟨E', hs'⟩ := hs.freezeM h0 (look_out hK) (fun o ho => List.all_eq_true.1 hL o ho)
    exact h.out E' a w hs'⟩
theorem J.freezeOM {α : Type} {en : α → List Value} {sz : Nat} {xs : List α} {cap : Nat} {x : Code} {st : Option (Nat × List Value)} {e : TypeId} (hen : ∀ x, (en x).length = sz) (hG : Grows en sz xs st cap) (hTl : Tl e L st L') (h0 : ∀ q, c.X0 q → ∃ o ∈ L', o.b = q) (hK : K.all (fun p => p.2.out) = true) (hL : L'.all (fun o => o.T.out) = true)
    (h : J P c K L' (RowG en sz xs (adO st) xs.length :: Φ) x Q) : J P c K L Φ x Q := by
  refine J.subL (L' := ownO st e L') (fun o ho => (hTl.perm.mem_iff).1 ho) (fun hn => ((hTl.perm.map _).nodup_iff).2 hn) ?_
  cases st with
  | none =>
    have hG : xs = [] := hG
    subst hG
    exact J.fact _ (fun E w _ _ => fun w' _ => ⟨rfl, fun h => absurd rfl h⟩) h
  | some p =>
    obtain ⟨b, cs⟩ := p
    obtain ⟨h1, h2, h3⟩ := hG
    refine J.freezeM (b := b) (e := e) (cs := cs) h0 hK hL ?_
    refine J.fact (RowG en sz xs (adO (some (b, cs))) xs.length) (fun E w hF _ => fun w' hk => ?_) (J.subΦ (fun F hF => ?_) h)
    · have hh := hF _ List.mem_cons_self w' hk
      obtain ⟨a, len, cap', e1, hr⟩ := sl_of_heap hen rfl h3 hh cap
      injection e1 with e1 e2 e3
      subst e1 e2
      exact hr
    · rcases List.mem_cons.1 hF with rfl | hF
      · exact List.mem_cons_self
      · exact List.mem_cons_of_mem _ (List.mem_cons_of_mem _ hF)
end
end Go.Vc
