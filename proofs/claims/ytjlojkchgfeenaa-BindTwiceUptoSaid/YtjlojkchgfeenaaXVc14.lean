/- Equality of values of three parts. No condition. -/
import Derived.Test.YtjlojkchgfeenaaXVc13
namespace Go.Vc
open Go
def veq (k1 n1 : Int) (s1 : ByteArray) (k2 n2 : Int) (s2 : ByteArray) : Bool := (k1 == k2) && ((n1 == n2) && seq s1 s2)
structure VEq (P : Program) (t ti tj ts : TypeId) : Prop where
  ht : P.underlying t = some (.struct (P.fieldsOf t))
  hp : P.stoodInHeld t = false
  hg : P.eqGuardType P.depth t = false
  hf : (P.fieldsOf t).toList.map (fun f => (f.name == "_", f.type, f.offset)) = [(false, ti, 0), (false, tj, 1), (false, ts, 2)]
  h1 : P.underlying ti = some (.int .i64)
  h2 : P.underlying tj = some (.int .i64)
  h3 : P.underlying ts = some .string
section
variable {P : Program}
theorem run_veq {t ti tj ts : TypeId} (h : VEq P t ti tj ts) (k1 n1 : Int) (s1 : ByteArray) (k2 n2 : Int) (s2 : ByteArray) (w : World) :
    (Op.equalIn 10000 t (.agg #[.int .i64 k1, .int .i64 n1, .string s1]) (.agg #[.int .i64 k2, .int .i64 n2, .string s2])).run P w = .ok (veq k1 n1 s1 k2 n2 s2) w := by
  have e := run_equalIn_struct (P := P) w 9999 t #[.int .i64 k1, .int .i64 n1, .string s1] #[.int .i64 k2, .int .i64 n2, .string s2] h.ht h.hp
  refine e.trans ?_
  have hf := h.hf
  generalize hd : (9999 : Nat) = d
  obtain ⟨d', rfl⟩ : ∃ d', d = d' + 1 := ⟨9998, by omega⟩
  generalize (P.fieldsOf t).toList = fs at hf ⊢
  have h3' : ∃ f0 f1 f2, fs = [f0, f1, f2] := by
    obtain ⟨f0, l0, rfl, _, hf⟩ := List.map_eq_cons_iff.1 hf
    obtain ⟨f1, l1, rfl, _, hf⟩ := List.map_eq_cons_iff.1 hf
    obtain ⟨f2, l2, rfl, _, hf⟩ := List.map_eq_cons_iff.1 hf
    exact ⟨f0, f1, f2, by rw [List.map_eq_nil_iff.1 hf]⟩
  obtain ⟨f0, f1, f2, rfl⟩ := h3'
  simp only [List.map_cons, List.map_nil, List.cons.injEq, Prod.mk.injEq, and_true] at hf
  obtain ⟨⟨a0, b0, c0⟩, ⟨a1, b1, c1⟩, ⟨a2, b2, c2⟩⟩ := hf
  have i1 : (isAgg ti).run P w = .ok false w := by simp [isAgg, run_underlying h.h1]
  have i2 : (isAgg tj).run P w = .ok false w := by simp [isAgg, run_underlying h.h2]
  have i3 : (isAgg ts).run P w = .ok false w := by simp [isAgg, run_underlying h.h3]
  have q1 := run_equalIn_int (P := P) w d' ti .i64 .i64 k1 k2 h.h1
  have q2 := run_equalIn_int (P := P) w d' tj .i64 .i64 n1 n2 h.h2
  have q3 := run_equalIn_string (P := P) w d' ts s1 s2 h.h3
  have x0 : f0.name ≠ "_" := by simpa using a0
  have x1 : f1.name ≠ "_" := by simpa using a1
  have x2 : f2.name ≠ "_" := by simpa using a2
  unfold veq seq
  generalize (k1 == k2) = A at *
  generalize (n1 == n2) = B at *
  generalize (s1.toList == s2.toList) = C at *
  simp only [Op.eqFields, ne_eq, x0, x1, x2, not_false_eq_true, if_true, b0, b1, b2, c0, c1, c2, part, Sem.run_bind, i1, i2, i3, Result.andThen_ok, Bool.false_eq_true, if_false, List.getElem?_toArray, List.getElem?_cons_zero, List.getElem?_cons_succ, Sem.run_pure, q1]
  cases A <;> cases B <;> cases C <;> simp [q2, q3, i2, i3]
variable {L : List Own} {Φ : List (World → Prop)} {H : Know} {dst : Option Nat} {ty : TypeId} {pos : String} {after : Array Edge} {g : Option (Nat × Bool)} {yt : TypeId} {x y : Operand}
theorem ob_veq {t ti tj ts : TypeId} (h : VEq P t ti tj ts) {k1 n1 : Int} {s1 : ByteArray} {k2 n2 : Int} {s2 : ByteArray} (hx : H x (.is (.agg #[.int .i64 k1, .int .i64 n1, .string s1]))) (hy : H y (.is (.agg #[.int .i64 k2, .int .i64 n2, .string s2]))) :
  Ob P L Φ H ⟨dst, .binOp .eql t x y yt, ty, pos, after, g⟩ (.is (.bool (veq k1 n1 s1 k2 n2 s2))) :=
  ob_bin hx hy fun w => by
  rw [Sem.run_bind, run_eqGuard_agg _ _ _ _ _ _ _ h.hg, Result.andThen_ok, run_eql_struct, run_veq h, Result.andThen_ok]
theorem ob_vneq {t ti tj ts : TypeId} (h : VEq P t ti tj ts) {k1 n1 : Int} {s1 : ByteArray} {k2 n2 : Int} {s2 : ByteArray} (hx : H x (.is (.agg #[.int .i64 k1, .int .i64 n1, .string s1]))) (hy : H y (.is (.agg #[.int .i64 k2, .int .i64 n2, .string s2]))) :
  Ob P L Φ H ⟨dst, .binOp .neq t x y yt, ty, pos, after, g⟩ (.is (.bool (!veq k1 n1 s1 k2 n2 s2))) :=
  ob_bin hx hy fun w => by
  rw [Sem.run_bind, run_eqGuard_agg _ _ _ _ _ _ _ h.hg, Result.andThen_ok, run_neq_struct, run_veq h, Result.andThen_ok]
end
end Go.Vc
