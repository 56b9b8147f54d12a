/- The program logic, part 9. No condition. -/
import Derived.Test.YtbedigkncjbggaaGreatDoorXG7
namespace Go.Vc
open Go
section
variable {P : Program} {c : Ctx} {K : List (Nat × Ty)} {L : List Own} {Φ : List (World → Prop)} {Q : Exit → Act → World → Prop}
end
end Go.Vc

namespace Go.Vc
open Go
section
variable {P : Program} {L : List Own} {Φ : List (World → Prop)} {H : Know} {dst : Option Nat} {ty : TypeId} {pos : String} {after : Array Edge} {g : Option (Nat × Bool)}
theorem Z6o {f : FuncId} {cal : Operand} {xs : List Operand} {ats : Array TypeId} {Fs : List (World → Prop)} {As : List Ty} {R : Ty} (hf : H cal (.is (.func (.func f) #[] #[]))) (hc : CallF P f Fs As R) (hΦ : ∀ F ∈ Fs, F ∈ Φ) (ha : Args L Φ H xs As) :
   Ob P L Φ H ⟨dst, .call { callee := .value cal, args := xs.toArray, argTypes := ats }, ty, pos, after, g⟩ R := fun E w ρ hp => by
 have h1 : ρ cal = .func (.func f) #[] #[] := hp.x _ _ (by simp [Op.operands, Call.operands]) hf
 have hall := ha.all (ρ := ρ) (Z2G hp) fun x T hx => hp.x x T (by simp [Op.operands, Call.operands, hx])
 have h2 : Runs P ((callFunc f (xs.map ρ).toArray).run P w) fun v w' => Keeps noX w w' ∧ R.p E v w' := by
   rw [hc.enter]
   refine Calls.mono (hc.calls E w _ hp.wf (fun F hF => hp.f F (hΦ F hF)) hall) ?_
   rintro e w' ⟨v, rfl, h⟩
   exact h
 simp only [execOp, resolve, h1, Deferred.ofValue, invoke, Sem.run_bind, Sem.run_pure, Result.andThen_ok, List.map_toArray]
 simpa using h2
end
section
variable {P : Program} {c : Ctx} {K : List (Nat × Ty)} {L : List Own} {Φ : List (World → Prop)} {Q : Exit → Act → World → Prop}
end
end Go.Vc

namespace Go.Vc
open Go
def ceq (s1 : ByteArray) (n1 : Int) (a1 b1 : Bool) (s2 : ByteArray) (n2 : Int) (a2 b2 : Bool) : Bool := seq s1 s2 && ((n1 == n2) && ((a1 == a2) && (b1 == b2)))
theorem Z67 {s t : ByteArray} : seq s t = true ↔ s = t := by
 unfold seq
 rw [beq_iff_eq]
 refine ⟨fun h => ?_, fun h => by rw [h]⟩
 rw [ByteArray.toList_eq, ByteArray.toList_eq] at h
 cases s; cases t
 simpa using h
section
variable {P : Program}
theorem Zip {t ts ti tb : TypeId} (h : CEq P t ts ti tb) (s1 : ByteArray) (n1 : Int) (a1 b1 : Bool) (s2 : ByteArray) (n2 : Int) (a2 b2 : Bool) (w : World) :
   (Op.equalIn 10000 t (.agg #[.string s1, .int .i64 n1, .bool a1, .bool b1]) (.agg #[.string s2, .int .i64 n2, .bool a2, .bool b2])).run P w = .ok (ceq s1 n1 a1 b1 s2 n2 a2 b2) w := by
 have e := run_equalIn_struct (P := P) w 9999 t #[.string s1, .int .i64 n1, .bool a1, .bool b1] #[.string s2, .int .i64 n2, .bool a2, .bool b2] h.ht h.hp
 refine e.trans ?_
 have hf := h.hf
 generalize hd : (9999 : Nat) = d
 obtain ⟨d', rfl⟩ : ∃ d', d = d' + 1 := ⟨9998, by omega⟩
 generalize (P.fieldsOf t).toList = fs at hf ⊢
 have h3' : ∃ f0 f1 f2 f3, fs = [f0, f1, f2, f3] := by
   obtain ⟨f0, l0, rfl, _, hf⟩ := List.map_eq_cons_iff.1 hf
   obtain ⟨f1, l1, rfl, _, hf⟩ := List.map_eq_cons_iff.1 hf
   obtain ⟨f2, l2, rfl, _, hf⟩ := List.map_eq_cons_iff.1 hf
   obtain ⟨f3, l3, rfl, _, hf⟩ := List.map_eq_cons_iff.1 hf
   exact ⟨f0, f1, f2, f3, by rw [List.map_eq_nil_iff.1 hf]⟩
 obtain ⟨f0, f1, f2, f3, rfl⟩ := h3'
 simp only [List.map_cons, List.map_nil, List.cons.injEq, Prod.mk.injEq, and_true] at hf
 obtain ⟨⟨a0, b0, c0⟩, ⟨a1', b1', c1⟩, ⟨a2', b2', c2⟩, ⟨a3, b3, c3⟩⟩ := hf
 have i1 : (isAgg ts).run P w = .ok false w := by simp [isAgg, run_underlying h.h1]
 have i2 : (isAgg ti).run P w = .ok false w := by simp [isAgg, run_underlying h.h2]
 have i3 : (isAgg tb).run P w = .ok false w := by simp [isAgg, run_underlying h.h3]
 have q1 := run_equalIn_string (P := P) w d' ts s1 s2 h.h1
 have q2 := run_equalIn_int (P := P) w d' ti .i64 .i64 n1 n2 h.h2
 have q3 := run_equalIn_bool (P := P) w d' tb a1 a2 h.h3
 have q4 := run_equalIn_bool (P := P) w d' tb b1 b2 h.h3
 have x0 : f0.name ≠ "_" := by simpa using a0
 have x1 : f1.name ≠ "_" := by simpa using a1'
 have x2 : f2.name ≠ "_" := by simpa using a2'
 have x3 : f3.name ≠ "_" := by simpa using a3
 unfold ceq seq
 generalize (s1.toList == s2.toList) = A at *
 generalize (n1 == n2) = B at *
 generalize (a1 == a2) = C at *
 generalize (b1 == b2) = D at *
 simp only [Op.eqFields, ne_eq, x0, x1, x2, x3, not_false_eq_true, if_true, b0, b1', b2', b3, c0, c1, c2, c3, part, Sem.run_bind, i1, i2, i3, Result.andThen_ok, Bool.false_eq_true, if_false, List.getElem?_toArray, List.getElem?_cons_zero, List.getElem?_cons_succ, Sem.run_pure, q1]
 cases A <;> cases B <;> cases C <;> cases D <;> simp [q2, q3, q4, i2, i3]
variable {L : List Own} {Φ : List (World → Prop)} {H : Know} {dst : Option Nat} {ty : TypeId} {pos : String} {after : Array Edge} {g : Option (Nat × Bool)} {yt : TypeId} {x y : Operand}
theorem Zjs {t ts ti tb : TypeId} (h : CEq P t ts ti tb) {s1 : ByteArray} {n1 : Int} {a1 b1 : Bool} {s2 : ByteArray} {n2 : Int} {a2 b2 : Bool} (hx : H x (.is (.agg #[.string s1, .int .i64 n1, .bool a1, .bool b1]))) (hy : H y (.is (.agg #[.string s2, .int .i64 n2, .bool a2, .bool b2]))) :
   Ob P L Φ H ⟨dst, .binOp .neq t x y yt, ty, pos, after, g⟩ (.is (.bool (!ceq s1 n1 a1 b1 s2 n2 a2 b2))) :=
 Z2j hx hy fun w => by
 rw [Sem.run_bind, run_eqGuard_agg _ _ _ _ _ _ _ h.hg, Result.andThen_ok, run_neq_struct, Zip h, Result.andThen_ok]
end
noncomputable def eqD {α : Type} (a b : α) : Bool := @decide (a = b) (Classical.propDecidable _)
theorem Z8w {α : Type} {a b : α} : eqD a b = true ↔ a = b := @decide_eq_true_iff _ (Classical.propDecidable _)
theorem Z7E {α : Type} {a b : α} (h : a = b) : eqD a b = true := Z8w.2 h
theorem Z4i {α : Type} {a b : α} (h : a ≠ b) : eqD a b = false := by
 cases e : eqD a b with
 | false => rfl
 | true => exact absurd (Z8w.1 e) h
theorem ZkW {α β : Type} {a b : α} {c d : β} (h : a = b ↔ c = d) : eqD a b = eqD c d := by
 by_cases e : a = b
 · rw [Z7E e, Z7E (h.1 e)]
 · rw [Z4i e, Z4i (fun x => e (h.2 x))]
theorem Z5b {α : Type} {l m : List α} {i : Nat} (h : l.take i = m.take i) (e : l[i]? = m[i]?) : l.take (i + 1) = m.take (i + 1) := by rw [List.take_add_one, List.take_add_one, h, e]
theorem Z59 {α : Type} {l m : List α} {i : Nat} (h : l.take i = m.take i) (h1 : l.length ≤ i) (h2 : m.length ≤ i) : l = m := by rwa [List.take_of_length_le h1, List.take_of_length_le h2] at h
end Go.Vc
