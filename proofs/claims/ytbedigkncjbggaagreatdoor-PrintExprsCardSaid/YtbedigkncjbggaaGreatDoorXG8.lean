/- The program logic, part 9. No condition. -/
import Derived.Test.YtbedigkncjbggaaGreatDoorXG7
namespace Go.Vc
open Go
section
variable {P : Program} {c : Ctx} {K : List (Nat × Ty)} {L : List Own} {Φ : List (World → Prop)} {Q : Exit → Act → World → Prop}
theorem J.shapeEG {α : Type} {E : Enc α} {G : GoS} {x : Code} {xs : List α} {v : Value} (h : SlE E G xs v ∈ Φ) (hj : ∀ (ps : List (Cel E)) (a : Option Addr) (len cap b o : Nat), ps.map Cel.x = xs → v = .slice a len cap → ps.length = len → len ≤ cap → (len ≠ 0 → a = some ⟨b, o, none⟩) → J P c K L (G a len cap :: RowG Cel.cs E.sz ps a len :: CelF E ps :: Φ) x Q) : J P c K L Φ x Q := by
 refine ⟨fun X a' w hs => ?_⟩
 obtain ⟨ps, a, len, cap, h1, h2, h3, h4, ⟨b, o, h5⟩, h6, h7, h8⟩ := Z9U (hs.f _ h)
 have key : SA c K L ([G a len cap, RowG Cel.cs E.sz ps a len, CelF E ps] ++ Φ) X a' w := ⟨hs.n, hs.d, hs.wf, hs.k, hs.l, hs.ld, fun F hF => by
   rcases List.mem_append.1 hF with hF | hF
   · simp only [List.mem_cons, List.mem_nil_iff, or_false] at hF
     rcases hF with rfl|rfl|rfl
     · exact h8
     · exact h6
     · exact h7
   · exact hs.f F hF, hs.x, hs.xs, hs.keeps, hs.may⟩
 exact (hj ps a len cap b o h1 h2 h4 h3 h5).out X a' w key
end
end Go.Vc

namespace Go.Vc
open Go
section
variable {P : Program} {L : List Own} {Φ : List (World → Prop)} {H : Know} {dst : Option Nat} {ty : TypeId} {pos : String} {after : Array Edge} {g : Option (Nat × Bool)}
theorem Z60 {f : FuncId} {cal : Operand} {xs : List Operand} {ats : Array TypeId} {Fs : List (World → Prop)} {As : List Ty} {R : Ty} (hf : H cal (.is (.func (.func f) #[] #[]))) (hc : CallF P f Fs As R) (hΦ : ∀ F ∈ Fs, F ∈ Φ) (ha : Args L Φ H xs As) :
   Ob P L Φ H ⟨dst, .call { callee := .value cal, args := xs.toArray, argTypes := ats }, ty, pos, after, g⟩ R := fun E w ρ hp => by
 have h1 : ρ cal = .func (.func f) #[] #[] := hp.x _ _ (by simp [Op.operands, Call.operands]) hf
 have hall := ha.all (ρ := ρ) (Z2C hp) fun x T hx => hp.x x T (by simp [Op.operands, Call.operands, hx])
 have h2 : Runs P ((callFunc f (xs.map ρ).toArray).run P w) fun v w' => Keeps noX w w' ∧ R.p E v w' := by
   rw [hc.enter]
   refine Calls.mono (hc.calls E w _ hp.wf (fun F hF => hp.f F (hΦ F hF)) hall) ?_
   rintro e w' ⟨v, rfl, h⟩
   exact h
 simp only [execOp, resolve, h1, Deferred.ofValue, invoke, Sem.run_bind, Sem.run_pure, Result.andThen_ok, List.map_toArray]
 simpa using h2
end
section
variable {P : Program} {c : Ctx} {K : List (Nat × Ty)} {L : List Own} {Φ : List (World → Prop)} {Q : Exit → Act → World → Prop}
end
end Go.Vc
