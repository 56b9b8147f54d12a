/- The program logic, part 9. No condition. -/
import Derived.Test.YtbedigkncjbggaaGreatDoorXG7
namespace Go.Vc
open Go
section
variable {P : Program} {c : Ctx} {K : List (Nat × Ty)} {L : List Own} {Φ : List (World → Prop)} {Q : Exit → Act → World → Prop}
end
end Go.Vc

namespace Go.Vc
open Go
section
variable {P : Program} {L : List Own} {Φ : List (World → Prop)} {H : Know} {dst : Option Nat} {ty : TypeId} {pos : String} {after : Array Edge} {g : Option (Nat × Bool)}
theorem Z6o {f : FuncId} {cal : Operand} {xs : List Operand} {ats : Array TypeId} {Fs : List (World → Prop)} {As : List Ty} {R : Ty} (hf : H cal (.is (.func (.func f) #[] #[]))) (hc : CallF P f Fs As R) (hΦ : ∀ F ∈ Fs, F ∈ Φ) (ha : Args L Φ H xs As) :
   Ob P L Φ H ⟨dst, .call { callee := .value cal, args := xs.toArray, argTypes := ats }, ty, pos, after, g⟩ R := fun E w ρ hp => by
 have h1 : ρ cal = .func (.func f) #[] #[] := hp.x _ _ (by simp [Op.operands, Call.operands]) hf
 have hall := ha.all (ρ := ρ) (Z2K hp) fun x T hx => hp.x x T (by simp [Op.operands, Call.operands, hx])
 have h2 : Runs P ((callFunc f (xs.map ρ).toArray).run P w) fun v w' => Keeps noX w w' ∧ R.p E v w' := by
   rw [hc.enter]
   refine Calls.mono (hc.calls E w _ hp.wf (fun F hF => hp.f F (hΦ F hF)) hall) ?_
   rintro e w' ⟨v, rfl, h⟩
   exact h
 simp only [execOp, resolve, h1, Deferred.ofValue, invoke, Sem.run_bind, Sem.run_pure, Result.andThen_ok, List.map_toArray]
 simpa using h2
end
section
variable {P : Program} {c : Ctx} {K : List (Nat × Ty)} {L : List Own} {Φ : List (World → Prop)} {Q : Exit → Act → World → Prop}
end
end Go.Vc
