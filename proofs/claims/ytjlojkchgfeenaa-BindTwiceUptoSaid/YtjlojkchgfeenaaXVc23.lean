/- Functions as values, by what they do. No condition. -/
import Derived.Test.YtjlojkchgfeenaaXVc22
namespace Go.Vc
open Go
def Fn1 {α : Type} (P : Program) (fv : Value) (G : World → Prop) (A R : α → Ty) : Prop :=
  ∃ f fs cs, fv = .func (.func f) fs.toArray cs.toArray ∧ (∀ args w, (callFunc f args).run P w = .ok (.enter f args) w) ∧
    ∀ (x : α) (E : Nat → Prop) (w : World) (v : Value), (∀ b, E b → b < w.heap.size) → Pers E w G → (A x).p E v w → Calls P f (fs ++ [v] ++ cs).toArray w fun e w' => ∃ r, e = .returned r ∧ Keeps noX w w' ∧ (R x).p E r w'
theorem Fn1.of {α : Type} {P : Program} {f : FuncId} {fs cs : List Value} {G : World → Prop} {A R : α → Ty} {TF TC : List Ty} (hc : ∀ x, CallTy P f (TF ++ [A x] ++ TC) (R x)) (hF : ∀ E w, Pers E w G → TyAll E w TF fs) (hC : ∀ E w, Pers E w G → TyAll E w TC cs) (x0 : α) :
    Fn1 P (.func (.func f) fs.toArray cs.toArray) G A R :=
  ⟨f, fs, cs, rfl, (hc x0).enter, fun x E w v hw hG hv => (hc x).calls E w _ hw (((hF E w hG).append (show TyAll E w [A x] [v] from ⟨hv, trivial⟩)).append (hC E w hG))⟩
section
variable {P : Program} {L : List Own} {Φ : List (World → Prop)} {H : Know} {dst : Option Nat} {ty : TypeId} {pos : String} {after : Array Edge} {g : Option (Nat × Bool)}
theorem ob_callG {α : Type} {cal x : Operand} {ats : Array TypeId} {fv : Value} {G : World → Prop} {A R : α → Ty} (y : α) (hf : H cal (.is fv)) (hc : Fn1 P fv G A R) (hG : G ∈ Φ) (ha : H x (A y)) :
    Ob P L Φ H ⟨dst, .call { callee := .value cal, args := #[x], argTypes := ats }, ty, pos, after, g⟩ (R y) := fun E w ρ hp => by
  obtain ⟨f, fs, cs, rfl, he, hk⟩ := hc
  have h1 : ρ cal = .func (.func f) fs.toArray cs.toArray := hp.x cal _ (by simp [Op.operands, Call.operands]) hf
  have h2 : (A y).p E (ρ x) w := hp.x x _ (by simp [Op.operands, Call.operands]) ha
  have h3 := hk y E w (ρ x) hp.wf (hp.f _ hG) h2
  simp only [execOp, resolve, h1, Deferred.ofValue, invoke, Sem.run_bind, Sem.run_pure, Result.andThen_ok]
  rw [show fs.toArray ++ (#[x].map ρ) ++ cs.toArray = (fs ++ [ρ x] ++ cs).toArray by simp, he]
  refine Calls.mono h3 ?_
  rintro e w' ⟨r, rfl, hk', hR⟩
  exact ⟨hk', hR⟩
end
def FunR (fv : Value) (G : World → Prop) (v : Value) (w : World) : Prop := v = fv ∧ G w
section
variable {P : Program} {c : Ctx} {K : List (Nat × Ty)} {L : List Own} {Φ : List (World → Prop)} {Q : Exit → Act → World → Prop}
theorem J.openFun {x : Code} {s : Nat} {fv : Value} {G : World → Prop} (h : look K s = some (.rep (FunR fv G))) (hj : J P c ((s, .is fv) :: K) L (G :: Φ) x Q) : J P c K L Φ x Q := by
  refine J.open_ h ?_
  rintro v ⟨w, rfl, hb⟩
  refine J.fact G (fun E w hG _ => ?_) (J.subΦ (Φ' := G :: Φ) (fun F hF => ?_) hj)
  · exact fun w' hk => (hG _ List.mem_cons_self w' hk).2
  · rcases List.mem_cons.1 hF with rfl | hF
    · exact List.mem_cons_self
    · exact List.mem_cons_of_mem _ (List.mem_cons_of_mem _ hF)
theorem Sub.fun {fv : Value} {G : World → Prop} (hG : G ∈ Φ) : Sub L Φ (.is fv) (.rep (FunR fv G)) := fun E v w hf h => by
  rw [show v = _ from h]
  exact fun w' hk => ⟨rfl, hf.2 _ hG w' hk⟩
theorem Sub.funT {fv : Value} {G : World → Prop} (hG : ∀ w, G w) : Sub L Φ (.is fv) (.rep (FunR fv G)) := fun E v w hf h => by
  rw [show v = _ from h]
  exact fun w' _ => ⟨rfl, hG w'⟩
end
end Go.Vc
