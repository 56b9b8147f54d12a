/- A slice that grows, from nil on. No condition. -/
import Derived.Test.YtjlojkchgfeenaaXVc23
namespace Go.Vc
open Go
def ownO (st : Option (Nat × List Value)) (e : TypeId) (L : List Own) : List Own :=
  match st with
  | none => L
  | some (b, cs) => ⟨b, e, .is (.agg cs.toArray)⟩ :: L
def sliceO (st : Option (Nat × List Value)) (len cap : Nat) : Value :=
  match st with
  | none => .slice none 0 0
  | some (b, _) => .slice (some ⟨b, 0, none⟩) len cap
def Grows {α : Type} (en : α → List Value) (sz : Nat) (xs : List α) (st : Option (Nat × List Value)) (cap : Nat) : Prop :=
  match st with
  | none => xs = []
  | some (_, cs) => cs.length = cap * sz ∧ xs.length ≤ cap ∧ cs.take (xs.length * sz) = xs.flatMap en
inductive Tl (e : TypeId) : List Own → Option (Nat × List Value) → List Own → Prop
  | here {st : Option (Nat × List Value)} {L : List Own} : Tl e (ownO st e L) st L
  | there {st : Option (Nat × List Value)} {x : Own} {L L' : List Own} (h : Tl e L st L') : Tl e (x :: L) st (x :: L')
  | past {st st' : Option (Nat × List Value)} {e' : TypeId} {L L' : List Own} (h : Tl e L st L') : Tl e (ownO st' e' L) st (ownO st' e' L')
theorem Tl.perm {e : TypeId} {L L' : List Own} {st : Option (Nat × List Value)} (h : Tl e L st L') : (ownO st e L').Perm L := by
  induction h with
  | here => exact .refl _
  | @there st x L L' _ ih =>
    cases st with
    | none => exact List.Perm.cons _ ih
    | some p => exact (List.Perm.swap _ _ _).trans (List.Perm.cons _ ih)
  | @past st st' e' L L' _ ih =>
    cases st' with
    | none => exact ih
    | some q =>
      cases st with
      | none => exact List.Perm.cons _ ih
      | some p => exact (List.Perm.swap _ _ _).trans (List.Perm.cons _ ih)
theorem JO.subL {P : Program} {c : Ctx} {K : List (Nat × Ty)} {L L' : List Own} {Φ : List (World → Prop)} {Q : Exit → Act → World → Prop} {ops : Array Oper} {l : List Oper} (hp : L'.Perm L) (h : JO P c K L' Φ ops l Q) : JO P c K L Φ ops l Q :=
  ⟨fun E a w hs => h.out E a w (hs.sub (fun _ _ => id) (fun o ho => (hp.mem_iff).1 ho) (((hp.map _).nodup_iff).2 hs.ld) (fun _ => id))⟩
end Go.Vc
namespace Go.Vc
open Go
section
variable {α : Type} {en : α → List Value} {sz : Nat} {P : Program} {c : Ctx} {K : List (Nat × Ty)} {L L' : List Own} {Φ : List (World → Prop)} {Q : Exit → Act → World → Prop}
theorem JO.apO {ops : Array Oper} {rest : List Oper} {d : Nat} {ty t tx e : TypeId} {pos : String} {after : Array Edge} {s x : Operand} {bytes cap : Nat} {xs ys : List α} {st : Option (Nat × List Value)} {TX : Ty}
    (hT : ApTy P t e sz bytes) (hen : ∀ x, (en x).length = sz) (hTl : Tl e L st L') (hG : Grows en sz xs st cap) (h0 : opTy K s = some (.is (sliceO st xs.length cap))) (hx : opTy K x = some TX) (hS : ∀ L, SrcOf P L Φ sz tx TX ys.length (ys.flatMap en)) (hy : ys ≠ []) (hfit : (xs.length + ys.length) * bytes ≤ 140737488355328) (h63 : xs.length + ys.length ≤ 9223372036854775807) (hd : Nat.blt d c.n = true)
    (hn : ∀ (st' : Option (Nat × List Value)) (cap' : Nat), Grows en sz (xs ++ ys) st' cap' → JO P c ((d, .is (sliceO st' (xs ++ ys).length cap')) :: K) (ownO st' e L') Φ ops rest Q) :
    JO P c K L Φ ops (⟨some d, .call { callee := .builtin .append, args := #[s, x], argTypes := #[t, tx] }, ty, pos, after, none⟩ :: rest) Q := by
  refine JO.subL hTl.perm ?_
  have hyl : ys.length ≠ 0 := fun h => hy (List.length_eq_zero_iff.1 h)
  cases st with
  | none =>
    have hxs : xs = [] := hG
    subst hxs
    simp only [List.length_nil, Nat.zero_add, List.nil_append] at hfit h63 hn
    refine JO.ap0 hT h0 (fun E v w h => ⟨none, h⟩) hx (hS _) hfit h63 hd (fun h => absurd h hyl) fun _ b' cap' cs' h1 h2 h3 => ?_
    exact hn (some (b', cs')) cap' ⟨h1, h2, h3⟩
  | some p =>
    obtain ⟨b, cs⟩ := p
    obtain ⟨h1, h2, h3⟩ := hG
    refine JO.ap hT h0 hx (hS _) h1 h2 hfit h63 hd fun b' cap' cs' k1 k2 k3 => ?_
    have := hn (some (b', cs')) cap' ⟨k1, by rw [List.length_append]; exact k2, by rw [List.length_append, k3, h3, List.flatMap_append]⟩
    simpa [sliceO, ownO] using this
end
end Go.Vc
namespace Go.Vc
open Go
section
variable {P : Program} {c : Ctx} {K : List (Nat × Ty)} {L : List Own} {Φ Φ' : List (World → Prop)} {Q : Exit → Act → World → Prop}
theorem J.loopL {α : Type} {body : Code} (Kf : α → List (Nat × Ty)) (Lf : α → List Own) (inv : α → Prop) (μ : α → Nat) (x0 : α) (ss : List Nat) (h0 : Sel K ss (Kf x0)) (hL : Lf x0 = L) (hi : inv x0)
    (h : ∀ x, inv x → J P c (Kf x) (Lf x) Φ body (Exit.then (fun a w => ∃ x', inv x' ∧ μ x' < μ x ∧ ∃ E, SA c (Kf x') (Lf x') Φ E a w) Q)) : J P c K L Φ (.loop body) Q :=
  J.sel ss h0 (J.loop Kf Lf (fun _ => Φ) inv μ x0 ⟨rfl, hL, rfl⟩ hi h)
theorem JX.roundL {α : Type} {Kf : α → List (Nat × Ty)} {Lf : α → List Own} {inv : α → Prop} {μ : α → Nat} {x : α} (x' : α) (hi : inv x') (hμ : μ x' < μ x) (ss : List Nat) (hK : Sel K ss (Kf x')) (hL : (Lf x').Sublist L) (hΦ : Φ'.Sublist Φ) :
    JX c K L Φ .normal (Exit.then (fun a w => ∃ x', inv x' ∧ μ x' < μ x ∧ ∃ E, SA c (Kf x') (Lf x') Φ' E a w) Q) :=
  ⟨fun E a w h => (JX.round (L := Lf x') (Φ := Φ') (Φf := fun _ => Φ') x' hi hμ ss hK rfl (fun _ h => h)).out E a w (h.sub (fun _ _ h => h) (fun _ ho => hL.subset ho) ((hL.map _).nodup h.ld) (fun _ h => hΦ.subset h))⟩
end
end Go.Vc
namespace Go.Vc
open Go
theorem src_new {P : Program} {L : List Own} {Φ : List (World → Prop)} {tx e' e : TypeId} {sz n cap : Nat} {cs : List Value} (hk : P.underlying tx = some (.slice e')) (hl : cs.length = n * sz) (h1 : cs.all (·.oneCell') = true) : SrcOf P L Φ sz tx (.newSl (.cells cs.toArray e (0, 0)) n cap) n cs := fun E w v _ _ h => by
  obtain ⟨b, rfl, _, hb⟩ := h
  refine Src.ofSlice w hk ⟨b, 0, none⟩ n cap cs hl (fun j u hj => ?_) (List.all_eq_true.1 h1)
  rw [add_at, cell_of_blk hb, Nat.zero_add]
  simpa using hj
end Go.Vc
