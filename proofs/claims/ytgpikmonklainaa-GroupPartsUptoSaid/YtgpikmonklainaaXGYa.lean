/- The document on groups: appended upon nothing; rows of rows of which there are none, or nothing in them. No condition. -/
import Derived.Test.YtgpikmonklainaaXGX
import Derived.Test.YtgpikmonklainaaXOJ
namespace Go.Vc
open Go
section
variable {α : Type} {en : α → List Value} {sz : Nat} {P : Program} {c : Ctx} {K : List (Nat × Ty)} {L : List Own} {Φ : List (World → Prop)} {Q : Exit → Act → World → Prop} {H : Know} {t tx e ty : TypeId} {s x : Operand} {bytes : Nat} {pos : String} {after : Array Edge}
abbrev nG : RvG := fun _ a len cap _ => len = 0 → a = none ∧ cap = 0
end
end Go.Vc
namespace Go.Proofs.Ytgpikmonklainaa
open Go Go.Vc Go.Vl Go.Od
theorem flat_rv0 (n : Nat) : (List.replicate n rv0).flatMap RV.c = List.replicate n (.slice none 0 0) := by
  rw [flatC, List.map_replicate]
  rfl
theorem Sub.rowsNone {L : List Own} {Φ : List (World → Prop)} {n b : Nat} {ts : TypeId} (hH : HeapIs b (List.replicate n (.slice none 0 0)) ts ∈ Φ) : Sub L Φ (.is (.slice (some ⟨b, 0, none⟩) n n)) (.rep (RowsR noG (List.replicate n []))) := fun E v w hf e => by
  rw [show v = _ from e]
  intro w' hk
  have h1 := hf.2 _ hH w' hk
  rw [← flat_rv0] at h1
  have h3 : RowG RV.c 1 (List.replicate n rv0) (some ⟨b, 0, none⟩) n w' := by
    obtain ⟨a, len, cap, e1, hr⟩ := sl_of_heap (enc := RV.c) (sz := 1) RV.c_len (n := n) (xs := List.replicate n rv0) List.length_replicate (by rw [Nat.mul_one, List.take_of_length_le (by rw [flat_rv0, List.length_replicate]; exact Nat.le_refl _)]) h1 n
    injection e1 with e1 e2 e3
    subst e1 e2 e3
    exact hr
  exact ⟨List.replicate n rv0, _, n, n, by rw [List.map_replicate]; rfl, rfl, Nat.le_refl _, h3, fun p hp => by rw [(List.mem_replicate.1 hp).2]; exact ⟨Nat.le_refl _, rfl, fun h => absurd rfl h⟩, trivial⟩
end Go.Proofs.Ytgpikmonklainaa
namespace Go.Vc
open Go
section
variable {c : Ctx} {K : List (Nat × Ty)} {L L' : List Own} {Φ Φ' : List (World → Prop)} {Q : Exit → Act → World → Prop} {x : Exit}
theorem JX.freeze {b : Nat} {e : TypeId} {cs : List Value} (h0 : ∀ q, ¬ c.X0 q) (hK : K.all (fun p => p.2.out) = true) (hL : L.all (fun o => o.T.out) = true) (h : JX c K L (HeapIs b cs e :: Φ) x Q) : JX c K (⟨b, e, .is (.agg cs.toArray)⟩ :: L) Φ x Q :=
  ⟨fun E a w hs => by
    obtain ⟨E', hs'⟩ := hs.freeze h0 (look_out hK) (fun o ho => List.all_eq_true.1 hL o ho)
    exact h.out E' a w hs'⟩
end
end Go.Vc
namespace Go.Proofs.Ytgpikmonklainaa
open Go Go.Vc Go.Vl Go.Od
def restK (S : List (List V3)) (i : Nat) : List (List V3) := if i = 0 then dd S else ddP (S.getD (i - 1) []) (S.drop i)
end Go.Proofs.Ytgpikmonklainaa
namespace Go.Proofs.Ytgpikmonklainaa
open Go Go.Vc Go.Vl Go.Od
end Go.Proofs.Ytgpikmonklainaa
