/- The document on groups: appended upon nothing; rows of rows of which there are none, or nothing in them. No condition. -/
import Derived.Test.YtgpikmonklainaaXGX
import Derived.Test.YtgpikmonklainaaXOJ
namespace Go.Vc
open Go
section
variable {α : Type} {en : α → List Value} {sz : Nat} {P : Program} {c : Ctx} {K : List (Nat × Ty)} {L : List Own} {Φ : List (World → Prop)} {Q : Exit → Act → World → Prop} {H : Know} {t tx e ty : TypeId} {s x : Operand} {bytes : Nat} {pos : String} {after : Array Edge}
theorem ob_lenRows {G : RvG} {rows : List (List V3)} {dst : Option Nat} {g : Option (Nat × Bool)} (hu : P.underlying t = some (.slice e)) (hx : H x (.rep (RowsR G rows))) : Ob P L Φ H ⟨dst, .call { callee := .builtin .len, args := #[x], argTypes := #[t] }, ty, pos, after, g⟩ (.is (.int .i64 (rows.length : Nat))) := fun E w ρ hp => by
  have h1 : Pers E w (RowsR G rows (ρ x)) := hp.x x _ (by simp [Op.operands, Call.operands]) hx
  obtain ⟨ps, a, len, cap, hm, hv, _, hR, _⟩ := h1.now
  have hl : len = rows.length := by rw [← hm, List.length_map, hR.1]
  refine ob_len (P := P) (L := L) (Φ := Φ) (H := fun y T => y = x ∧ T = .is (.slice a len cap)) (dst := dst) (ty := ty) (pos := pos) (after := after) (g := g) hu ⟨rfl, rfl⟩ E w ρ ⟨hp.wf, hp.l, hp.f, fun y T hy hT => ?_⟩ |> fun h => by rw [← hl]; exact h
  obtain ⟨rfl, rfl⟩ := hT
  exact hv
abbrev nG : RvG := fun _ a len cap _ => len = 0 → a = none ∧ cap = 0
end
end Go.Vc
namespace Go.Proofs.Ytgpikmonklainaa
open Go Go.Vc Go.Vl Go.Od
end Go.Proofs.Ytgpikmonklainaa
namespace Go.Vc
open Go
section
variable {c : Ctx} {K : List (Nat × Ty)} {L L' : List Own} {Φ Φ' : List (World → Prop)} {Q : Exit → Act → World → Prop} {x : Exit}
end
end Go.Vc
namespace Go.Proofs.Ytgpikmonklainaa
open Go Go.Vc Go.Vl Go.Od
def restK (S : List (List V3)) (i : Nat) : List (List V3) := if i = 0 then dd S else ddP (S.getD (i - 1) []) (S.drop i)
end Go.Proofs.Ytgpikmonklainaa
namespace Go.Proofs.Ytgpikmonklainaa
open Go Go.Vc Go.Vl Go.Od
end Go.Proofs.Ytgpikmonklainaa
