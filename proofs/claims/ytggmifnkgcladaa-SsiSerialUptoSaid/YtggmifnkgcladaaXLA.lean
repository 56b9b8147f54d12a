/- Ssi: a script as an argument. No condition. -/
import Derived.Test.YtggmifnkgcladaaXN8
namespace Go.Proofs.Ytggmifnkgcladaa
open Go Go.Vc Go.Si Go.Vl
structure OpA where
  k : Int
  t : Int
  r : Rd
  w : WrA
def OpA.cells (o : OpA) : List Value := [.int .i64 o.k, .int .i64 o.t, .string o.r.t, .int .i64 o.r.col, .int .i64 o.r.lo.k, .int .i64 o.r.lo.n, .string o.r.lo.s, .int .i64 o.r.hi.k, .int .i64 o.r.hi.n, .string o.r.hi.s, .string o.w.t, .slice o.w.o.a o.w.o.len o.w.o.cap, .slice o.w.n.a o.w.n.len o.w.n.cap]
def op0 : OpA := ⟨0, 0, rd0, wr0⟩
def opAt (ops : List OpA) (i : Nat) : OpA := ops.getD i op0
theorem opAt_get {ops : List OpA} {i : Nat} (h : i < ops.length) : ops[i]? = some (opAt ops i) := by
  unfold opAt; rw [List.getD_eq_getElem?_getD, List.getElem?_eq_getElem h]; rfl
theorem opAt_mem {ops : List OpA} {i : Nat} (h : i < ops.length) : opAt ops i ∈ ops := List.mem_of_getElem? (opAt_get h)
abbrev wsO (ops : List OpA) : List WrA := ops.map OpA.w
theorem opAt_w {ops : List OpA} {i : Nat} (h : i < ops.length) : (opAt ops i).w ∈ wsO ops := List.mem_map_of_mem (opAt_mem h)
def ScR (ops : List OpA) (v : Value) (w : World) : Prop := ∃ a len cap, v = .slice a len cap ∧ RowG OpA.cells 13 ops a len w ∧ WrF (wsO ops) w
structure ScB (ops : List OpA) : Prop where
  len : ops.length ≤ 1048575
  o : ∀ x ∈ ops, x.w.o.row.length ≤ 1048576
  n : ∀ x ∈ ops, x.w.n.row.length ≤ 1048576
section
variable {P : Program} {c : Ctx} {K : List (Nat × Ty)} {L : List Own} {Φ : List (World → Prop)} {Q : Exit → Act → World → Prop}
theorem _root_.Go.Vc.J.openSc {x : Code} {s : Nat} {ops : List OpA} (h : Go.Vc.look K s = some (.rep (ScR ops)))
    (hj : ∀ a cap b o, (ops.length ≠ 0 → a = some ⟨b, o, none⟩) → J P c ((s, .is (.slice a ops.length cap)) :: K) L (WrF (wsO ops) :: RowG OpA.cells 13 ops a ops.length :: Φ) x Q) : J P c K L Φ x Q := by
  refine J.open_ h ?_
  rintro v ⟨w, a, len, cap, rfl, hr, hk⟩
  have hl : ops.length = len := hr.1
  subst hl
  obtain ⟨b, o, hbo⟩ : ∃ b o, ops.length ≠ 0 → a = some ⟨b, o, none⟩ := by
    by_cases hn : ops.length = 0
    · exact ⟨0, 0, fun h => absurd hn h⟩
    · obtain ⟨b, o, e, _⟩ := hr.2 hn
      exact ⟨b, o, fun _ => e⟩
  refine J.fact (RowG OpA.cells 13 ops a ops.length) (fun E w1 hG _ w2 hk2 => ?_) ?_
  · obtain ⟨a', len', cap', e, h1, _⟩ := hG _ List.mem_cons_self w2 hk2
    injection e with e1 e2 e3
    subst e1 e2
    exact h1
  refine J.fact (WrF (wsO ops)) (fun E w1 hG _ w2 hk2 => ?_) ?_
  · obtain ⟨a', len', cap', e, _, h1⟩ := hG _ (List.mem_cons_of_mem _ List.mem_cons_self) w2 hk2
    exact h1
  refine ⟨fun E a2 w2 hs => (hj a cap b o hbo).out E a2 w2 ?_⟩
  exact ⟨hs.n, hs.d, hs.wf, hs.k, hs.l, hs.ld, fun G hG => by
    rcases List.mem_cons.1 hG with rfl | hG
    · exact hs.f _ List.mem_cons_self
    rcases List.mem_cons.1 hG with rfl | hG
    · exact hs.f _ (List.mem_cons_of_mem _ List.mem_cons_self)
    · exact hs.f _ (List.mem_cons_of_mem _ (List.mem_cons_of_mem _ (List.mem_cons_of_mem _ hG))), hs.x, hs.xs, hs.keeps, hs.may⟩
end
theorem wr_more {Φ : List (World → Prop)} {E : Nat → Prop} {w : World} {e : Int} {x : WrA} {U : List WrA} (hG : ∀ G ∈ Φ, Pers E w G) (h1 : WrR' e x (.int .i64 e) ∈ Φ) (h2 : WrF U ∈ Φ) : Pers E w (WrF (x :: U)) := fun w1 hk v hv => by
  rcases List.mem_cons.1 hv with rfl | hv
  · exact (hG _ h1 w1 hk).2 _ (List.mem_singleton_self _)
  · exact hG _ h2 w1 hk v hv
structure LSt where
  i : Nat
  q : SS
  A : List AT
  n : Nat
  U : List WrA
end Go.Proofs.Ytggmifnkgcladaa
