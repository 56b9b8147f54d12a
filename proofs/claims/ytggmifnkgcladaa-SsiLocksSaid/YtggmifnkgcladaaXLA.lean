/- Ssi: a script as an argument. No condition. -/
import Derived.Test.YtggmifnkgcladaaXN8
namespace Go.Proofs.Ytggmifnkgcladaa
open Go Go.Vc Go.Si Go.Vl
structure OpA where
  k : Int
  t : Int
  r : Rd
  w : WrA
def OpA.cells (o : OpA) : List Value := [.int .i64 o.k, .int .i64 o.t, .string o.r.t, .int .i64 o.r.col, .int .i64 o.r.lo.k, .int .i64 o.r.lo.n, .string o.r.lo.s, .int .i64 o.r.hi.k, .int .i64 o.r.hi.n, .string o.r.hi.s, .string o.w.t, .slice o.w.o.a o.w.o.len o.w.o.cap, .slice o.w.n.a o.w.n.len o.w.n.cap]
def op0 : OpA := ⟨0, 0, rd0, wr0⟩
def opAt (ops : List OpA) (i : Nat) : OpA := ops.getD i op0
abbrev wsO (ops : List OpA) : List WrA := ops.map OpA.w
def ScR (ops : List OpA) (v : Value) (w : World) : Prop := ∃ a len cap, v = .slice a len cap ∧ RowG OpA.cells 13 ops a len w ∧ WrF (wsO ops) w
structure ScB (ops : List OpA) : Prop where
  len : ops.length ≤ 1048576
  o : ∀ x ∈ ops, x.w.o.row.length ≤ 1048576
  n : ∀ x ∈ ops, x.w.n.row.length ≤ 1048576
section
variable {P : Program} {c : Ctx} {K : List (Nat × Ty)} {L : List Own} {Φ : List (World → Prop)} {Q : Exit → Act → World → Prop}
end
theorem k_BeginE {b ba n m : Nat} {q : SS} {A A' : List AT} {U : List WrA} (h : SRel q A n U) (hR : Rm A) (hsp : n < 4611686018427387904) (hA : beginA A n = A') (hm : A.length + 1 = m) : CallL Try.prog f_p_ssi_Set_Begin (q.L b ba) [] [.is (.pointer (some ⟨b, 0, none⟩))] (fun z : SS => SRel z A' (n + 1) U) (fun z => z.L b ba) (fun _ => .is (.int .i64 (m : Nat))) := by
  subst hm hA; exact k_Begin h hR hsp
structure LSt where
  i : Nat
  q : SS
  A : List AT
  n : Nat
  U : List WrA
end Go.Proofs.Ytggmifnkgcladaa
