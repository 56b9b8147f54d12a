/- Ssi: one call on both, told in plain words; and on none. No condition. -/
import Derived.Test.YtggmifnkgcladaaXON
namespace Go.Proofs.Ytggmifnkgcladaa
open Go Go.Vc Go.Si Go.Vl
def opA (A : List AT) (n : Nat) (o : OpA) : List AT × Nat × Int :=
  if o.k = 1 then (beginA A n, n + 1, 0) else if o.k = 2 then ((readA A o.t o.r).1, n, (readA A o.t o.r).2) else if o.k = 3 then ((writeA A o.t o.w.abs).1, n, (writeA A o.t o.w.abs).2) else if o.k = 4 then commitA A n o.t else if o.k = 5 then ((abortA A o.t).1, n, (abortA A o.t).2) else (A, n, 0)
theorem opA_4 {A : List AT} {n : Nat} {o : OpA} (h : o.k = 4) : opA A n o = commitA A n o.t := by unfold opA; rw [if_neg (by omega), if_neg (by omega), if_neg (by omega), if_pos h]
theorem opA_sp {A : List AT} {n : Nat} {o : OpA} : (opA A n o).2.1 ≤ n + 1 := by
  unfold opA commitA
  repeat' split
  all_goals first | exact Nat.le_refl _ | exact Nat.le_succ _
section
variable {q : SS} {p : RS} {A A' : List AT} {n n' b ba : Nat} {U Us : List WrA} {o : OpA} {e : Int}
end
def nilE (o : OpA) : Int := if o.k = 2 ∨ o.k = 3 ∨ o.k = 4 ∨ o.k = 5 then 2 else 0
structure LT where
  i : Nat
  q : SS
  p : RS
  A : List AT
  n : Nat
  U : List WrA
end Go.Proofs.Ytggmifnkgcladaa
