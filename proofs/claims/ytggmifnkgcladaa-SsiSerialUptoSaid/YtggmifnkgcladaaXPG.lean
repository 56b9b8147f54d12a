/- Ssi: two at a time; one behind the other. No condition. -/
import Derived.Test.YtggmifnkgcladaaXN8
namespace Go.Si
open Go Go.Vc Go.Vl Go.Proofs.Ytggmifnkgcladaa
structure OnI (A : List AT) (ap : Bool) (i : Nat) : Prop where
  act : ActA A 2
  ap : ap = true → (aAt A 0).writes = [] ∧ (aAt A 1).reads = []
  kp : keptA A ≤ i
  bd : Bd A 2 i
def isElse (t : ByteArray) : Bool := seq t ⟨#[101, 108, 115, 101, 119, 104, 101, 114, 101]⟩
structure AlI (A : List AT) (n : Nat) (bs : Bool) (t : Nat) : Prop where
  len : A.length = t + 1
  cur : (aAt A t).s = 1
  old : ∀ i, i < t → (bs = true → i ≠ 0) → (aAt A i).s = 2 ∧ ∀ k, i < k → (aAt A i).done < (aAt A k).begun ∨ (aAt A k).s = 3
  bes : bs = true → 0 < t ∧ (aAt A 0).s = 1 ∧ (aAt A 0).writes = [] ∧ ∀ r ∈ (aAt A 0).reads, isElse r.t = true
  wr : ∀ i, ∀ w ∈ (aAt A i).writes, isElse w.t = false
end Go.Si
