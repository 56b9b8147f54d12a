/- The reference of the set, in memory. No condition. -/
import Derived.Test.YtggmifnkgcladaaXN5
namespace Go.Si
open Go Go.Vc Go.Proofs.Ytggmifnkgcladaa
structure RX where
  s : Int
  begun : Nat
  done : Nat
  rs : Option (Nat × List Value)
  rc : Nat
  reads : List Rd
  ws : Option (Nat × List Value)
  wc : Nat
  writes : List WrA
def RX.cells (x : RX) : List Value := [.int .i64 x.s, .int .i64 (x.begun : Nat), .int .i64 (x.done : Nat), sliceO x.rs x.reads.length x.rc, sliceO x.ws x.writes.length x.wc]
def rx0 (b : Nat) : RX := ⟨1, b, 0, none, 0, [], none, 0, []⟩
def rxL (x : RX) : List Own := ownO x.rs ty_api_Read (ownO x.ws ty_api_Write [])
def rsV (sp : Nat) (st : Option (Nat × List Value)) (cap n : Nat) : Value := .agg #[sliceO st n cap, .int .i64 (sp : Nat)]
def RL (b sp : Nat) (st : Option (Nat × List Value)) (cap : Nat) (xs : List RX) : List Own := ⟨b, ty_cadastreref20_Set, .is (rsV sp st cap xs.length)⟩ :: ownO st ty_cadastreref20_Tx (xs.flatMap rxL)
structure RWf (st : Option (Nat × List Value)) (cap : Nat) (xs : List RX) : Prop where
  g : Grows RX.cells 5 xs st cap
  rs : ∀ x ∈ xs, Grows Rd.cells 8 x.reads x.rs x.rc
  ws : ∀ x ∈ xs, Grows WrA.cells 3 x.writes x.ws x.wc
section
variable {b sp cap : Nat} {st : Option (Nat × List Value)} {xs : List RX}
instance : HasOwn (RL b sp st cap xs) b ty_cadastreref20_Set (.is (rsV sp st cap xs.length)) := ⟨List.mem_cons_self⟩
end
section
variable {P : Program} {L : List Own} {Φ : List (World → Prop)} {H : Know} {dst : Option Nat} {ty : TypeId} {pos : String} {after : Array Edge} {g : Option (Nat × Bool)}
def bO (st : Option (Nat × List Value)) : Nat := match st with | some p => p.1 | none => 0
def cO (st : Option (Nat × List Value)) : List Value := match st with | some p => p.2 | none => []
end
def rAt (xs : List RX) (i : Int) : RX := xs.getD i.toNat (rx0 0)
end Go.Si
set_option maxRecDepth 20000
namespace Go.Proofs.Ytggmifnkgcladaa
open Go Go.Vc
open Go.Si
def actR (xs : List RX) (k : Int) : Int := if (decide (k < 1) || decide (k > (xs.length : Nat)) || (rAt xs (k - 1)).s != 1) then 41 else 0
def aheadR (a b : RX) : Bool := (a.s == 2) && decide (a.done < b.begun)
end Go.Proofs.Ytggmifnkgcladaa
set_option maxRecDepth 20000
namespace Go.Proofs.Ytggmifnkgcladaa
open Go Go.Vc
open Go.Si
def hitE (x y : RX) : Bool := x.reads.any fun r => y.writes.any fun w => mtA r w
def offE (xs : List RX) (i k : Int) : Bool := (i == k) || ((rAt xs i).s == 3) || ((rAt xs k).s == 3) || aheadR (rAt xs i) (rAt xs k) || aheadR (rAt xs k) (rAt xs i)
def edR (xs : List RX) (i k : Int) : Bool := if offE xs i k then false else hitE (rAt xs i) (rAt xs k)
end Go.Proofs.Ytggmifnkgcladaa
set_option maxRecDepth 20000
namespace Go.Proofs.Ytggmifnkgcladaa
open Go Go.Vc
open Go.Si
def inP (xs : List RX) (i : Int) (n : Nat) : Bool := (List.range n).any fun a => edR xs (a : Nat) i
def outP (xs : List RX) (i : Int) (n : Nat) : Bool := (List.range n).any fun a => edR xs i (a : Nat)
def pvR (xs : List RX) (i : Int) : Bool := inP xs i xs.length && outP xs i xs.length
def pivR (xs : List RX) (k : Int) : Bool := decide (k ≥ 1) && decide (k ≤ (xs.length : Nat)) && pvR xs (k - 1)
end Go.Proofs.Ytggmifnkgcladaa
namespace Go.Si
open Go Go.Vc Go.Proofs.Ytggmifnkgcladaa
section
variable {P : Program} {L : List Own} {Φ : List (World → Prop)} {H : Know} {ty : TypeId} {pos : String} {after : Array Edge} {g : Option (Nat × Bool)}
end
def stS (st : Option (Nat × List Value)) (i : Nat) (v : RX) : Option (Nat × List Value) := some (bO st, splice (cO st) (i * 5) v.cells)
section
variable {b sp cap : Nat} {st : Option (Nat × List Value)} {xs : List RX}
end
def mk3 (x : RX) : RX := { x with s := 3 }
def abL (xs : List RX) (k : Int) : List RX := xs.set (k - 1).toNat (mk3 (rAt xs (k - 1)))
def abS (st : Option (Nat × List Value)) (xs : List RX) (k : Int) : Option (Nat × List Value) := stS st (k - 1).toNat (mk3 (rAt xs (k - 1)))
def jR (xs : List RX) (n : Nat) : Bool := (List.range n).any fun a => (rAt xs (a : Nat)).s == 2 && pvR xs (a : Nat)
end Go.Si
set_option maxRecDepth 20000
namespace Go.Proofs.Ytggmifnkgcladaa
open Go Go.Vc
open Go.Si
def jgR (st : Option (Nat × List Value)) (xs : List RX) (k : Int) : Option (Nat × List Value) × List RX × Int := if jR xs xs.length then (abS st xs k, abL xs k, 40) else (st, xs, 0)
def abR (st : Option (Nat × List Value)) (xs : List RX) (k : Int) : Option (Nat × List Value) × List RX × Int := if actR xs k == 0 then (abS st xs k, abL xs k, 0) else (st, xs, actR xs k)
end Go.Proofs.Ytggmifnkgcladaa
