/- Capitals and small letters: terms. No condition. -/
import Derived.Test.YtjjgckmdfblmgaaDoorXG
set_option maxRecDepth 20000
namespace Go.Proofs.YtjjgckmdfblmgaaDoor
open Go Go.Vc
def capB (b : UInt8) : Bool := decide (65 ≤ (b.toNat : Int)) && decide ((b.toNat : Int) ≤ 90)
def lowC (q : Bool) (b : UInt8) : UInt8 := if !q && capB b then b + 32 else b
def flipQ (q : Bool) (b : UInt8) : Bool := if b == 39 then !q else q
def caseL : Bool → List UInt8 → List UInt8
  | _, [] => []
  | q, b :: l => lowC (flipQ q b) b :: caseL (flipQ q b) l
theorem caseL_len : ∀ (q : Bool) (l : List UInt8), (caseL q l).length = l.length
  | _, [] => rfl
  | q, b :: l => by rw [caseL, List.length_cons, caseL_len, List.length_cons]
theorem allG_len : ∀ (f : Nat) (l : List UInt8), (allG f l).1.length ≤ f
  | 0, _ => Nat.le_refl _
  | f + 1, l => by
    unfold allG
    cases hd : l.drop (runN isSp l) with
    | nil => exact Nat.zero_le _
    | cons b r =>
      dsimp only
      split
      · exact Nat.zero_le _
      · split
        · exact Nat.zero_le _
        · have := allG_len f ((b :: r).drop (stepL (b :: r)).2)
          simp only [List.length_cons]
          omega
theorem lexL_len (l : List UInt8) : (lexL l).1.length ≤ 2049 := by
  unfold lexL
  split
  · exact Nat.zero_le _
  · rename_i h
    have := allG_len (l.length + 1) l
    simp at h
    omega
theorem add32 {b : UInt8} (h : capB b = true) : IntKind.u8.wrap ((b.toNat : Int) + 32) = ((b + 32 : UInt8).toNat : Int) := by
  unfold capB at h
  simp only [Bool.and_eq_true, decide_eq_true_eq] at h
  have h1 : (b + 32 : UInt8).toNat = b.toNat + 32 := by
    rw [UInt8.toNat_add]
    have : (32 : UInt8).toNat = 32 := rfl
    omega
  rw [h1]
  unfold IntKind.wrap
  simp [IntKind.bits, IntKind.signed]
  omega
theorem ob_adde {P : Program} {L : List Own} {Φ : List (World → Prop)} {H : Know} {dst : Option Nat} {ty : TypeId} {pos : String} {after : Array Edge} {g : Option (Nat × Bool)} {xt yt : TypeId} {x y : Operand} {k : IntKind} {a b cc : Int} (hx : H x (.is (.int k a))) (hy : H y (.is (.int k b))) (hc : k.wrap (a + b) = cc) :
    Ob P L Φ H ⟨dst, .binOp .add xt x y yt, ty, pos, after, g⟩ (.is (.int k cc)) := hc ▸ ob_add hx hy
theorem cap_of {q : Bool} {b : UInt8} (h : ((!q && decide (65 ≤ (b.toNat : Int))) && decide ((b.toNat : Int) ≤ 90)) = true) : capB b = true := by
  unfold capB
  rw [Bool.and_assoc, Bool.and_eq_true] at h
  exact h.2
theorem flip_q {b : UInt8} {q : Bool} (h : ((b.toNat : Int) == 39) = true) : flipQ q b = !q := by unfold flipQ; rw [if_pos (by rw [← q39]; exact h)]
theorem flip_n {b : UInt8} {q : Bool} (h : ((b.toNat : Int) == 39) = false) : flipQ q b = q := by unfold flipQ; rw [if_neg (by rw [← q39, h]; simp)]
theorem case_next {s : ByteArray} {i : Nat} {q q' : Bool} {acc : List UInt8} {y : UInt8} {X : List UInt8} (h : i < s.size) (hq : flipQ q (by_ s i) = q') (hy : lowC q' (by_ s i) = y) (hx : acc ++ caseL q (dr s i) = X) : (acc ++ [y]) ++ caseL q' (dr s (i + 1)) = X := by
  rw [← hx, dr_cons h, caseL, hq, hy]
  simp
end Go.Proofs.YtjjgckmdfblmgaaDoor
