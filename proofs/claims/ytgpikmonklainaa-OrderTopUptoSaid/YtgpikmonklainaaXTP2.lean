/- Order: bytes, as an argument. No condition. -/
import Derived.Test.YtgpikmonklainaaXT
set_option maxRecDepth 100000
namespace Go.Proofs.Ytgpikmonklainaa
open Go Go.Vc Go.Od Go.ChangeShapes Go.WideShapes Go.ChangeAt Go.RowKit
theorem hPicks : Try.prog.underlying ty_sl_uint8 = some (.slice ty_uint8) := by kernel_rfl
theorem rd_Picks : Try.prog.readableRec ty_sl_uint8 = true ∧ ty_sl_uint8 < Try.prog.types.size := ⟨by kernel_rfl, of_decide_eq_true (by kernel_rfl)⟩
section
variable {H : Type} {enc : TypeId × Value → H}
def u8Of : DataW H → UInt8
  | .lit (.int _ n) => UInt8.ofNat n.toNat
  | _ => 0
theorem read_u8 {w : World} {base : Nat} {spare : Nat → Bool} {held : Bool} {n : Nat} {cs : List Value} {x : DataW H × List MemPlace} (h : DataW.trod enc Try.prog w base spare held n ty_uint8 cs = some x) : cs = bC (u8Of x.1) ∧ True := by
  obtain ⟨k, rfl, rfl, hw⟩ := DataW.trod_int un_uint8 h
  have := wf_u8 hw
  refine ⟨?_, trivial⟩
  show _ = [Value.int .u8 ((UInt8.ofNat k.toNat).toNat : Int)]
  rw [show (UInt8.ofNat k.toNat).toNat = k.toNat from UInt8.toNat_ofNat_of_lt' (by show k.toNat < 256; omega)]
  rw [show ((k.toNat : Nat) : Int) = k by omega]
end
end Go.Proofs.Ytgpikmonklainaa
