/- What the last step of the row on reads needs of the program's types. No condition. -/
import Derived.Test.YtjlojkchgfeenaaXT
import Derived.Test.YtjlojkchgfeenaaXG3
set_option maxRecDepth 100000
namespace Go.Proofs.Ytjlojkchgfeenaa
open Go Go.Vc Go.ChangeShapes Go.WideShapes Go.ChangeAt Go.RowKit
abbrev ty_Wide : Nat := 62
theorem wideTy : WideTy Try.prog ty_Wide ty_api_Read ty_sl_api_Value ty_api_Value ty_int ty_int64 ty_string := { valTy with hR := by kernel_rfl, fR := by kernel_rfl, cR := by kernel_rfl, hW := by kernel_rfl, fW := by kernel_rfl, cW := by kernel_rfl, hVs := by kernel_rfl, cVs := by kernel_rfl }
theorem rd_Wide : Try.prog.readableRec ty_Wide = true ∧ ty_Wide < Try.prog.types.size := ⟨by kernel_rfl, of_decide_eq_true (by kernel_rfl)⟩
end Go.Proofs.Ytjlojkchgfeenaa
