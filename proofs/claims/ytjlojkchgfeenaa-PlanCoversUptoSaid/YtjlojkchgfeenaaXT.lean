/- What the rows' last steps need of the program's types. No condition. -/
import Derived.Test.YtjlojkchgfeenaaXFacts
import Derived.Test.YtjlojkchgfeenaaXG1
import Derived.Test.YtjlojkchgfeenaaRows
import Derived.ProofKit
set_option maxRecDepth 100000
namespace Go.Proofs.Ytjlojkchgfeenaa
open Go Go.Vc Go.ChangeShapes Go.WideShapes Go.ChangeAt Go.RowKit
theorem Try.own : ownKnob Try.prog.godebug = none := by kernel_rfl
theorem Try.laidOut : laidOutB Try.prog = true := by kernel_rfl
theorem valTy : ValTy Try.prog ty_api_Value ty_int ty_int64 ty_string := ⟨by kernel_rfl, by kernel_rfl, by kernel_rfl, by kernel_rfl, by kernel_rfl, by kernel_rfl, by kernel_rfl, by kernel_rfl, by kernel_rfl⟩
theorem exTy : ExTy Try.prog ty_api_Expr ty_sl_api_Expr ty_api_Value ty_int ty_int64 ty_string := { valTy with hE := by kernel_rfl, fE := by kernel_rfl, hEs := by kernel_rfl, cE := by kernel_rfl, cEs := by kernel_rfl }
theorem rd_Expr : Try.prog.readableRec ty_api_Expr = true ∧ ty_api_Expr < Try.prog.types.size := ⟨by kernel_rfl, of_decide_eq_true (by kernel_rfl)⟩
theorem rd_Values : Try.prog.readableRec ty_sl_api_Value = true ∧ ty_sl_api_Value < Try.prog.types.size := ⟨by kernel_rfl, of_decide_eq_true (by kernel_rfl)⟩
theorem rd_int64 : Try.prog.readableRec ty_int64 = true ∧ ty_int64 < Try.prog.types.size := ⟨by kernel_rfl, of_decide_eq_true (by kernel_rfl)⟩
theorem rd_uint8 : Try.prog.readableRec ty_uint8 = true ∧ ty_uint8 < Try.prog.types.size := ⟨by kernel_rfl, of_decide_eq_true (by kernel_rfl)⟩
theorem hVs : Try.prog.underlying ty_sl_api_Value = some (.slice ty_api_Value) := by kernel_rfl
end Go.Proofs.Ytjlojkchgfeenaa
