/- The type of the statement on NULL. No condition. -/
import Derived.Test.YtibbnimcnepggaaXT
import Derived.Test.YtibbnimcnepggaaXVc19
set_option maxRecDepth 100000
namespace Go.Proofs.Ytibbnimcnepggaa
open Go Go.Vc Go.ChangeShapes Go.WideShapes Go.ChangeAt Go.RowKit
theorem nullTy : NullTy Try.prog 55 ty_api_Expr ty_sl_api_Expr ty_sl_api_Value ty_api_Value ty_int ty_int64 ty_string ty_uint8 ty_bool := { exTy with hN := by kernel_rfl, fN := by kernel_rfl, hVs := by kernel_rfl, hU := by kernel_rfl, hB := by kernel_rfl, cN := by kernel_rfl, cVs := by kernel_rfl, cU := by kernel_rfl, cB := by kernel_rfl }
theorem rd_Null : Try.prog.readableRec 55 = true ∧ 55 < Try.prog.types.size := ⟨by kernel_rfl, of_decide_eq_true (by kernel_rfl)⟩
theorem exprNulls_walk {op : Int} {x : Ex} {vals : List V3} {left : Bool} (ho : 0 ≤ op ∧ op < 256) (hx : exRng x) (hv : ∀ v ∈ vals, v.rng)
    (h : ∀ k vk vn vs tb nm sl kids, x = .mk k vk vn vs tb nm sl kids → CallTy Try.prog f_law12_ExprNulls [.rep (NullR op (.mk k vk vn vs tb nm sl kids) vals left)] (.is (.bool true))) : CallTy Try.prog f_law12_ExprNulls [.rep (NullR op x vals left)] (.is (.bool true)) := by
  cases x
  exact h _ _ _ _ _ _ _ _ rfl
end Go.Proofs.Ytibbnimcnepggaa
