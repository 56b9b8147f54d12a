/- What the last step of the row on rows outside of a read needs of the program's types. No condition. -/
import Derived.Test.YtjlojkchgfeenaaXTB
import Derived.Test.YtjlojkchgfeenaaXG3
set_option maxRecDepth 100000
namespace Go.Proofs.Ytjlojkchgfeenaa
open Go Go.Vc Go.ChangeShapes Go.WideShapes Go.ChangeAt Go.RowKit
abbrev ty_Ask : Nat := 71
theorem askTy : AskTy Try.prog ty_Ask ty_sl_api_Expr ty_api_Table ty_api_Column ty_api_Index ty_sl_api_Column ty_sl_api_Index ty_string ty_int ty_bool where
  hA := by kernel_rfl
  fA := by kernel_rfl
  cA := by kernel_rfl
  hX := ⟨ty_api_Expr, by kernel_rfl⟩
  cX := by kernel_rfl
  hT := by kernel_rfl
  fT := by kernel_rfl
  cT := by kernel_rfl
  hCs := by kernel_rfl
  cCs := by kernel_rfl
  hIs := by kernel_rfl
  cIs := by kernel_rfl
  hC := by kernel_rfl
  fC := by kernel_rfl
  cC := by kernel_rfl
  hI := by kernel_rfl
  fI := by kernel_rfl
  cI := by kernel_rfl
  hS := by kernel_rfl
  cS := by kernel_rfl
  hN := by kernel_rfl
  cN := by kernel_rfl
  hB := by kernel_rfl
  cB := by kernel_rfl
theorem rd_Ask : Try.prog.readableRec ty_Ask = true ∧ ty_Ask < Try.prog.types.size := ⟨by kernel_rfl, of_decide_eq_true (by kernel_rfl)⟩
theorem bulk_ask {H : Type} (d : DataW H) : (slOf c4Of (askOf d).2.1).length ≤ Rows.uptoBulk d ∧ (slOf i4Of (askOf d).2.2).length ≤ Rows.uptoBulk d := by
  unfold askOf
  split
  · rename_i n cs is
    have h1 := bulk_sl c4Of cs
    have h2 := bulk_sl i4Of is
    simp only [Rows.uptoBulk, Rows.uptoBulkAll]
    omega
  · exact ⟨Nat.zero_le _, Nat.zero_le _⟩
end Go.Proofs.Ytjlojkchgfeenaa
