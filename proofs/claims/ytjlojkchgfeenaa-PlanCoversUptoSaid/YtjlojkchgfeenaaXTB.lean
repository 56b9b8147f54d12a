/- What the last steps of the rows on columns need of the program's types. No condition. -/
import Derived.Test.YtjlojkchgfeenaaXU
set_option maxRecDepth 100000
namespace Go.Proofs.Ytjlojkchgfeenaa
open Go Go.Vc Go.ChangeShapes Go.WideShapes Go.ChangeAt Go.RowKit
theorem colTy : ColTy Try.prog ty_cadastreref14_Col ty_string ty_int := ⟨by kernel_rfl, by kernel_rfl, by kernel_rfl, by kernel_rfl, by kernel_rfl, by kernel_rfl, by kernel_rfl⟩
theorem rd_Cols : Try.prog.readableRec ty_sl_cadastreref14_Col = true ∧ ty_sl_cadastreref14_Col < Try.prog.types.size := ⟨by kernel_rfl, of_decide_eq_true (by kernel_rfl)⟩
theorem rd_Col : Try.prog.readableRec ty_cadastreref14_Col = true ∧ ty_cadastreref14_Col < Try.prog.types.size := ⟨by kernel_rfl, of_decide_eq_true (by kernel_rfl)⟩
theorem hVcols : Try.prog.underlying ty_sl_cadastreref14_Col = some (.slice ty_cadastreref14_Col) := by kernel_rfl
theorem bulk_sl {H α : Type} (of : DataW H → α) (d : DataW H) : (slOf of d).length ≤ Rows.uptoBulk d := by
  cases d with
  | slice es sp =>
    have := bulk_len es
    simp only [slOf, List.length_map, Rows.uptoBulk]
    omega
  | _ => exact Nat.zero_le _
end Go.Proofs.Ytjlojkchgfeenaa
