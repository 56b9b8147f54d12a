/- The table of powers of ten, as the row lays it. No condition. -/
import Derived.Test.YtjjgckmdfblmgaaDoorXSK
import Derived.Test.YtjjgckmdfblmgaaDoorXG1
import Derived.Stop.LaidErr
import Derived.Lib.LaidTab
import Derived.Lib.SmallJoins
import Derived.Test.YtjjgckmdfblmgaaDoorRows
set_option maxRecDepth 100000
namespace Go.Proofs.YtjjgckmdfblmgaaDoor
open Go Go.Vc Go.ChangeShapes Go.WideShapes Go.ChangeAt Go.RowKit
theorem tf_laid {W : World} (h : laidMetH Tryd.prog Rows.lexJoinsRow.laid W) : TF W := by
  have h1 : laidMet Tryd.prog Rows.lexJoinsRow.laid W := h
  exact Lib.tabIs_of_head (t := 92) (e := 60) (n := 20) (by kernel_rfl : Tryd.prog.globalNamed "internal/strconv.uint64pow10" = some 0) (by kernel_rfl) (by kernel_rfl) (by kernel_rfl) (by kernel_rfl) (by kernel_rfl) (laidMet.tail (laidMet.tail h1))
theorem pers_tf {W : World} (h : TF W) : Pers noX W TF := fun w' hk =>
  Joins.tab_stays (by kernel_rfl : Tryd.prog.globalNamed "internal/strconv.uint64pow10" = some 0) h hk.below (Nat.le_refl _)
end Go.Proofs.YtjjgckmdfblmgaaDoor
