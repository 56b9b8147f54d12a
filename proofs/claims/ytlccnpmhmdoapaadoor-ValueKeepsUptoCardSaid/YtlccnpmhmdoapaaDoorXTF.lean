/- The table of powers of ten, as the row lays it. No condition. -/
import Derived.Test.YtlccnpmhmdoapaaDoorXSH
import Derived.Test.YtlccnpmhmdoapaaDoorXG1
import Derived.Stop.LaidErr
import Derived.Lib.LaidTab
import Derived.Lib.SmallJoins
import Derived.Test.YtlccnpmhmdoapaaDoorRows
set_option maxRecDepth 100000
namespace Go.Proofs.YtlccnpmhmdoapaaDoor
open Go Go.Vc Go.ChangeShapes Go.WideShapes Go.ChangeAt Go.RowKit
theorem tf_laid {W : World} (h : laidMetH Tryd.prog Rows.valueOrderRow.laid W) : TF W := by
  have h1 : laidMet Tryd.prog Rows.valueOrderRow.laid W := h
  exact Lib.tabIs_of_head (t := 100) (e := 47) (n := 20) (by kernel_rfl : Tryd.prog.globalNamed "internal/strconv.uint64pow10" = some 0) (by kernel_rfl) (by kernel_rfl) (by kernel_rfl) (by kernel_rfl) (by kernel_rfl) (laidMet.tail (laidMet.tail h1))
theorem pers_tf {W : World} (h : TF W) : Pers noX W TF := fun w' hk =>
  Joins.tab_stays (by kernel_rfl : Tryd.prog.globalNamed "internal/strconv.uint64pow10" = some 0) h hk.below (Nat.le_refl _)
end Go.Proofs.YtlccnpmhmdoapaaDoor
