/- Ssi: what the last steps need of the program's types; the bulk of what is read. No condition. -/
import Derived.Test.YtggmifnkgcladaaXRO
import Derived.Test.YtggmifnkgcladaaXG1
import Derived.Test.YtggmifnkgcladaaRows
import Derived.ProofKit
set_option maxRecDepth 100000
namespace Go.Proofs.Ytggmifnkgcladaa
open Go Go.Vc Go.Si Go.ChangeShapes Go.WideShapes Go.ChangeAt Go.RowKit
theorem Try.own : ownKnob Try.prog.godebug = none := by kernel_rfl
theorem Try.laidOut : laidOutB Try.prog = true := by kernel_rfl
theorem rd_bool : Try.prog.readableRec ty_bool = true ∧ ty_bool < Try.prog.types.size := ⟨by kernel_rfl, of_decide_eq_true (by kernel_rfl)⟩
theorem rd_uint8 : Try.prog.readableRec ty_uint8 = true ∧ ty_uint8 < Try.prog.types.size := ⟨by kernel_rfl, of_decide_eq_true (by kernel_rfl)⟩
theorem un_bool_ : Try.prog.underlying ty_bool = some .bool := by kernel_rfl
end Go.Proofs.Ytggmifnkgcladaa
