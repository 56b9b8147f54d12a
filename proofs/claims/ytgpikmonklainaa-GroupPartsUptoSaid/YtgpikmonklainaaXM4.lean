/- Order: what the last steps need of the program's types; the bulk of what is read. No condition. -/
import Derived.Test.YtgpikmonklainaaXFacts
import Derived.Test.YtgpikmonklainaaXOJ
import Derived.Test.YtgpikmonklainaaXG1
import Derived.Test.YtgpikmonklainaaRows
import Derived.ProofKit
import Derived.Test.YtgpikmonklainaaXGAsk
set_option maxRecDepth 100000
namespace Go.Proofs.Ytgpikmonklainaa
open Go Go.Vc Go.Od Go.ChangeShapes Go.WideShapes Go.ChangeAt Go.RowKit
theorem Try.own : ownKnob Try.prog.godebug = none := by kernel_rfl
theorem Try.laidOut : laidOutB Try.prog = true := by kernel_rfl
theorem valTy : ValTy Try.prog ty_api_Value ty_int ty_int64 ty_string := ⟨by kernel_rfl, by kernel_rfl, by kernel_rfl, by kernel_rfl, by kernel_rfl, by kernel_rfl, by kernel_rfl, by kernel_rfl, by kernel_rfl⟩
abbrev ty_AskS : Nat := 25
theorem bulk_one {H : Type} (d : DataW H) : 1 ≤ Rows.uptoBulk d := by
  cases d with
  | lit l => cases l <;> simp [Rows.uptoBulk]
  | _ => simp [Rows.uptoBulk]
theorem bulk_len {H : Type} : ∀ l : List (DataW H), l.length ≤ Rows.uptoBulkAll l
  | [] => Nat.zero_le _
  | d :: l => by
    have h1 := bulk_one d
    have h2 := bulk_len l
    simp only [List.length_cons, Rows.uptoBulkAll]
    omega
theorem bulk_row {H : Type} (d : DataW H) : (rowOf d).length ≤ Rows.uptoBulk d := by
  cases d with
  | slice es sp =>
    have := bulk_len es
    simp only [rowOf, List.length_map, Rows.uptoBulk]
    omega
  | _ => exact Nat.zero_le _
theorem bulk_bound {H : Type} {ds : List (DataW H)} (h : Rows.uptoSmall H ds = true) : Rows.uptoBulkAll ds ≤ 1048576 := of_decide_eq_true h
end Go.Proofs.Ytgpikmonklainaa
set_option maxRecDepth 100000
namespace Go.Proofs.Ytgpikmonklainaa
open Go Go.Vc Go.Od Go.ChangeShapes Go.WideShapes Go.ChangeAt Go.RowKit
abbrev ty_AskG : Nat := 40
theorem rd_uint8 : Try.prog.readableRec ty_uint8 = true ∧ ty_uint8 < Try.prog.types.size := ⟨by kernel_rfl, of_decide_eq_true (by kernel_rfl)⟩
theorem rd_Values : Try.prog.readableRec ty_sl_api_Value = true ∧ ty_sl_api_Value < Try.prog.types.size := ⟨by kernel_rfl, of_decide_eq_true (by kernel_rfl)⟩
theorem hVs : Try.prog.underlying ty_sl_api_Value = some (.slice ty_api_Value) := by kernel_rfl
end Go.Proofs.Ytgpikmonklainaa
