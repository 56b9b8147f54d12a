/- The bulk of what is read. No condition. -/
import Derived.Test.YtlccnpmhmdoapaaDoorXT
set_option maxRecDepth 20000
namespace Go.Proofs.YtlccnpmhmdoapaaDoor
open Go Go.Vc
theorem bulk_one {H : Type} (d : DataW H) : 1 ≤ Rows.uptoBulk d := by
  cases d with
  | lit l => cases l <;> simp [Rows.uptoBulk]
  | _ => simp [Rows.uptoBulk]
theorem bulk_len {H : Type} : ∀ l : List (DataW H), l.length ≤ Rows.uptoBulkAll l
  | [] => Nat.zero_le _
  | d :: l => by
    have h1 := bulk_one d
    have h2 := bulk_len l
    simp only [List.length_cons, Rows.uptoBulkAll]
    omega
theorem bulk_row {H : Type} (d : DataW H) : (rowOf d).length ≤ Rows.uptoBulk d := by
  cases d with
  | slice es sp =>
    have := bulk_len es
    simp only [rowOf, List.length_map, Rows.uptoBulk]
    omega
  | _ => exact Nat.zero_le _
theorem bulk_bound {H : Type} {ds : List (DataW H)} (h : Rows.uptoSmall H ds = true) : Rows.uptoBulkAll ds ≤ 1048576 := of_decide_eq_true h
theorem bulk_sl {H α : Type} (of : DataW H → α) (d : DataW H) : (slOf of d).length ≤ Rows.uptoBulk d := by
  cases d with
  | slice es sp =>
    have := bulk_len es
    simp only [slOf, List.length_map, Rows.uptoBulk]
    omega
  | _ => exact Nat.zero_le _
end Go.Proofs.YtlccnpmhmdoapaaDoor
