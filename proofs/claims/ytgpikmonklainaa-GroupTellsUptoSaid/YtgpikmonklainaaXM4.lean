/- Order: what the last steps need of the program's types; the bulk of what is read. No condition. -/
import Derived.Test.YtgpikmonklainaaXFacts
import Derived.Test.YtgpikmonklainaaXOJ
import Derived.Test.YtgpikmonklainaaXG1
import Derived.Test.YtgpikmonklainaaRows
import Derived.ProofKit
import Derived.Test.YtgpikmonklainaaXGAsk
set_option maxRecDepth 100000
namespace Go.Proofs.Ytgpikmonklainaa
open Go Go.Vc Go.Od Go.ChangeShapes Go.WideShapes Go.ChangeAt Go.RowKit
theorem Try.own : ownKnob Try.prog.godebug = none := by kernel_rfl
theorem Try.laidOut : laidOutB Try.prog = true := by kernel_rfl
theorem valTy : ValTy Try.prog ty_api_Value ty_int ty_int64 ty_string := ⟨by kernel_rfl, by kernel_rfl, by kernel_rfl, by kernel_rfl, by kernel_rfl, by kernel_rfl, by kernel_rfl, by kernel_rfl, by kernel_rfl⟩
abbrev ty_AskS : Nat := 25
theorem bulk_one {H : Type} (d : DataW H) : 1 ≤ Rows.uptoBulk d := by
  cases d with
  | lit l => cases l <;> simp [Rows.uptoBulk]
  | _ => simp [Rows.uptoBulk]
theorem bulk_len {H : Type} : ∀ l : List (DataW H), l.length ≤ Rows.uptoBulkAll l
  | [] => Nat.zero_le _
  | d :: l => by
    have h1 := bulk_one d
    have h2 := bulk_len l
    simp only [List.length_cons, Rows.uptoBulkAll]
    omega
theorem bulk_mem {H : Type} {d : DataW H} : ∀ {l : List (DataW H)}, d ∈ l → Rows.uptoBulk d ≤ Rows.uptoBulkAll l
  | x :: l, h => by
    simp only [Rows.uptoBulkAll]
    rcases List.mem_cons.1 h with rfl | h
    · omega
    · have := bulk_mem h; omega
theorem bulk_row {H : Type} (d : DataW H) : (rowOf d).length ≤ Rows.uptoBulk d := by
  cases d with
  | slice es sp =>
    have := bulk_len es
    simp only [rowOf, List.length_map, Rows.uptoBulk]
    omega
  | _ => exact Nat.zero_le _
theorem bulk_sl {H α : Type} (of : DataW H → α) (d : DataW H) : (slOf of d).length ≤ Rows.uptoBulk d := by
  cases d with
  | slice es sp =>
    have := bulk_len es
    simp only [slOf, List.length_map, Rows.uptoBulk]
    omega
  | _ => exact Nat.zero_le _
theorem bulk_rows {H : Type} (d : DataW H) : ∀ r ∈ slOf rowOf d, r.length ≤ Rows.uptoBulk d := by
  intro r hr
  cases d with
  | slice es sp =>
    obtain ⟨e, he, rfl⟩ := List.mem_map.1 hr
    have h1 := bulk_row e
    have h2 := bulk_mem he
    simp only [Rows.uptoBulk]
    omega
  | _ => cases hr
theorem bulk_bound {H : Type} {ds : List (DataW H)} (h : Rows.uptoSmall H ds = true) : Rows.uptoBulkAll ds ≤ 1048576 := of_decide_eq_true h
end Go.Proofs.Ytgpikmonklainaa
set_option maxRecDepth 100000
namespace Go.Proofs.Ytgpikmonklainaa
open Go Go.Vc Go.Od Go.ChangeShapes Go.WideShapes Go.ChangeAt Go.RowKit
abbrev ty_AskG : Nat := 40
theorem askGTy : AskGTy Try.prog ty_AskG ty_sl_sl_api_Value ty_sl_api_Value ty_api_Value ty_int ty_int64 ty_string ty_sl_int ty_int := { valTy with hA := by kernel_rfl, fA := by kernel_rfl, cA := by kernel_rfl, hRs := by kernel_rfl, cRs := by kernel_rfl, hVs := by kernel_rfl, cVs := by kernel_rfl, hBs := by kernel_rfl, cBs := by kernel_rfl, hB := by kernel_rfl, cB := by kernel_rfl }
theorem rd_AskG : Try.prog.readableRec ty_AskG = true ∧ ty_AskG < Try.prog.types.size := ⟨by kernel_rfl, of_decide_eq_true (by kernel_rfl)⟩
theorem rd_bool : Try.prog.readableRec ty_bool = true ∧ ty_bool < Try.prog.types.size := ⟨by kernel_rfl, of_decide_eq_true (by kernel_rfl)⟩
theorem hVs : Try.prog.underlying ty_sl_api_Value = some (.slice ty_api_Value) := by kernel_rfl
theorem un_bool_ : Try.prog.underlying ty_bool = some .bool := by kernel_rfl
theorem bulk_askG {H : Type} (d : DataW H) : (slOf rowOf (askG d).1).length + 1 ≤ Rows.uptoBulk d ∧ (slOf rowOf (askG d).2.1).length ≤ Rows.uptoBulk d ∧ (∀ r ∈ slOf rowOf (askG d).1, r.length ≤ Rows.uptoBulk d) ∧ (∀ r ∈ slOf rowOf (askG d).2.1, r.length ≤ Rows.uptoBulk d) ∧ (slOf inOf (askG d).2.2).length ≤ Rows.uptoBulk d := by
  unfold askG
  split
  · rename_i r k dn
    have h1 := bulk_sl rowOf r
    have h2 := bulk_sl rowOf k
    have h3 := bulk_sl inOf dn
    have h4 := bulk_rows r
    have h5 := bulk_rows k
    have h6 := bulk_one k
    simp only [Rows.uptoBulk, Rows.uptoBulkAll]
    exact ⟨by omega, by omega, fun x hx => by have := h4 x hx; omega, fun x hx => by have := h5 x hx; omega, by omega⟩
  · refine ⟨?_, Nat.zero_le _, ?_, ?_, Nat.zero_le _⟩
    · exact bulk_one d
    · intro r hr; exact absurd hr List.not_mem_nil
    · intro r hr; exact absurd hr List.not_mem_nil
theorem bound_askG {H : Type} {d : DataW H} (h : Rows.uptoBulk d ≤ 1048576) : (slOf rowOf (askG d).1).length ≤ 1048575 ∧ (slOf rowOf (askG d).2.1).length ≤ 1048576 ∧ (∀ r ∈ slOf rowOf (askG d).1, r.length ≤ 1048576) ∧ (∀ r ∈ slOf rowOf (askG d).2.1, r.length ≤ 1048576) ∧ (slOf inOf (askG d).2.2).length ≤ 1048576 := by
  obtain ⟨h1, h2, h3, h4, h5⟩ := bulk_askG d
  exact ⟨by omega, by omega, fun x hx => by have := h3 x hx; omega, fun x hx => by have := h4 x hx; omega, by omega⟩
end Go.Proofs.Ytgpikmonklainaa
