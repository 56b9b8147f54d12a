/- Ssi: what the last steps need of the program's types; the bulk of what is read. No condition. -/
import Derived.Test.YtggmifnkgcladaaXRO
import Derived.Test.YtggmifnkgcladaaXG1
import Derived.Test.YtggmifnkgcladaaRows
import Derived.ProofKit
set_option maxRecDepth 100000
namespace Go.Proofs.Ytggmifnkgcladaa
open Go Go.Vc Go.Si Go.ChangeShapes Go.WideShapes Go.ChangeAt Go.RowKit
theorem Try.own : ownKnob Try.prog.godebug = none := by kernel_rfl
theorem Try.laidOut : laidOutB Try.prog = true := by kernel_rfl
theorem valTy : ValTy Try.prog ty_api_Value ty_int ty_int64 ty_string := ⟨by kernel_rfl, by kernel_rfl, by kernel_rfl, by kernel_rfl, by kernel_rfl, by kernel_rfl, by kernel_rfl, by kernel_rfl, by kernel_rfl⟩
theorem opTyS : OpTy Try.prog ty_sl_cadastrelaw20_Op ty_cadastrelaw20_Op ty_api_Read ty_api_Write ty_sl_api_Value ty_api_Value ty_int ty_int64 ty_string := { valTy with hR := by kernel_rfl, fR := by kernel_rfl, cR := by kernel_rfl, hW := by kernel_rfl, fW := by kernel_rfl, cW := by kernel_rfl, hO := by kernel_rfl, fO := by kernel_rfl, cO := by kernel_rfl, hVs := by kernel_rfl, cVs := by kernel_rfl, hOs := by kernel_rfl }
theorem rd_Ops : Try.prog.readableRec ty_sl_cadastrelaw20_Op = true ∧ ty_sl_cadastrelaw20_Op < Try.prog.types.size := ⟨by kernel_rfl, of_decide_eq_true (by kernel_rfl)⟩
theorem hOps : Try.prog.underlying ty_sl_cadastrelaw20_Op = some (.slice ty_cadastrelaw20_Op) := by kernel_rfl
theorem bulk_one {H : Type} (d : DataW H) : 1 ≤ Rows.uptoBulk d := by
  cases d with
  | lit l => cases l <;> simp [Rows.uptoBulk]
  | _ => simp [Rows.uptoBulk]
theorem bulk_len {H : Type} : ∀ l : List (DataW H), l.length ≤ Rows.uptoBulkAll l
  | [] => Nat.zero_le _
  | d :: l => by
    have h1 := bulk_one d
    have h2 := bulk_len l
    simp only [List.length_cons, Rows.uptoBulkAll]
    omega
theorem bulk_mem {H : Type} {d : DataW H} : ∀ {l : List (DataW H)}, d ∈ l → Rows.uptoBulk d ≤ Rows.uptoBulkAll l
  | x :: l, h => by
    simp only [Rows.uptoBulkAll]
    rcases List.mem_cons.1 h with rfl | h
    · omega
    · have := bulk_mem h; omega
theorem bulk_row {H : Type} (d : DataW H) : (rowOf d).length ≤ Rows.uptoBulk d := by
  cases d with
  | slice es sp =>
    have := bulk_len es
    simp only [rowOf, List.length_map, Rows.uptoBulk]
    omega
  | _ => exact Nat.zero_le _
theorem bulk_slS {H α : Type} (of : DataW H → α) (d : DataW H) : (slOf of d).length + 1 ≤ Rows.uptoBulk d := by
  cases d with
  | slice es sp =>
    have := bulk_len es
    simp only [slOf, List.length_map, Rows.uptoBulk]
    omega
  | _ => exact bulk_one _
theorem bulk_wr {H : Type} (d : DataW H) : (wrOf d).1.length ≤ Rows.uptoBulk d ∧ (wrOf d).2.length ≤ Rows.uptoBulk d := by
  unfold wrOf
  split
  · rename_i t o n
    have h1 := bulk_row o
    have h2 := bulk_row n
    simp only [Rows.uptoBulk, Rows.uptoBulkAll]
    omega
  · exact ⟨Nat.zero_le _, Nat.zero_le _⟩
theorem bulk_op {H : Type} (d : DataW H) : (opOfS d).1.length ≤ Rows.uptoBulk d ∧ (opOfS d).2.length ≤ Rows.uptoBulk d := by
  unfold opOfS
  split
  · rename_i k t r w
    have h1 := bulk_wr w
    simp only [Rows.uptoBulk, Rows.uptoBulkAll]
    omega
  · exact ⟨Nat.zero_le _, Nat.zero_le _⟩
theorem bulk_ops {H : Type} (d : DataW H) : ∀ r ∈ slOf opOfS d, r.1.length ≤ Rows.uptoBulk d ∧ r.2.length ≤ Rows.uptoBulk d := by
  intro r hr
  cases d with
  | slice es sp =>
    obtain ⟨e, he, rfl⟩ := List.mem_map.1 hr
    have h1 := bulk_op e
    have h2 := bulk_mem he
    simp only [Rows.uptoBulk]
    omega
  | _ => cases hr
theorem bulk_bound {H : Type} {ds : List (DataW H)} (h : Rows.uptoSmall H ds = true) : Rows.uptoBulkAll ds ≤ 1048576 := of_decide_eq_true h
theorem scB_of {H : Type} {ops : List OpA} {d : DataW H} (h : OpsB ops d) (hb : Rows.uptoBulk d ≤ 1048576) : ScB ops := by
  refine ⟨?_, fun x hx => ?_, fun x hx => ?_⟩
  · rw [h.1]; have := bulk_slS opOfS d; omega
  · exact Nat.le_trans (bulk_ops d _ (h.2 x hx)).1 hb
  · exact Nat.le_trans (bulk_ops d _ (h.2 x hx)).2 hb
end Go.Proofs.Ytggmifnkgcladaa
