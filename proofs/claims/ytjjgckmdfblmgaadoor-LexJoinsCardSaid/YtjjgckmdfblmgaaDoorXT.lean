/- What the rows' last steps need: the variable that is read holds a number; what is known of an argument. No condition. -/
import Derived.Test.YtjjgckmdfblmgaaDoorXK
import Derived.Test.YtjjgckmdfblmgaaDoorXG1
import Derived.Shelf.Vars
import Derived.JoinedCond
import Derived.ChangeMaps5
import Derived.Test.YtjjgckmdfblmgaaDoorCards
import Derived.Test.YtjjgckmdfblmgaaDoorTie
set_option maxRecDepth 100000
namespace Go.Proofs.YtjjgckmdfblmgaaDoor
open Go Go.Vc Go.ChangeShapes Go.WideShapes Go.ChangeAt Go.RowKit
theorem gf_shaped {W : World} (h : W.ShapedOpen Tryd.prog) : GF W :=
  cell_of_shapedOpen_int (zero := #[.int .i64 0]) (t := 3) h (of_decide_eq_true (by kernel_rfl)) (by kernel_rfl) rfl (by kernel_rfl) (by kernel_rfl) Tryd.underlying3
theorem pers_cell {W : World} {a : Addr} {v : Value} (h : W.cell? a = some v) : ∀ w', Keeps noX W w' → w'.cell? a = some v := fun w' hk => by
  unfold World.cell? at h ⊢
  cases hb : W.heap[a.block]? with
  | none => rw [hb] at h; simp at h
  | some o =>
    rw [hk.get hb (fun h => h)]
    rw [hb] at h
    exact h
theorem pers_gf {W : World} (h : GF W) : Pers noX W GF := fun w' hk => by
  obtain ⟨m, hm⟩ := h
  exact ⟨m, pers_cell hm w' hk⟩
theorem rd_string : Tryd.prog.readableRec ty_string = true ∧ ty_string < Tryd.prog.types.size := ⟨by kernel_rfl, of_decide_eq_true (by kernel_rfl)⟩
theorem rd_uint8 : Tryd.prog.readableRec ty_uint8 = true ∧ ty_uint8 < Tryd.prog.types.size := ⟨by kernel_rfl, of_decide_eq_true (by kernel_rfl)⟩
theorem size1 {H : Type} {l : List UInt8} (h : (DataW.weightsEach (H := H) Tryd.prog [ty_string] [.lit (.string l)]).all (· ≤ reachBytes) = true) : l.length ≤ 140737488351232 := by
  simp only [DataW.weightsEach, DataW.weights, List.append_nil, List.all_cons, List.all_nil, Bool.and_true, decide_eq_true_eq] at h
  exact h
theorem size2 {H : Type} {l k : List UInt8} (h : (DataW.weightsEach (H := H) Tryd.prog [ty_string, ty_string] [.lit (.string l), .lit (.string k)]).all (· ≤ reachBytes) = true) : l.length ≤ 140737488351232 ∧ k.length ≤ 140737488351232 := by
  simp only [DataW.weightsEach, DataW.weights, List.append_nil, List.all_append, List.all_cons, List.all_nil, Bool.and_true, decide_eq_true_eq, Bool.and_eq_true] at h
  exact h
end Go.Proofs.YtjjgckmdfblmgaaDoor
