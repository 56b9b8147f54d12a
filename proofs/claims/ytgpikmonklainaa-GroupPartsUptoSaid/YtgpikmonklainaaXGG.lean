/- Group: blocks of a row, each sorted. No condition. -/
import Derived.Test.YtgpikmonklainaaXGE
namespace Go.Od
open Go Go.Vc Go.Vl
def seg (l : List Nat) (i n : Nat) : List Nat := (l.drop i).take n
theorem split3 (l : List Nat) (a x : Nat) (h : a + x ≤ l.length) : ∃ A X C, l = A ++ X ++ C ∧ A.length = a ∧ X.length = x := by
  refine ⟨l.take a, (l.drop a).take x, (l.drop a).drop x, ?_, by rw [List.length_take]; omega, by rw [List.length_take, List.length_drop]; omega⟩
  rw [List.append_assoc, List.take_append_drop, List.take_append_drop]
theorem seg_pre {A W : List Nat} {i n : Nat} (h : i + n ≤ A.length) : seg (A ++ W) i n = seg A i n := by
  unfold seg
  rw [List.drop_append_of_le_length (by omega), List.take_append_of_le_length (by rw [List.length_drop]; omega)]
theorem seg_post {A W : List Nat} {i n : Nat} (h : A.length ≤ i) : seg (A ++ W) i n = seg W (i - A.length) n := by
  unfold seg
  rw [show i = A.length + (i - A.length) by omega, ← List.drop_drop, List.drop_left, Nat.add_sub_cancel_left]
theorem seg_keep {A X Z C : List Nat} {i n : Nat} (hl : Z.length = X.length) (hi : i + n ≤ A.length ∨ A.length + X.length ≤ i) : seg (A ++ Z ++ C) i n = seg (A ++ X ++ C) i n := by
  rcases hi with hi | hi
  · rw [List.append_assoc, List.append_assoc, seg_pre hi, seg_pre hi]
  · rw [seg_post (A := A ++ Z) (by rw [List.length_append]; omega), seg_post (A := A ++ X) (by rw [List.length_append]; omega), List.length_append, List.length_append, hl]
theorem seg_at {A Z C : List Nat} {i n : Nat} (hi : i = A.length) (hn : n = Z.length ∨ C = [] ∧ Z.length ≤ n) : seg (A ++ Z ++ C) i n = Z := by
  subst hi
  unfold seg
  rw [List.append_assoc, List.drop_left]
  rcases hn with rfl | ⟨rfl, h⟩
  · rw [List.take_left]
  · rw [List.append_nil, List.take_of_length_le h]
theorem seg_none {l : List Nat} {i n : Nat} (h : l.length ≤ i) : seg l i n = [] := by
  unfold seg
  rw [List.drop_eq_nil_of_le h, List.take_nil]
theorem seg_two {A X Y C : List Nat} {n : Nat} (hX : X.length = n) (hY : Y.length = n ∨ C = [] ∧ Y.length ≤ n) : seg (A ++ X ++ Y ++ C) A.length n = X ∧ seg (A ++ X ++ Y ++ C) (A.length + n) n = Y := by
  refine ⟨?_, seg_at (A := A ++ X) (by rw [List.length_append]; omega) (hY.imp Eq.symm id)⟩
  rw [show A ++ X ++ Y ++ C = A ++ X ++ (Y ++ C) by simp]
  exact seg_at rfl (.inl hX.symm)
end Go.Od
