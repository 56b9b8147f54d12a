/- Group: where two sorted parts are cut. No condition. -/
import Derived.Test.YtgpikmonklainaaXM2
namespace Go.Od
open Go Go.Vc Go.Vl
section
variable {n : Nat} {lt : Nat → Nat → Bool} (h : Swo n lt) {A X Y C : List Nat} (hD : Bd n (A ++ X ++ Y ++ C)) {mid lo hi st : Nat} (hmid : mid = (A.length + (A.length + X.length + Y.length)) / 2) (hX1 : 0 < X.length) (hY1 : 0 < Y.length)
  (hl : (A.length + X.length > mid ∧ lo = mid + (A.length + X.length) - (A.length + X.length + Y.length) ∧ hi = mid) ∨ (A.length + X.length ≤ mid ∧ lo = A.length ∧ hi = A.length + X.length))
include h hD hmid hX1 hY1 hl
theorem sym_mono (hX : Srt lt X) (hY : Srt lt Y) {i j : Nat} (h1 : lo ≤ i) (h2 : i ≤ j) (h3 : j < hi) (h4 : lt ((A ++ X ++ Y ++ C).getD (mid + (A.length + X.length) - 1 - j) 0) ((A ++ X ++ Y ++ C).getD j 0) = false) :
    lt ((A ++ X ++ Y ++ C).getD (mid + (A.length + X.length) - 1 - i) 0) ((A ++ X ++ Y ++ C).getD i 0) = false := by
  have bX : Bd n X := fun x hx => hD x (by simp [hx])
  have bY : Bd n Y := fun x hx => hD x (by simp [hx])
  refine cut_mono (m := A.length + X.length) (a := A.length) (b := A.length + X.length + Y.length) h hD (by simp only [List.length_append]; omega) (fun i j h1 h2 h3 => ?_) (fun i j h1 h2 h3 => ?_) (lo := lo) (hi := hi) (by omega) (by omega) (by omega) (by omega) (by omega) h1 h2 h3 h4
  · have e1 := getX A X Y C (i := i - A.length) (by omega)
    have e2 := getX A X Y C (i := j - A.length) (by omega)
    rw [show A.length + (i - A.length) = i by omega] at e1
    rw [show A.length + (j - A.length) = j by omega] at e2
    rw [e1, e2]
    exact srt_get h bX hX (by omega) (by omega)
  · have e1 := getY A X Y C (i := i - (A.length + X.length)) (by omega)
    have e2 := getY A X Y C (i := j - (A.length + X.length)) (by omega)
    rw [show A.length + X.length + (i - (A.length + X.length)) = i by omega] at e1
    rw [show A.length + X.length + (j - (A.length + X.length)) = j by omega] at e2
    rw [e1, e2]
    exact srt_get h bY hY (by omega) (by omega)
theorem sym_cut (h1 : lo ≤ st) (h2 : st ≤ hi)
    (hf : ∀ i, lo ≤ i → i < st → lt ((A ++ X ++ Y ++ C).getD (mid + (A.length + X.length) - 1 - i) 0) ((A ++ X ++ Y ++ C).getD i 0) = false) (ht : ∀ i, st ≤ i → i < hi → lt ((A ++ X ++ Y ++ C).getD (mid + (A.length + X.length) - 1 - i) 0) ((A ++ X ++ Y ++ C).getD i 0) = true) :
    A.length ≤ st ∧ st ≤ A.length + X.length ∧ st ≤ mid ∧ mid - st ≤ Y.length ∧ (st - A.length = 0 ∨ mid - st = Y.length ∨ lt (Y.getD (mid - st) 0) (X.getD (st - A.length - 1) 0) = false) ∧ (st - A.length = X.length ∨ mid - st = 0 ∨ lt (X.getD (st - A.length) 0) (Y.getD (mid - st - 1) 0) = false) := by
  have bX : Bd n X := fun x hx => hD x (by simp [hx])
  have bY : Bd n Y := fun x hx => hD x (by simp [hx])
  refine ⟨by omega, by omega, by omega, by omega, ?_, ?_⟩
  · by_cases e0 : st - A.length = 0
    · exact .inl e0
    · by_cases e1 : mid - st = Y.length
      · exact .inr (.inl e1)
      · refine .inr (.inr ?_)
        have k := hf (st - 1) (by omega) (by omega)
        have g1 := getX A X Y C (i := st - A.length - 1) (by omega)
        have g2 := getY A X Y C (i := mid - st) (by omega)
        rw [show A.length + (st - A.length - 1) = st - 1 by omega] at g1
        rw [show A.length + X.length + (mid - st) = mid + (A.length + X.length) - 1 - (st - 1) by omega] at g2
        rwa [g1, g2] at k
  · by_cases e0 : st - A.length = X.length
    · exact .inl e0
    · by_cases e1 : mid - st = 0
      · exact .inr (.inl e1)
      · refine .inr (.inr ?_)
        have k := ht st (by omega) (by omega)
        have g1 := getX A X Y C (i := st - A.length) (by omega)
        have g2 := getY A X Y C (i := mid - st - 1) (by omega)
        rw [show A.length + (st - A.length) = st by omega] at g1
        rw [show A.length + X.length + (mid - st - 1) = mid + (A.length + X.length) - 1 - st by omega] at g2
        rw [g1, g2] at k
        exact h.asym _ _ (bY _ (getD_mem (by omega))) (bX _ (getD_mem (by omega))) k
end
theorem one_in {n : Nat} {lt : Nat → Nat → Bool} (h : Swo n lt) {S : List Nat} {x k : Nat} (hS : Srt lt S) (h1 : ∀ t, t < k → t < S.length → lt x (S.getD t 0) = false) (h2 : ∀ t, k ≤ t → t < S.length → lt (S.getD t 0) x = false) : Srt lt (S.take k ++ x :: S.drop k) ∧ (S.take k ++ x :: S.drop k).Perm (x :: S) := by
  have hS' : Srt lt (S.take k ++ S.drop k) := by rwa [List.take_append_drop]
  have hp := List.pairwise_append.1 hS'
  refine ⟨List.pairwise_append.2 ⟨hp.1, List.pairwise_cons.2 ⟨fun y hy => ?_, hp.2.1⟩, fun y hy z hz => ?_⟩, ?_⟩
  · obtain ⟨i, hi, rfl⟩ := List.mem_iff_getElem.1 hy
    rw [List.length_drop] at hi
    have := h2 (k + i) (by omega) (by omega)
    rw [getD_lt (by omega)] at this
    rwa [List.getElem_drop]
  · rcases List.mem_cons.1 hz with rfl | hz
    · obtain ⟨i, hi, rfl⟩ := List.mem_iff_getElem.1 hy
      rw [List.length_take] at hi
      have := h1 i (by omega) (by omega)
      rw [getD_lt (by omega)] at this
      rwa [List.getElem_take]
    · exact hp.2.2 y hy z hz
  · have := List.perm_middle (a := x) (l₁ := S.take k) (l₂ := S.drop k)
    rwa [List.take_append_drop] at this
end Go.Od
