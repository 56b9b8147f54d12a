/- What stops, in plain terms. No condition. -/
import Derived.Test.YtibbnimcnepggaaXLN
set_option maxRecDepth 20000
namespace Go.Proofs.Ytibbnimcnepggaa
open Go Go.Vc
variable {vals more : List V3} {x : Ex}
theorem law_stop1 (hv : ∀ v ∈ vals, v.rng) (hx : exRng x) : ((holdsF (evalF vals (nodeE 16 [nodeE 18 [numE 1], x]))).fst || (holdsF (evalF vals (nodeE 16 [nodeE 18 [numE 1], x]))).snd != 0 || !(holdsF (evalF vals (nodeE 17 [nodeE 19 [numE 1], x]))).fst || (holdsF (evalF vals (nodeE 17 [nodeE 19 [numE 1], x]))).snd != 0) = false := by
  have r1 : exRng (numE 1) := rng_num o64
  rw [eval_ref hv (rng_2 (k := 16) (by omega) (rng_1 (k := 18) (by omega) r1) hx), eval_ref hv (rng_2 (k := 17) (by omega) (rng_1 (k := 19) (by omega) r1) hx), rf_logic vals _ _ (k := 16) (by omega), rf_logic vals _ _ (k := 17) (by omega), rf_one vals _ (k := 18) (by omega), rf_one vals _ (k := 19) (by omega), rf_num]
  have e1 : refOneF 18 (⟨1, 1, ⟨#[]⟩⟩, 0) = (truthF false, 0) := rfl
  have e2 : refOneF 19 (⟨1, 1, ⟨#[]⟩⟩, 0) = (truthF true, 0) := rfl
  rw [e1, e2]
  have l1 : lgF 16 (truthF false, 0) (refF vals x) = (truthF false, 0) := by
    simp [lgF, tk, veqV_refl]
  have l2 : lgF 17 (truthF true, 0) (refF vals x) = (truthF true, 0) := by
    simp [lgF, tk, veqV_refl]
  rw [l1, l2]
  rfl
theorem v3at_more {i : Nat} (h : i < vals.length) : v3at (vals ++ more) i = v3at vals i := by
  unfold v3at
  have e : ((i : Int)).toNat = i := rfl
  rw [e, List.getD_eq_getElem?_getD, List.getD_eq_getElem?_getD, List.getElem?_append_left h]
def More (r r' : V3 × Int) : Prop := r.2 = 1 ∨ r' = r
theorem More.same (r : V3 × Int) : More r r := .inr rfl
theorem one_more {k : Int} {r r' : V3 × Int} (h : More r r') : More (refOneF k r) (refOneF k r') := by
  rcases h with h | h
  · left
    unfold refOneF
    rw [if_pos (by simp [h])]
    exact h
  · rw [h]; exact .same _
theorem two_more {k : Int} {r r' s s' : V3 × Int} (h : More r r') (h' : More s s') : More (refTwoF k r s) (refTwoF k r' s') := by
  rcases h with h | h
  · left
    unfold refTwoF
    rw [if_pos (by simp [h])]
    exact h
  · subst h
    rcases h' with h' | h'
    · by_cases h0 : r'.2 = 0
      · left
        unfold refTwoF
        rw [if_neg (by simp [h0]), if_pos (by simp [h'])]
        exact h'
      · right
        unfold refTwoF
        rw [if_pos (by simp [h0]), if_pos (by simp [h0])]
    · rw [h']; exact .same _
theorem lgo_more {k : Int} {A A' : Nat → V3 × Int} (h : ∀ i, More (A i) (A' i)) : ∀ m i nl, More (refLgo k A m i nl) (refLgo k A' m i nl)
  | 0, i, nl => .same _
  | m + 1, i, nl => by
    rcases h i with hi | hi
    · left
      unfold refLgo
      rw [if_pos (by simp [hi])]
      exact hi
    · unfold refLgo
      rw [hi]
      by_cases h1 : ((A i).2 != 0) = true
      · rw [if_pos h1, if_pos h1]; exact .same _
      · rw [if_neg h1, if_neg h1]
        by_cases h2 : ((A i).1.k != 0 && (A i).1.k != 2) = true
        · rw [if_pos h2, if_pos h2]; exact .same _
        · rw [if_neg h2, if_neg h2]
          by_cases h3 : veqV (A i).1 (truthF (k == 17)) = true
          · rw [if_pos h3, if_pos h3]; exact .same _
          · rw [if_neg h3, if_neg h3]
            exact lgo_more h m _ _
theorem top_more {k : Int} {v : V3} {sl n : Int} {A A' : Nat → V3 × Int} (h : ∀ i, More (A i) (A' i)) : More (refTopF vals k v sl n A) (refTopF (vals ++ more) k v sl n A') := by
  unfold refTopF
  by_cases h1 : ((k == 1 && n == 0) && ok1F v.k v.n v.s) = true
  · rw [if_pos h1, if_pos h1]; exact .same _
  · rw [if_neg h1, if_neg h1]
    by_cases h2 : (k == 2 && n == 0) = true
    · rw [if_pos h2, if_pos h2]; exact .same _
    · rw [if_neg h2, if_neg h2]
      by_cases h3 : (k == 24 && n == 0) = true
      · have hk : k = 24 ∧ n = 0 := by simpa using h3
        obtain ⟨rfl, rfl⟩ := hk
        by_cases h4 : ((((24 : Int) == 24 && (0 : Int) == 0) && decide (0 ≤ sl)) && decide (sl < vals.length) && ok1F (v3at vals sl).k (v3at vals sl).n (v3at vals sl).s) = true
        · have h5 := h4
          simp only [Bool.and_eq_true, decide_eq_true_eq] at h5
          have e : v3at (vals ++ more) sl = v3at vals sl := by
            have := v3at_more (vals := vals) (more := more) (i := sl.toNat) (by omega)
            rwa [show ((sl.toNat : Nat) : Int) = sl by omega] at this
          rw [if_pos h4, if_pos ?_, e]
          · exact .same _
          · rw [e]
            simp only [Bool.and_eq_true, decide_eq_true_eq]
            exact ⟨⟨⟨h5.1.1.1, h5.1.1.2⟩, by simp; omega⟩, h5.2⟩
        · left
          rw [if_neg h4]
          rfl
      · have e : ∀ p : Bool, ((k == 24 && n == 0) && p) = false := fun p => by simp only [Bool.not_eq_true] at h3; rw [h3]; rfl
        simp only [e, Bool.false_and, Bool.false_eq_true, if_false]
        by_cases h4 : (n == 1 && (((k == 3 || k == 4) || k == 18) || k == 19)) = true
        · rw [if_pos h4, if_pos h4]; exact one_more (h 0)
        · rw [if_neg h4, if_neg h4]
          by_cases h5 : (n == 2 && (k == 16 || k == 17)) = true
          · rw [if_pos h5, if_pos h5]; exact lgo_more h _ _ _
          · rw [if_neg h5, if_neg h5]
            by_cases h6 : ((n != 2 || decide (k < 5)) || decide (15 < k)) = true
            · rw [if_pos h6, if_pos h6]; exact .same _
            · rw [if_neg h6, if_neg h6]; exact two_more (h 0) (h 1)
mutual
theorem ref_more (vals more : List V3) : ∀ x : Ex, More (refF vals x) (refF (vals ++ more) x)
  | .mk k vk vn vs tb nm sl kids => by
    rw [refF, refF]
    exact top_more (refs_more vals more kids)
theorem refs_more (vals more : List V3) : ∀ (kids : List Ex) (i : Nat), More ((refsF vals kids).getD i (zero3, 0)) ((refsF (vals ++ more) kids).getD i (zero3, 0))
  | [], i => by
    rw [refsF, refsF]
    exact .same _
  | x :: xs, 0 => by
    rw [refsF, refsF]
    exact ref_more vals more x
  | x :: xs, i + 1 => by
    rw [refsF, refsF]
    exact refs_more vals more xs i
end
theorem law_stop2 (hv : ∀ v ∈ vals, v.rng) (hm : ∀ v ∈ more, v.rng) (hx : exRng x) : ((evalF vals x).snd == 1 || (evalF vals x).snd == (evalF (vals ++ more) x).snd && veq (evalF vals x).fst.k (evalF vals x).fst.n (evalF vals x).fst.s (evalF (vals ++ more) x).fst.k (evalF (vals ++ more) x).fst.n (evalF (vals ++ more) x).fst.s) = true := by
  have hvm : ∀ v ∈ vals ++ more, v.rng := fun v h => (List.mem_append.1 h).elim (hv v) (hm v)
  rw [eval_ref hv hx, eval_ref hvm hx]
  rcases ref_more vals more x with h | h
  · rw [h]; rfl
  · rw [h]
    have := veqV_refl (refF vals x).1
    unfold veqV at this
    rw [this]
    simp
theorem law_stop3 {i : Nat} (h : i < vals.length) : veq (v3at (vals ++ more) i).k (v3at (vals ++ more) i).n (v3at (vals ++ more) i).s (v3at vals i).k (v3at vals i).n (v3at vals i).s = true := by
  rw [v3at_more h]
  exact veqV_refl _
end Go.Proofs.Ytibbnimcnepggaa
