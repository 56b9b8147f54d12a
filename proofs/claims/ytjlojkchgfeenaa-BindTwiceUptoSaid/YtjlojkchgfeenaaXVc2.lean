/- A region run in whatever order its edges allow: one invariant over the set of what is done. No condition. -/
import Derived.Orders
import Derived.WalkKit
namespace Go.Vc
open Go
section
variable {P : Program} {ops : Array Oper} {Q : Exit → Act → World → Prop}
def backOK (ops : Array Oper) : Bool := (List.range ops.size).all fun i => match ops[i]? with | some o => o.after.all fun e => !Region.binds .any e || decide (e.on < i) | none => true
def readyAt (ops : Array Oper) (D : Array Bool) (i : Nat) : Prop := ∀ o, ops[i]? = some o → ∀ e ∈ o.after, Region.binds .any e = true → D.getD e.on false = true
theorem ready_mem {D : Array Bool} {i : Nat} : i ∈ Region.ready .any ops D ↔ i < ops.size ∧ D.getD i true = false ∧ readyAt ops D i := by
  unfold Region.ready readyAt
  rw [List.mem_filter, List.mem_range]
  constructor
  · rintro ⟨hi, h⟩
    simp only [Bool.and_eq_true, Bool.not_eq_true'] at h
    refine ⟨hi, h.1, fun o ho e he hb => ?_⟩
    have h2 := h.2
    rw [ho] at h2
    simp only [Option.map_some, Option.getD_some, Array.all_eq_true_iff_forall_mem, Bool.or_eq_true, Bool.not_eq_true'] at h2
    rcases h2 e he with h3 | h3
    · rw [hb] at h3; cases h3
    · exact h3
  · rintro ⟨hi, h1, h2⟩
    refine ⟨hi, ?_⟩
    have ho : ops[i]? = some ops[i] := Array.getElem?_eq_getElem hi
    simp only [Bool.and_eq_true, Bool.not_eq_true', h1, ho, Option.map_some, Option.getD_some, Array.all_eq_true_iff_forall_mem, Bool.or_eq_true, true_and]
    intro e he
    cases hb : Region.binds .any e with
    | false => exact .inl rfl
    | true => exact .inr (h2 _ ho e he hb)
theorem ready_nil (hb : backOK ops = true) {D : Array Bool} (hs : D.size = ops.size) (h : Region.ready .any ops D = []) : ∀ i, i < ops.size → D.getD i false = true := by
  intro i
  induction i using Nat.strongRecOn with
  | _ i ih =>
    intro hi
    cases hd : D.getD i false with
    | true => rfl
    | false =>
      exfalso
      have ht : D.getD i true = false := by
        have hi' : i < D.size := by omega
        simp only [Array.getD_eq_getD_getElem?, Array.getElem?_eq_getElem hi', Option.getD_some] at hd ⊢
        exact hd
      have hm : i ∈ Region.ready .any ops D := by
        refine ready_mem.2 ⟨hi, ht, fun o ho e he hbe => ?_⟩
        have hk := List.all_eq_true.1 hb i (List.mem_range.2 hi)
        rw [ho] at hk
        have := (Array.all_eq_true_iff_forall_mem.1 hk) e he
        rw [hbe] at this
        simp at this
        exact ih e.on this (by omega)
      rw [h] at hm
      cases hm
def cnt (D : Array Bool) : Nat := D.toList.count true
theorem cnt_set {D : Array Bool} {i : Nat} (hi : i < D.size) (h : D.getD i true = false) : cnt (D.setIfInBounds i true) = cnt D + 1 := by
  unfold cnt
  rw [Array.toList_setIfInBounds]
  have hi' : i < D.toList.length := by simpa using hi
  have hv : D.toList[i] = false := by
    simp only [Array.getD_eq_getD_getElem?, Array.getElem?_eq_getElem hi, Option.getD_some] at h
    simpa using h
  rw [List.count_set (h := hi')]
  simp [hv]
theorem all_of_cnt {D : Array Bool} (h : D.size ≤ cnt D) : ∀ i, i < D.size → D.getD i false = true := by
  intro i hi
  unfold cnt at h
  have h1 : D.toList.count true = D.toList.length := Nat.le_antisymm List.count_le_length (by simpa using h)
  have h2 := List.count_eq_length.1 h1
  have hm : D[i] ∈ D.toList := by simp
  simp only [Array.getD_eq_getD_getElem?, Array.getElem?_eq_getElem hi, Option.getD_some]
  exact (h2 _ hm).symm
theorem wpAny_of_inv (hb : backOK ops = true) (I : Array Bool → Act → World → Prop)
    (hstep : ∀ D a w i o, D.size = ops.size → I D a w → ops[i]? = some o → D.getD i true = false → readyAt ops D i → wpOp P ops Q i (I (D.setIfInBounds i true)) a w)
    (hend : ∀ D a w, D.size = ops.size → (∀ i, i < ops.size → D.getD i false = true) → I D a w → Q .normal a w) :
    ∀ (fuel : Nat) (D : Array Bool) (a : Act) (w : World), D.size = ops.size → ops.size ≤ cnt D + fuel → I D a w → wpAny P .any ops Q fuel D a w := by
  intro fuel
  induction fuel with
  | zero =>
    intro D a w hs hc hI
    have hall := all_of_cnt (D := D) (by omega)
    refine ⟨?_, hend D a w hs (fun i hi => hall i (by omega)) hI⟩
    refine List.eq_nil_iff_forall_not_mem.2 fun i hi => ?_
    obtain ⟨h1, h2, _⟩ := ready_mem.1 hi
    have h3 := hall i (by omega)
    have hi' : i < D.size := by omega
    simp only [Array.getD_eq_getD_getElem?, Array.getElem?_eq_getElem hi', Option.getD_some] at h2 h3
    rw [h2] at h3
    cases h3
  | succ fuel ih =>
    intro D a w hs hc hI
    refine ⟨fun hn => hend D a w hs (ready_nil hb hs hn) hI, fun i hi => ?_⟩
    obtain ⟨h1, h2, h3⟩ := ready_mem.1 hi
    have ho : ops[i]? = some ops[i] := Array.getElem?_eq_getElem h1
    refine wpOp_mono (fun a' w' hI' => ?_) (hstep D a w i _ hs hI ho h2 h3)
    exact ih _ a' w' (by simpa using hs) (by rw [cnt_set (by omega) h2]; omega) hI'
theorem wpOps_of_inv (hb : backOK ops = true) (I : Array Bool → Act → World → Prop)
    (hstep : ∀ D a w i o, D.size = ops.size → I D a w → ops[i]? = some o → D.getD i true = false → readyAt ops D i → wpOp P ops Q i (I (D.setIfInBounds i true)) a w)
    (hend : ∀ D a w, D.size = ops.size → (∀ i, i < ops.size → D.getD i false = true) → I D a w → Q .normal a w) :
    ∀ (m k : Nat) (D : Array Bool) (a : Act) (w : World), k + m = ops.size → D.size = ops.size → (∀ i, i < ops.size → (D.getD i false = true ↔ i < k)) → I D a w → wpOps P ops Q (List.range' k m) a w := by
  intro m
  induction m with
  | zero =>
    intro k D a w hk hs hd hI
    exact hend D a w hs (fun i hi => (hd i hi).2 (by omega)) hI
  | succ m ih =>
    intro k D a w hk hs hd hI
    rw [List.range'_succ, wpOps_cons]
    have hlt : k < ops.size := by omega
    have hlt' : k < D.size := by omega
    have hf : D.getD k false = false := by
      cases h : D.getD k false with
      | false => rfl
      | true => exact absurd ((hd k hlt).1 h) (by omega)
    have hf' : D.getD k true = false := by
      simp only [Array.getD_eq_getD_getElem?, Array.getElem?_eq_getElem hlt', Option.getD_some] at hf ⊢
      exact hf
    have ho : ops[k]? = some ops[k] := Array.getElem?_eq_getElem hlt
    refine wpOp_mono (fun a' w' hI' => ?_) (hstep D a w k _ hs hI ho hf' (fun o ho' e he hbe => ?_))
    · refine ih (k + 1) _ a' w' (by omega) (by simpa using hs) (fun i hi => ?_) hI'
      have hi' : i < D.size := by omega
      rw [Array.getD_eq_getD_getElem?, Array.getElem?_setIfInBounds]
      by_cases hik : k = i
      · subst hik; simp [hlt']
      · rw [if_neg hik, ← Array.getD_eq_getD_getElem?, hd i hi]; omega
    · have hk' := List.all_eq_true.1 hb k (List.mem_range.2 hlt)
      rw [ho'] at hk'
      have := (Array.all_eq_true_iff_forall_mem.1 hk') e he
      rw [hbe] at this
      simp at this
      exact (hd e.on (by omega)).2 this
theorem wp_region_inv {id : Nat} {dr : Bool} {a : Act} {w : World} (hm : P.follows .mixedOrders = true) (hb : backOK ops = true) (I : Array Bool → Act → World → Prop)
    (h0 : ∀ w', (w' = w ∨ w' = w.drew) → I (Array.replicate ops.size false) a w')
    (hstep : ∀ D a w i o, D.size = ops.size → I D a w → ops[i]? = some o → D.getD i true = false → readyAt ops D i → wpOp P ops Q i (I (D.setIfInBounds i true)) a w)
    (hend : ∀ D a w, D.size = ops.size → (∀ i, i < ops.size → D.getD i false = true) → I D a w → Q .normal a w) :
    (Code.region id ops dr).wp P Q a w := by
  cases dr with
  | true =>
    refine wp_region_any hm (wpAny_of_inv hb I hstep hend _ _ _ _ (by simp) (by omega) (h0 _ (.inr rfl)))
  | false =>
    refine wp_region ?_
    rw [List.range_eq_range']
    refine wpOps_of_inv hb I hstep hend ops.size 0 _ _ _ (by omega) (by simp) (fun i hi => ?_) (h0 _ (.inl rfl))
    simp [hi]
end
end Go.Vc
