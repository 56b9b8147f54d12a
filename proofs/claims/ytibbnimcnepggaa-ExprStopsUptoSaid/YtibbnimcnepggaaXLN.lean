/- NULL on one side, in plain terms. No condition. -/
import Derived.Test.YtibbnimcnepggaaXLO
set_option maxRecDepth 20000
namespace Go.Proofs.Ytibbnimcnepggaa
open Go Go.Vc
abbrev nullE : Ex := .mk 1 0 0 ⟨#[]⟩ ⟨#[]⟩ ⟨#[]⟩ 0 []
abbrev kOf (op : Int) : Int := IntKind.i64.wrap (5 + IntKind.i64.wrap (op.tmod 11))
theorem kOf_eq {op : Int} (ho : 0 ≤ op ∧ op < 256) : kOf op = 5 + op.tmod 11 ∧ 0 ≤ op.tmod 11 ∧ op.tmod 11 ≤ 10 := by
  unfold kOf
  rw [Int.tmod_eq_emod_of_nonneg ho.1]
  simp only [w64]
  omega
theorem rf_null (vals : List V3) : refF vals nullE = (zero3, 0) := by
  rw [refF]
  simp [refTopF, ok_eq, okF, seq_refl, zero3]
theorem rng_null : exRng nullE := by
  rw [exRng, exsRng]
  exact ⟨o64, z64, z64, z64, trivial⟩
theorem null_side {k : Int} (hk : 5 ≤ k ∧ k ≤ 15) (r : V3 × Int) (b : Bool) (hr : r.2 = 0 → OkV r.1) : (if b then refTwoF k r (zero3, 0) else refTwoF k (zero3, 0) r) = if r.2 ≠ 0 then (zero3, r.2) else if k ≤ 9 ∧ 1 < r.1.k then (zero3, 33) else (zero3, 0) := by
  by_cases h0 : r.2 = 0
  · have hok := ok_kind (hr h0)
    by_cases h9 : k ≤ 9
    · rw [two_num h9, two_num h9]
      simp only [h0, ne_eq, not_true_eq_false, if_false, zk, true_and, or_true, true_or, if_true, h9, true_and, not_false_eq_true, false_and, or_false, false_or]
      by_cases h1 : 1 < r.1.k
      · have : r.1.k ≠ 0 ∧ r.1.k ≠ 1 := by omega
        simp [this, h1]
      · have : ¬ (r.1.k ≠ 0 ∧ r.1.k ≠ 1) := by omega
        simp only [ne_eq] at this
        simp [this, h1]
    · rw [two_cmp (by omega), two_cmp (by omega)]
      simp [h0, h9, zk]
  · by_cases h9 : k ≤ 9
    · rw [two_num h9, two_num h9]
      simp [h0]
    · rw [two_cmp (by omega), two_cmp (by omega)]
      simp [h0]
variable {vals : List V3} {x : Ex} {op : Int}
theorem ev_side (hv : ∀ v ∈ vals, v.rng) (hx : exRng x) (ho : 0 ≤ op ∧ op < 256) (b : Bool) : evalF vals (nodeE (kOf op) (if b then [x, nullE] else [nullE, x])) = if (evalF vals x).2 ≠ 0 then (zero3, (evalF vals x).2) else if op.tmod 11 < 5 ∧ 1 < (evalF vals x).1.k then (zero3, 33) else (zero3, 0) := by
  obtain ⟨hk, h0, h1⟩ := kOf_eq ho
  rw [eval_ref hv hx]
  have hs := null_side (k := kOf op) (by omega) (refF vals x) b (fun h => ((find_ref hv x hx).1 h).2)
  have hc : (kOf op ≤ 9 ∧ 1 < (refF vals x).1.k) = (op.tmod 11 < 5 ∧ 1 < (refF vals x).1.k) := by rw [hk]; apply propext; omega
  simp only [hc] at hs
  rw [← hs]
  cases b
  · simp only [Bool.false_eq_true, if_false]
    rw [eval_ref hv (rng_2 (by omega) rng_null hx), rf_two _ _ _ (by omega), rf_null]
  · simp only [if_true]
    rw [eval_ref hv (rng_2 (by omega) hx rng_null), rf_two _ _ _ (by omega), rf_null]
theorem law_null1 {w : V3 × Int} {b : Bool} (hv : ∀ v ∈ vals, v.rng) (hx : exRng x) (ho : 0 ≤ op ∧ op < 256) (hw : w = evalF vals (nodeE (kOf op) (if b then [x, nullE] else [nullE, x]))) (h1 : ((evalF vals x).2 != 0) = true) :
    (w.2 == (evalF vals x).2 && veq w.1.k w.1.n w.1.s 0 0 ⟨#[]⟩) = true := by
  subst hw
  rw [ev_side hv hx ho b, if_pos (by simpa using h1)]
  simp [veq, zero3, seq_refl]
theorem law_null2 {w : V3 × Int} {b : Bool} (hv : ∀ v ∈ vals, v.rng) (hx : exRng x) (ho : 0 ≤ op ∧ op < 256) (hw : w = evalF vals (nodeE (kOf op) (if b then [x, nullE] else [nullE, x]))) (h1 : ((evalF vals x).2 != 0) = false) (h2 : (w.2 != 0) = true) :
    (w.2 == 33 && decide (op.tmod 11 < 5) && decide (1 < (evalF vals x).1.k)) = true := by
  subst hw
  rw [ev_side hv hx ho b, if_neg (by simpa using h1)] at h2 ⊢
  by_cases h : op.tmod 11 < 5 ∧ 1 < (evalF vals x).1.k
  · rw [if_pos h]; simp [h]
  · rw [if_neg h] at h2; simp at h2
theorem law_null3 {w : V3 × Int} {b : Bool} (hv : ∀ v ∈ vals, v.rng) (hx : exRng x) (ho : 0 ≤ op ∧ op < 256) (hw : w = evalF vals (nodeE (kOf op) (if b then [x, nullE] else [nullE, x]))) (h1 : ((evalF vals x).2 != 0) = false) (h2 : (w.2 != 0) = false) :
    (veq w.1.k w.1.n w.1.s 0 0 ⟨#[]⟩ && (evalF vals (nodeE 18 [x])).2 == 0 && (evalF vals (nodeE 19 [x])).2 == 0 && (evalF vals (nodeE 18 [x])).1.k == 2 && (evalF vals (nodeE 19 [x])).1.k == 2 &&
      IntKind.i64.wrap ((evalF vals (nodeE 18 [x])).1.n + (evalF vals (nodeE 19 [x])).1.n) == 1 && ((evalF vals (nodeE 18 [x])).1.n == 1) == ((evalF vals x).1.k == 0)) = true := by
  subst hw
  rw [ev_side hv hx ho b, if_neg (by simpa using h1)] at h2 ⊢
  have hw : (if op.tmod 11 < 5 ∧ 1 < (evalF vals x).1.k then ((zero3, 33) : V3 × Int) else (zero3, 0)) = (zero3, 0) := by
    by_cases h : op.tmod 11 < 5 ∧ 1 < (evalF vals x).1.k
    · rw [if_pos h] at h2; simp at h2
    · rw [if_neg h]
  rw [hw, eval_ref hv (rng_1 (k := 18) (by omega) hx), eval_ref hv (rng_1 (k := 19) (by omega) hx), rf_one vals x (k := 18) (by omega), rf_one vals x (k := 19) (by omega)]
  have h0 : (refF vals x).2 = 0 := by rw [eval_ref hv hx] at h1; simpa using h1
  rw [eval_ref hv hx]
  obtain ⟨v, e⟩ : ∃ v, refF vals x = (v, 0) := ⟨(refF vals x).1, Prod.ext rfl h0⟩
  rw [e]
  rw [refOne0, refOne0]
  by_cases hk : v.k = 0
  · have : (v.k == 0) = true := by simp [hk]
    rw [this]
    simp [veq, zero3, seq_refl, truthF, truthN]
    decide
  · have : (v.k == 0) = false := by simp [hk]
    rw [this]
    simp [veq, zero3, seq_refl, truthF, truthN]
    decide
end Go.Proofs.Ytibbnimcnepggaa
