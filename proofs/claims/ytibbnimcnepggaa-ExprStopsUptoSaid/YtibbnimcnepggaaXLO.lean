/- The order of expressions, in plain terms. No condition. -/
import Derived.Test.YtibbnimcnepggaaXL
set_option maxRecDepth 20000
namespace Go.Proofs.Ytibbnimcnepggaa
open Go Go.Vc
theorem bytesLess_asymm : ∀ x y : List UInt8, Op.bytesLess x y = true → Op.bytesLess y x = false
  | _, [], h => by simp [Op.bytesLess] at h
  | [], _ :: _, _ => by simp [Op.bytesLess]
  | a :: x, b :: y, h => by
    simp only [Op.bytesLess, Bool.or_eq_true, decide_eq_true_eq, Bool.and_eq_true, beq_iff_eq] at h
    simp only [Op.bytesLess, Bool.or_eq_false_iff, decide_eq_false_iff_not, Bool.and_eq_false_iff, beq_eq_false_iff_ne]
    rcases h with h | ⟨rfl, h⟩
    · exact ⟨UInt8.lt_asymm h, Or.inl fun e => by subst e; exact absurd h (UInt8.lt_irrefl _)⟩
    · exact ⟨UInt8.lt_irrefl _, Or.inr (bytesLess_asymm x y h)⟩
theorem bytesLess_total : ∀ x y : List UInt8, Op.bytesLess x y = false → x ≠ y → Op.bytesLess y x = true
  | [], [], _, h => absurd rfl h
  | _ :: _, [], _, _ => by simp [Op.bytesLess]
  | [], _ :: _, h, _ => by simp [Op.bytesLess] at h
  | a :: x, b :: y, h, hn => by
    simp only [Op.bytesLess, Bool.or_eq_false_iff, decide_eq_false_iff_not, Bool.and_eq_false_iff, beq_eq_false_iff_ne] at h
    simp only [Op.bytesLess, Bool.or_eq_true, decide_eq_true_eq, Bool.and_eq_true, beq_iff_eq]
    by_cases he : a = b
    · subst he
      right
      exact ⟨rfl, bytesLess_total x y (by rcases h.2 with h | h; exact absurd rfl h; exact h) (fun e => hn (by rw [e]))⟩
    · left
      rcases UInt8.lt_or_lt_of_ne he with h1 | h1
      · exact absurd h1 h.1
      · exact h1
theorem seq_comm (s t : ByteArray) : seq s t = seq t s := by
  unfold seq
  exact Bool.eq_iff_iff.2 ⟨fun h => by simpa using (by simpa using h : s.toList = t.toList).symm, fun h => by simpa using (by simpa using h : t.toList = s.toList).symm⟩
theorem slt_flip {s t : ByteArray} (h : seq s t = false) : slt t s = !slt s t := by
  cases hl : slt s t
  · exact bytesLess_total _ _ hl (by simpa [seq] using h)
  · exact bytesLess_asymm _ _ hl
theorem cmp_flip (k1 n1 : Int) (s1 : ByteArray) (k2 n2 : Int) (s2 : ByteArray) : cmpRF k2 n2 s2 k1 n1 s1 = - cmpRF k1 n1 s1 k2 n2 s2 := by
  rw [← vcmp_eq, ← vcmp_eq]
  unfold vcmpF orL cmpF
  by_cases hk : k1 = k2
  · subst hk
    by_cases hn : n1 = n2
    · subst hn
      cases hq : seq s1 s2
      · have hq' : seq s2 s1 = false := by rw [seq_comm]; exact hq
        have hf := slt_flip hq
        cases hl : slt s1 s2 <;> rw [hl] at hf <;> simp [orL, scmpF, hq, hq', hl, hf]
      · have hq' : seq s2 s1 = true := by rw [seq_comm]; exact hq
        have e := seq_eq hq
        subst e
        simp [orL, scmpF, seq_refl, slt_irrefl]
    · by_cases hl : n1 < n2
      · have : ¬ n2 < n1 := by omega
        simp [orL, hl, this]
      · have : n2 < n1 := by omega
        simp [orL, hl, this]
  · by_cases hl : k1 < k2
    · have : ¬ k2 < k1 := by omega
      simp [orL, hl, this]
    · have : k2 < k1 := by omega
      simp [orL, hl, this]
theorem two_cmp {k : Int} (hk : 10 ≤ k ∧ k ≤ 15) (r s : V3 × Int) : refTwoF k r s = if r.2 ≠ 0 then (zero3, r.2) else if s.2 ≠ 0 then (zero3, s.2) else if r.1.k = 0 ∨ s.1.k = 0 then (zero3, 0) else if r.1.k ≠ s.1.k then (zero3, 33) else (truthF (opsF k (cmpRF r.1.k r.1.n r.1.s s.1.k s.1.n s.1.s)), 0) := by
  unfold refTwoF
  have h9 : decide (k ≤ 9) = false := by simp; omega
  simp only [h9, Bool.false_eq_true, if_false, bne_iff_ne, Bool.or_eq_true, beq_iff_eq]
def sameP (X Y : V3 × Int) : Bool := ((X.2 != 0 || Y.2 != 0) || veqV X.1 Y.1)
theorem sameP_refl (X : V3 × Int) : sameP X X = true := by simp [sameP, veqV_refl]
theorem sameP_err {X Y : V3 × Int} (h : X.2 ≠ 0) : sameP X Y = true := by simp [sameP, h]
theorem sameP_err' {X Y : V3 × Int} (h : Y.2 ≠ 0) : sameP X Y = true := by simp [sameP, h]
theorem cmp_swap {k l : Int} (hk : 10 ≤ k ∧ k ≤ 15) (hl : 10 ≤ l ∧ l ≤ 15) (hf : ∀ c, opsF l (-c) = opsF k c) (r s : V3 × Int) : sameP (refTwoF k r s) (refTwoF l s r) = true := by
  rw [two_cmp hk, two_cmp hl]
  by_cases h1 : r.2 = 0
  · by_cases h2 : s.2 = 0
    · by_cases h3 : r.1.k = 0 ∨ s.1.k = 0
      · rw [if_neg (by simp [h1]), if_neg (by simp [h2]), if_pos h3, if_neg (by simp [h2]), if_neg (by simp [h1]), if_pos h3.symm]
        exact sameP_refl _
      · by_cases h4 : r.1.k = s.1.k
        · rw [if_neg (by simp [h1]), if_neg (by simp [h2]), if_neg h3, if_neg (by simp [h4]), if_neg (by simp [h2]), if_neg (by simp [h1]), if_neg (fun h => h3 h.symm), if_neg (by simp [h4]), cmp_flip r.1.k r.1.n r.1.s s.1.k s.1.n s.1.s, hf]
          exact sameP_refl _
        · rw [if_neg (by simp [h1]), if_neg (by simp [h2]), if_neg h3, if_pos h4]
          exact sameP_err (by decide)
    · rw [if_neg (by simp [h1]), if_pos h2]
      exact sameP_err h2
  · rw [if_pos h1]
    exact sameP_err h1
theorem not_truth (b : Bool) : refOneF 4 (truthF b, 0) = (truthF (!b), 0) := by cases b <;> rfl
theorem cmp_not {k l : Int} (hk : 10 ≤ k ∧ k ≤ 15) (hl : 10 ≤ l ∧ l ≤ 15) (hf : ∀ c, opsF k c = !opsF l c) (r s : V3 × Int) : sameP (refTwoF k r s) (refOneF 4 (refTwoF l r s)) = true := by
  rw [two_cmp hk, two_cmp hl]
  by_cases h1 : r.2 = 0
  · by_cases h2 : s.2 = 0
    · by_cases h3 : r.1.k = 0 ∨ s.1.k = 0
      · rw [if_neg (by simp [h1]), if_neg (by simp [h2]), if_pos h3, if_neg (by simp [h1]), if_neg (by simp [h2]), if_pos h3]
        exact sameP_refl _
      · by_cases h4 : r.1.k = s.1.k
        · rw [if_neg (by simp [h1]), if_neg (by simp [h2]), if_neg h3, if_neg (by simp [h4]), if_neg (by simp [h1]), if_neg (by simp [h2]), if_neg h3, if_neg (by simp [h4]), not_truth, hf]
          exact sameP_refl _
        · rw [if_neg (by simp [h1]), if_neg (by simp [h2]), if_neg h3, if_pos h4]
          exact sameP_err (by decide)
    · rw [if_neg (by simp [h1]), if_pos h2]
      exact sameP_err h2
  · rw [if_pos h1]
    exact sameP_err h1
theorem law_ord1 {vals : List V3} (hv : ∀ v ∈ vals, v.rng) {a b : Ex} (ha : exRng a) (hb : exRng b) :
    (!sameF vals (nodeE 12 [a, b]) (nodeE 14 [b, a]) || !sameF vals (nodeE 13 [a, b]) (nodeE 15 [b, a]) || !sameF vals (nodeE 11 [a, b]) (nodeE 4 [nodeE 10 [a, b]]) || !sameF vals (nodeE 13 [a, b]) (nodeE 4 [nodeE 14 [a, b]])) = false := by
  rw [same_ref hv (rng_2 (by omega) ha hb) (rng_2 (by omega) hb ha), same_ref hv (rng_2 (by omega) ha hb) (rng_2 (by omega) hb ha), same_ref hv (rng_2 (by omega) ha hb) (rng_1 (by omega) (rng_2 (by omega) ha hb)), same_ref hv (rng_2 (by omega) ha hb) (rng_1 (by omega) (rng_2 (by omega) ha hb))]
  rw [rf_two vals a b (k := 12) (by omega), rf_two vals b a (k := 14) (by omega), rf_two vals a b (k := 13) (by omega), rf_two vals b a (k := 15) (by omega), rf_two vals a b (k := 11) (by omega), rf_one vals _ (k := 4) (by omega), rf_two vals a b (k := 10) (by omega), rf_one vals _ (k := 4) (by omega), rf_two vals a b (k := 14) (by omega)]
  have c1 := cmp_swap (k := 12) (l := 14) (by omega) (by omega) (fun c => by show decide (0 < -c) = decide (c < 0); rw [decide_eq_decide]; omega) (refF vals a) (refF vals b)
  have c2 := cmp_swap (k := 13) (l := 15) (by omega) (by omega) (fun c => by show decide (0 ≤ -c) = decide (c ≤ 0); rw [decide_eq_decide]; omega) (refF vals a) (refF vals b)
  have c3 := cmp_not (k := 11) (l := 10) (by omega) (by omega) (fun c => rfl) (refF vals a) (refF vals b)
  have c4 := cmp_not (k := 13) (l := 14) (by omega) (by omega) (fun c => by show decide (c ≤ 0) = !decide (0 < c); rw [← decide_not, decide_eq_decide]; omega) (refF vals a) (refF vals b)
  unfold sameP at c1 c2 c3 c4
  rw [c1, c2, c3, c4]
  rfl
theorem two_num {k : Int} (hk : k ≤ 9) (r s : V3 × Int) : refTwoF k r s = if r.2 ≠ 0 then (zero3, r.2) else if s.2 ≠ 0 then (zero3, s.2) else if ((r.1.k ≠ 0 ∧ r.1.k ≠ 1) ∨ (s.1.k ≠ 0 ∧ s.1.k ≠ 1)) then (zero3, 33) else if r.1.k = 0 ∨ s.1.k = 0 then (zero3, 0) else refNumF k r.1.n s.1.n := by
  unfold refTwoF
  have h9 : decide (k ≤ 9) = true := by simp [hk]
  simp only [h9, if_true, bne_iff_ne, Bool.or_eq_true, beq_iff_eq, Bool.and_eq_true]
theorem num_swap {k : Int} (hk : k ≤ 9) (r s : V3 × Int) (h : refNumF k r.1.n s.1.n = refNumF k s.1.n r.1.n) : sameP (refTwoF k r s) (refTwoF k s r) = true := by
  rw [two_num hk, two_num hk]
  by_cases h1 : r.2 = 0
  · by_cases h2 : s.2 = 0
    · by_cases h3 : (r.1.k ≠ 0 ∧ r.1.k ≠ 1) ∨ (s.1.k ≠ 0 ∧ s.1.k ≠ 1)
      · rw [if_neg (by simp [h1]), if_neg (by simp [h2]), if_pos h3]
        exact sameP_err (by decide)
      · by_cases h4 : r.1.k = 0 ∨ s.1.k = 0
        · rw [if_neg (by simp [h1]), if_neg (by simp [h2]), if_neg h3, if_pos h4, if_neg (by simp [h2]), if_neg (by simp [h1]), if_neg (fun h => h3 h.symm), if_pos h4.symm]
          exact sameP_refl _
        · rw [if_neg (by simp [h1]), if_neg (by simp [h2]), if_neg h3, if_neg h4, if_neg (by simp [h2]), if_neg (by simp [h1]), if_neg (fun h => h3 h.symm), if_neg (fun h => h4 h.symm), h]
          exact sameP_refl _
    · rw [if_neg (by simp [h1]), if_pos h2]
      exact sameP_err h2
  · rw [if_pos h1]
    exact sameP_err h1
theorem add_comm' {a b : Int} (ha : I64 a) (hb : I64 b) : refNumF 5 a b = refNumF 5 b a := by
  have := num_add hb ha
  rw [Int.add_comm] at this
  exact (num_add ha hb).fin this
theorem mul_comm' {a b : Int} (ha : I64 a) (hb : I64 b) : refNumF 7 a b = refNumF 7 b a := by
  have := num_mul hb ha
  rw [Int.mul_comm] at this
  exact (num_mul ha hb).fin this
theorem num_of {r : Int × Bool} {z : Int} (h : Num r z) : finR r.1 r.2 = if -9223372036854775808 ≤ z ∧ z < 9223372036854775808 then (⟨1, z, ⟨#[]⟩⟩, 0) else (zero3, 35) := by
  by_cases hz : I64 z
  · have h2 := h.1.2 hz
    rw [h2, h.2 h2, if_pos (show -9223372036854775808 ≤ z ∧ z < 9223372036854775808 from hz)]
    rfl
  · have h2 : r.2 = false := by
      cases hr : r.2
      · rfl
      · exact absurd (h.1.1 hr) hz
    rw [h2, if_neg (show ¬ (-9223372036854775808 ≤ z ∧ z < 9223372036854775808) from hz)]
    rfl
theorem add_of {a b : Int} (ha : I64 a) (hb : I64 b) : refNumF 5 a b = if -9223372036854775808 ≤ a + b ∧ a + b < 9223372036854775808 then (⟨1, a + b, ⟨#[]⟩⟩, 0) else (zero3, 35) := num_of (num_add ha hb)
theorem sub_of {a b : Int} (ha : I64 a) (hb : I64 b) : refNumF 6 a b = if -9223372036854775808 ≤ a - b ∧ a - b < 9223372036854775808 then (⟨1, a - b, ⟨#[]⟩⟩, 0) else (zero3, 35) := by
  rw [← number_eq ha hb (by omega)]
  exact num_of (num_sub' ha hb)
theorem sub_add {r s : V3 × Int} (hr : r.1.rng) (hs : s.1.rng) (hrk : r.2 = 0 → OkV r.1) (hsk : s.2 = 0 → OkV s.1) : sameP (refTwoF 6 (refTwoF 5 r s) s) (refTwoF 5 r (refTwoF 6 s s)) = true := by
  rw [two_num (k := 5) (by omega) r s, two_num (k := 6) (by omega) s s]
  by_cases h1 : r.2 = 0
  · by_cases h2 : s.2 = 0
    · by_cases h3 : (r.1.k ≠ 0 ∧ r.1.k ≠ 1) ∨ (s.1.k ≠ 0 ∧ s.1.k ≠ 1)
      · rw [if_neg (by simp [h1]), if_neg (by simp [h2]), if_pos h3, two_num (k := 6) (by omega), if_pos (by decide)]
        exact sameP_err (by decide)
      · by_cases h4 : r.1.k = 0 ∨ s.1.k = 0
        · rw [if_neg (by simp [h1]), if_neg (by simp [h2]), if_neg h3, if_pos h4]
          have hs3 : ¬ ((s.1.k ≠ 0 ∧ s.1.k ≠ 1) ∨ (s.1.k ≠ 0 ∧ s.1.k ≠ 1)) := by omega
          have e1 : refTwoF 6 (zero3, 0) s = (zero3, 0) := by
            rw [two_num (by omega), if_neg (by simp), if_neg (by simp [h2]), if_neg (by simp only [zk]; omega), if_pos (Or.inl (show ((zero3, (0 : Int)) : V3 × Int).1.k = 0 from rfl))]
          rw [e1, if_neg (by simp [h2]), if_neg (by simp [h2]), if_neg hs3]
          by_cases h5 : s.1.k = 0
          · rw [if_pos (Or.inl h5), two_num (by omega), if_neg (by simp [h1]), if_neg (by simp), if_neg (by simp only [zk]; omega), if_pos (Or.inr (show ((zero3, (0 : Int)) : V3 × Int).1.k = 0 from rfl))]
            exact sameP_refl _
          · rw [if_neg (by omega), sub_of hs.2 hs.2, Int.sub_self, if_pos (by omega), two_num (by omega), if_neg (by simp [h1]), if_neg (by simp), if_neg (by simp only; omega), if_pos (by omega)]
            exact sameP_refl _
        · rw [if_neg (by simp [h1]), if_neg (by simp [h2]), if_neg h3, if_neg h4, add_of hr.2 hs.2]
          have hs3 : ¬ ((s.1.k ≠ 0 ∧ s.1.k ≠ 1) ∨ (s.1.k ≠ 0 ∧ s.1.k ≠ 1)) := by omega
          have e2 : (if s.2 ≠ 0 then (zero3, s.2) else if s.2 ≠ 0 then (zero3, s.2) else if ((s.1.k ≠ 0 ∧ s.1.k ≠ 1) ∨ (s.1.k ≠ 0 ∧ s.1.k ≠ 1)) then (zero3, 33) else if s.1.k = 0 ∨ s.1.k = 0 then (zero3, 0) else refNumF 6 s.1.n s.1.n) = ((⟨1, 0, ⟨#[]⟩⟩, 0) : V3 × Int) := by
            rw [if_neg (by simp [h2]), if_neg (by simp [h2]), if_neg hs3, if_neg (by omega), sub_of hs.2 hs.2, Int.sub_self, if_pos (by omega)]
          rw [e2]
          by_cases h6 : -9223372036854775808 ≤ r.1.n + s.1.n ∧ r.1.n + s.1.n < 9223372036854775808
          · rw [if_pos h6, two_num (k := 6) (by omega), if_neg (by simp), if_neg (by simp [h2]), if_neg (by simp only; omega), if_neg (by simp only; omega), sub_of h6 hs.2]
            have e : r.1.n + s.1.n - s.1.n = r.1.n := by omega
            have hr2 := hr.2
            unfold I64 at hr2
            simp only [e]
            rw [if_pos hr2, two_num (k := 5) (by omega), if_neg (by simp [h1]), if_neg (by simp), if_neg (by simp only; omega), if_neg (by simp only; omega), add_of hr.2 z64]
            simp only [Int.add_zero]
            rw [if_pos hr2]
            exact sameP_refl _
          · rw [if_neg h6, two_num (k := 6) (by omega), if_pos (by decide)]
            exact sameP_err (by decide)
    · rw [if_neg (by simp [h1]), if_pos h2, two_num (k := 6) (by omega), if_pos h2]
      exact sameP_err h2
  · rw [if_pos h1, two_num (k := 6) (by omega), if_pos h1]
    exact sameP_err h1
theorem law_ord2 {vals : List V3} (hv : ∀ v ∈ vals, v.rng) {a b : Ex} (ha : exRng a) (hb : exRng b) :
    (!sameF vals (nodeE 5 [a, b]) (nodeE 5 [b, a]) || !sameF vals (nodeE 7 [a, b]) (nodeE 7 [b, a]) || !sameF vals (nodeE 6 [nodeE 5 [a, b], b]) (nodeE 5 [a, nodeE 6 [b, b]])) = false := by
  rw [same_ref hv (rng_2 (by omega) ha hb) (rng_2 (by omega) hb ha), same_ref hv (rng_2 (by omega) ha hb) (rng_2 (by omega) hb ha), same_ref hv (rng_2 (by omega) (rng_2 (by omega) ha hb) hb) (rng_2 (by omega) ha (rng_2 (by omega) hb hb))]
  simp only [rf_two vals _ _ (show (5 : Int) ≤ 5 ∧ (5 : Int) ≤ 15 by omega), rf_two vals _ _ (show (5 : Int) ≤ 7 ∧ (7 : Int) ≤ 15 by omega), rf_two vals _ _ (show (5 : Int) ≤ 6 ∧ (6 : Int) ≤ 15 by omega)]
  have ra := refF_rng hv a ha
  have rb := refF_rng hv b hb
  have oa := (find_ref hv a ha).1
  have ob := (find_ref hv b hb).1
  have c1 := num_swap (k := 5) (by omega) (refF vals a) (refF vals b) (add_comm' ra.2 rb.2)
  have c2 := num_swap (k := 7) (by omega) (refF vals a) (refF vals b) (mul_comm' ra.2 rb.2)
  have c3 := sub_add ra rb (fun h => (oa h).2) (fun h => (ob h).2)
  unfold sameP at c1 c2 c3
  rw [c1, c2, c3]
  rfl
def opk (i : Nat) : Int := [12, 10, 14].getD i 0
def hsF (vals : List V3) (a b : Ex) (i : Nat) : Bool × Int := holdsF (evalF vals (nodeE (opk i) [a, b]))
def cntF (vals : List V3) (a b : Ex) : Nat → Int
  | 0 => 0
  | i + 1 => cntF vals a b i + if (hsF vals a b i).1 then 1 else 0
theorem cnt_le (vals : List V3) (a b : Ex) : ∀ i, 0 ≤ cntF vals a b i ∧ cntF vals a b i ≤ i
  | 0 => ⟨Int.le_refl 0, Int.le_refl 0⟩
  | i + 1 => by
    have := cnt_le vals a b i
    unfold cntF
    split <;> omega
theorem hs_of {vals : List V3} (hv : ∀ v ∈ vals, v.rng) {a b : Ex} (ha : exRng a) (hb : exRng b) {i : Nat} (hi : i < 3) : hsF vals a b i = holdsF (refTwoF (opk i) (refF vals a) (refF vals b)) := by
  unfold hsF
  rcases (show i = 0 ∨ i = 1 ∨ i = 2 by omega) with rfl | rfl | rfl
  · rw [eval_ref hv (rng_2 (show -1000 ≤ opk 0 ∧ opk 0 ≤ 1000 by decide) ha hb), rf_two vals a b (show 5 ≤ opk 0 ∧ opk 0 ≤ 15 by decide)]
  · rw [eval_ref hv (rng_2 (show -1000 ≤ opk 1 ∧ opk 1 ≤ 1000 by decide) ha hb), rf_two vals a b (show 5 ≤ opk 1 ∧ opk 1 ≤ 15 by decide)]
  · rw [eval_ref hv (rng_2 (show -1000 ≤ opk 2 ∧ opk 2 ≤ 1000 by decide) ha hb), rf_two vals a b (show 5 ≤ opk 2 ∧ opk 2 ≤ 15 by decide)]
theorem holds_truth (b : Bool) : holdsF (truthF b, 0) = (b, 0) := by cases b <;> rfl
theorem law_ord3 {vals : List V3} (hv : ∀ v ∈ vals, v.rng) {a b : Ex} (ha : exRng a) (hb : exRng b) {i : Nat} (hi : i ≤ 3) (h3 : ¬ (i : Int) < 3) (he : ∀ j, j < i → (hsF vals a b j).2 = 0) :
    (cntF vals a b i == 1 || cntF vals a b i == 0 && ((evalF vals a).1.k == 0 || (evalF vals b).1.k == 0)) = true := by
  have h : i = 3 := by omega
  subst h
  have e0 := hs_of hv ha hb (i := 0) (by omega)
  have e1 := hs_of hv ha hb (i := 1) (by omega)
  have e2 := hs_of hv ha hb (i := 2) (by omega)
  have z0 := he 0 (by omega)
  rw [eval_ref hv ha, eval_ref hv hb]
  have hc : cntF vals a b 3 = (if (hsF vals a b 0).1 then 1 else 0) + (if (hsF vals a b 1).1 then 1 else 0) + (if (hsF vals a b 2).1 then 1 else 0) := by
    simp [cntF]
  rw [hc, e0, e1, e2]
  rw [e0] at z0
  rw [two_cmp (show 10 ≤ opk 0 ∧ opk 0 ≤ 15 by decide)] at z0 ⊢
  rw [two_cmp (show 10 ≤ opk 1 ∧ opk 1 ≤ 15 by decide), two_cmp (show 10 ≤ opk 2 ∧ opk 2 ≤ 15 by decide)]
  generalize refF vals a = r at *
  generalize refF vals b = s at *
  by_cases h1 : r.2 = 0
  · by_cases h2 : s.2 = 0
    · simp only [h1, h2, ne_eq, not_true_eq_false, if_false] at z0 ⊢
      by_cases h3 : r.1.k = 0 ∨ s.1.k = 0
      · simp only [h3, if_true]
        have : (r.1.k == 0 || s.1.k == 0) = true := by simpa using h3
        rw [this]
        rfl
      · simp only [h3, if_false] at z0 ⊢
        by_cases h4 : r.1.k = s.1.k
        · simp only [h4, not_true_eq_false, if_false, holds_truth]
          generalize cmpRF s.1.k r.1.n r.1.s s.1.k s.1.n s.1.s = c
          show ((if (decide (c < 0)) = true then (1 : Int) else 0) + (if (c == 0) = true then 1 else 0) + (if decide (0 < c) = true then 1 else 0) == 1 || _) = true
          rcases Int.lt_trichotomy c 0 with h | h | h
          · have : (c == 0) = false := by simp; omega
            have h' : ¬ 0 < c := by omega
            simp [h, this, h']
          · subst h; simp
          · have : (c == 0) = false := by simp; omega
            have h' : ¬ c < 0 := by omega
            simp [h, this, h']
        · simp only [h4, not_false_eq_true, if_true] at z0
          exact absurd z0 (by decide)
    · simp only [h1, ne_eq, not_true_eq_false, if_false, h2, not_false_eq_true, if_true] at z0
      simp [holdsF, h2] at z0
  · simp only [ne_eq, h1, not_false_eq_true, if_true] at z0
    simp [holdsF, h1] at z0
end Go.Proofs.Ytibbnimcnepggaa
