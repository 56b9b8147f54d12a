/- Arithmetic of both sides, in plain numbers. No condition. -/
import Derived.Test.YtibbnimcnepggaaXG
set_option maxRecDepth 20000
namespace Go.Proofs.Ytibbnimcnepggaa
open Go Go.Vc
theorem seq_refl (s : ByteArray) : seq s s = true := by simp [seq]
theorem seq_eq {s t : ByteArray} (h : seq s t = true) : s = t := by
  have h' : s.toList = t.toList := by simpa [seq] using h
  rw [ByteArray.toList_eq, ByteArray.toList_eq] at h'
  cases s
  cases t
  congr
  exact Array.ext' h'
theorem bytesLess_irrefl : ∀ l : List UInt8, Op.bytesLess l l = false
  | [] => rfl
  | a :: x => by simp [Op.bytesLess, bytesLess_irrefl x]
theorem slt_irrefl (s : ByteArray) : slt s s = false := bytesLess_irrefl _
theorem veqV_refl (a : V3) : veqV a a = true := by simp [veqV, veq, seq_refl]
theorem veqV_eq {a b : V3} (h : veqV a b = true) : a = b := by
  cases a
  cases b
  simp only [veqV, veq, Bool.and_eq_true, beq_iff_eq] at h
  obtain ⟨rfl, rfl, h⟩ := h
  rw [seq_eq h]
theorem ok_eq (k n : Int) (s : ByteArray) : ok1F k n s = okF k n s := by
  have hs : seq s ⟨#[]⟩ = true → (s.size : Int) ≤ 64 := fun h => by rw [seq_eq h]; decide
  unfold okF ok1F
  by_cases h0 : k = 0
  · subst h0
    cases h : seq s ⟨#[]⟩ <;> by_cases hn : n = 0 <;> simp_all
  · by_cases h1 : k = 1
    · subst h1
      cases h : seq s ⟨#[]⟩ <;> simp_all
    · by_cases h2 : k = 2
      · subst h2
        have hf : (n.fdiv 2 == 0) = (n == 0 || n == 1) := by
          rw [Int.fdiv_eq_ediv_of_nonneg _ (by omega)]
          by_cases h0 : n = 0
          · subst h0; rfl
          · by_cases h1 : n = 1
            · subst h1; rfl
            · have : n / 2 ≠ 0 := by omega
              rw [beq_eq_false_iff_ne.2 this, beq_eq_false_iff_ne.2 h0, beq_eq_false_iff_ne.2 h1]; rfl
        cases h : seq s ⟨#[]⟩ <;> by_cases hn : n = 0 <;> by_cases hn1 : n = 1 <;> simp_all
      · by_cases h3 : k = 3
        · subst h3
          by_cases hn : n = 0 <;> simp_all
        · have : (decide (k < 0) || decide (3 < k)) = true := by simp; omega
          simp [this, h0, h1, h2, h3]
theorem vcmp_eq (k1 n1 : Int) (s1 : ByteArray) (k2 n2 : Int) (s2 : ByteArray) : vcmpF k1 n1 s1 k2 n2 s2 = cmpRF k1 n1 s1 k2 n2 s2 := by
  unfold vcmpF cmpRF cmp1F veq orL cmpF
  by_cases hk : k1 = k2
  · subst hk
    by_cases hn : n1 = n2
    · subst hn
      cases hq : seq s1 s2
      · cases hl : slt s1 s2 <;> simp [orL, scmpF, hq, hl]
      · rw [seq_eq hq]
        simp [orL, scmpF, slt_irrefl, seq_refl]
    · by_cases hl : n1 < n2
      · simp [orL, hn, hl]
      · have : n2 < n1 := by omega
        simp [orL, hn, hl, this]
  · by_cases hl : k1 < k2
    · simp [orL, hk, hl]
    · have : k2 < k1 := by omega
      simp [orL, hk, hl, this]
theorem finR_eq {n m : Int} {p q : Bool} (h : p = q) (hn : p = true → n = m) : finR n p = finR m q := by
  subst h
  cases p
  · rfl
  · rw [hn rfl]
theorem fin_eq (n : Int) (p : Bool) : finF n p 0 = finR n p := rfl
theorem bool_eq {p q : Bool} (h : p = true ↔ q = true) : p = q := by cases p <;> cases q <;> simp_all
theorem signed_ok {u : Int} {g : Bool} (h0 : 0 ≤ u) (h1 : u < 18446744073709551616) : ((signedF u g).2 = true ↔ I64 (if g then -u else u)) ∧ ((signedF u g).2 = true → (signedF u g).1 = if g then -u else u) := by
  unfold signedF I64
  cases g
  · simp [w64]; omega
  · simp [w64]; omega
def Num (r : Int × Bool) (z : Int) : Prop := (r.2 = true ↔ I64 z) ∧ (r.2 = true → r.1 = z)
theorem Num.fin {r s : Int × Bool} {z : Int} (h : Num r z) (h' : Num s z) : finR r.1 r.2 = finR s.1 s.2 :=
  finR_eq (bool_eq (h.1.trans h'.1.symm)) fun e => (h.2 e).trans (h'.2 ((h'.1).2 (h.1.1 e))).symm
theorem num_signed {u : Int} {g : Bool} (h0 : 0 ≤ u) (h1 : u < 18446744073709551616) : Num (signedF u g) (if g then -u else u) := signed_ok h0 h1
theorem num_add {a b : Int} (ha : I64 a) (hb : I64 b) : Num (addF a b) (a + b) := by
  have ha' := ha
  have hb' := hb
  obtain ⟨a1, a2⟩ := ha
  obtain ⟨b1, b2⟩ := hb
  unfold addF
  rw [sizeF_eq ha', sizeF_eq hb']
  by_cases hs : decide (a < 0) = decide (b < 0)
  · rw [if_pos (by simp [hs])]
    split
    · rename_i h
      simp only [wu64, Bool.and_eq_true, decide_eq_true_eq] at h
      simp only [decide_eq_decide] at hs
      constructor
      · simp [I64]; omega
      · simp
    · rename_i h
      simp only [wu64, Bool.and_eq_true, decide_eq_true_eq] at h
      simp only [decide_eq_decide] at hs
      have e : IntKind.u64.wrap ((a.natAbs : Int) + b.natAbs) = (a.natAbs : Int) + b.natAbs := by rw [wu64]; omega
      rw [e]
      have := num_signed (u := (a.natAbs : Int) + b.natAbs) (g := decide (a < 0)) (by omega) (by omega)
      have e2 : (if decide (a < 0) = true then -((a.natAbs : Int) + b.natAbs) else (a.natAbs : Int) + b.natAbs) = a + b := by
        simp only [decide_eq_true_eq]
        split <;> omega
      rwa [e2] at this
  · rw [if_neg (by simp [hs])]
    simp only [decide_eq_decide] at hs
    constructor
    · simp [I64]; omega
    · simp only [w64]
      intro _
      omega
theorem num_add' {a b : Int} (ha : I64 a) (hb : I64 b) : Num (IntKind.i64.wrap (a + b), decide (a < IntKind.i64.wrap (a + b)) == decide (0 < b)) (a + b) := by
  obtain ⟨a1, a2⟩ := ha
  obtain ⟨b1, b2⟩ := hb
  unfold Num I64
  simp only [w64, beq_iff_eq, decide_eq_decide]
  constructor <;> omega
theorem num_sub' {a b : Int} (ha : I64 a) (hb : I64 b) : Num (IntKind.i64.wrap (a - b), decide (IntKind.i64.wrap (a - b) < a) == decide (0 < b)) (a - b) := by
  obtain ⟨a1, a2⟩ := ha
  obtain ⟨b1, b2⟩ := hb
  unfold Num I64
  simp only [w64, beq_iff_eq, decide_eq_decide]
  constructor <;> omega
theorem sg (a : Int) : (a < 0 ∧ a = -(a.natAbs : Int)) ∨ (¬ a < 0 ∧ a = (a.natAbs : Int)) := by omega
theorem num_mul {a b : Int} (ha : I64 a) (hb : I64 b) : Num (mulF a b) (a * b) := by
  unfold mulF
  rw [sizeF_eq ha, sizeF_eq hb]
  obtain ⟨a1, a2⟩ := ha
  obtain ⟨b1, b2⟩ := hb
  have hA : a.natAbs ≤ 9223372036854775808 := by omega
  have hB : b.natAbs ≤ 9223372036854775808 := by omega
  have hz : a * b = if (!(decide (a < 0) == decide (b < 0))) = true then -((a.natAbs * b.natAbs : Nat) : Int) else ((a.natAbs * b.natAbs : Nat) : Int) := by
    rw [Int.natCast_mul]
    rcases sg a with ⟨h1, h2⟩ | ⟨h1, h2⟩ <;> rcases sg b with ⟨h3, h4⟩ | ⟨h3, h4⟩ <;> simp only [h1, h3, decide_true, decide_false] <;> conv => lhs; rw [h2, h4]
    · simp only [Int.neg_mul_neg]; rfl
    · simp only [Int.neg_mul]; rfl
    · simp only [Int.mul_neg]; rfl
    · rfl
  rw [hz]
  have hq : IntKind.u64.wrap ((9223372036854775808 : Int).tdiv (b.natAbs : Int)) = ((9223372036854775808 / b.natAbs : Nat) : Int) := by
    have : (9223372036854775808 : Int).tdiv (b.natAbs : Int) = ((9223372036854775808 / b.natAbs : Nat) : Int) := rfl
    rw [this]
    have := Nat.div_le_self 9223372036854775808 b.natAbs
    generalize 9223372036854775808 / b.natAbs = q at *
    rw [wu64]
    omega
  rw [hq]
  split
  · rename_i h
    simp only [Bool.and_eq_true, decide_eq_true_eq] at h
    have h1 : 0 < b.natAbs := by omega
    have h2 : 9223372036854775808 / b.natAbs < a.natAbs := by omega
    have h3 : 9223372036854775808 < a.natAbs * b.natAbs := by
      have := (Nat.div_lt_iff_lt_mul h1).1 h2
      exact this
    constructor
    · simp only [Bool.false_eq_true, false_iff, I64]
      split <;> omega
    · simp
  · rename_i h
    simp only [Bool.and_eq_true, decide_eq_true_eq] at h
    have h3 : a.natAbs * b.natAbs ≤ 9223372036854775808 := by
      by_cases hb0 : b.natAbs = 0
      · simp [hb0]
      · have h2 : ¬ 9223372036854775808 / b.natAbs < a.natAbs := by omega
        rw [Nat.div_lt_iff_lt_mul (by omega)] at h2
        omega
    have e : IntKind.u64.wrap ((a.natAbs : Int) * b.natAbs) = ((a.natAbs * b.natAbs : Nat) : Int) := by
      rw [wu64, ← Int.natCast_mul]
      omega
    rw [e]
    exact num_signed (by omega) (by omega)
theorem num_mul' {a b : Int} (ha : I64 a) (hb : I64 b) : Num (IntKind.i64.wrap (a * b), (a == 0) || ((IntKind.i64.wrap ((IntKind.i64.wrap (a * b)).tdiv a) == b) && !((a == -1) && (b == minI)))) (a * b) := by
  by_cases ha0 : a = 0
  · subst ha0
    constructor
    · simp [I64]
    · simp [w64]
  have hc := wrap_rng (a * b)
  have hm : ∃ q : Int, a * b = IntKind.i64.wrap (a * b) + 18446744073709551616 * q := ⟨(a * b + 9223372036854775808) / 18446744073709551616, by rw [w64]; omega⟩
  obtain ⟨q, hq⟩ := hm
  generalize IntKind.i64.wrap (a * b) = c at *
  have hn : (a == 0) = false := by simp [ha0]
  rw [hn, Bool.false_or]
  have key : (IntKind.i64.wrap (c.tdiv a) == b && !((a == -1) && (b == minI))) = true ↔ I64 (a * b) := by
    simp only [Bool.and_eq_true, beq_iff_eq, Bool.not_eq_true', Bool.and_eq_false_iff, beq_eq_false_iff_ne]
    constructor
    · rintro ⟨h1, h2⟩
      have hdm : a * c.tdiv a + c.tmod a = c := Int.mul_tdiv_add_tmod c a
      by_cases hs : I64 (c.tdiv a)
      · rw [i64_wrap hs] at h1
        rw [h1] at hdm
        have hlt : (c.tmod a).natAbs < a.natAbs := by
          rw [Int.natAbs_tmod]
          exact Nat.mod_lt _ (by omega)
        obtain ⟨a1, a2⟩ := ha
        have : c = a * b := by omega
        rw [← this]
        exact hc
      · exfalso
        have hle : (c.tdiv a).natAbs ≤ c.natAbs := by
          rw [Int.natAbs_tdiv]
          exact Nat.div_le_self _ _
        obtain ⟨c1, c2⟩ := hc
        have hcm : c = minI := by
          unfold I64 at hs
          show c = -9223372036854775808
          omega
        have hd : c.tdiv a = 9223372036854775808 := by
          unfold I64 at hs
          have : c.natAbs = 9223372036854775808 := by rw [hcm]; rfl
          omega
        have ha1 : a = -1 := by
          have hN : (c.tdiv a).natAbs = c.natAbs / a.natAbs := Int.natAbs_tdiv c a
          rw [hd, hcm] at hN
          have hN' : (9223372036854775808 : Nat) = 9223372036854775808 / a.natAbs := hN
          have h1a : a.natAbs = 1 := by
            by_cases h2a : 2 ≤ a.natAbs
            · have := Nat.div_le_div_left (a := 9223372036854775808) h2a (by omega)
              omega
            · omega
          rcases (show a = 1 ∨ a = -1 by omega) with e | e
          · rw [e, Int.tdiv_one] at hd
            rw [hcm] at hd
            exact absurd hd (by decide)
          · exact e
        have hb1 : b = minI := by
          rw [← h1, hd]
          rfl
        rcases h2 with h2 | h2
        · exact h2 ha1
        · exact h2 hb1
    · intro hr
      have hcE : c = a * b := by
        obtain ⟨r1, r2⟩ := hr
        obtain ⟨c1, c2⟩ := hc
        omega
      subst hcE
      rw [Int.mul_tdiv_cancel_left _ ha0]
      refine ⟨i64_wrap hb, ?_⟩
      by_cases h1 : a = -1
      · right
        intro h2
        rw [h1, h2] at hr
        exact absurd hr.2 (by decide)
      · left; exact h1
  refine ⟨key, fun h => ?_⟩
  obtain ⟨r1, r2⟩ := key.1 h
  obtain ⟨c1, c2⟩ := hc
  show c = a * b
  omega
theorem num_quo {a b : Int} (ha : I64 a) (hb : I64 b) (h0 : b ≠ 0) : Num (quoF a b) (a.tdiv b) := by
  unfold quoF
  rw [sizeF_eq ha, sizeF_eq hb]
  have e0 : (a.natAbs : Int).tdiv (b.natAbs : Int) = ((a.natAbs / b.natAbs : Nat) : Int) := rfl
  have hle := Nat.div_le_self a.natAbs b.natAbs
  obtain ⟨a1, a2⟩ := ha
  have e1 : IntKind.u64.wrap ((a.natAbs : Int).tdiv (b.natAbs : Int)) = (a.natAbs : Int).tdiv (b.natAbs : Int) := by
    rw [e0]
    generalize a.natAbs / b.natAbs = q at *
    rw [wu64]
    omega
  rw [e1]
  have h := num_signed (u := (a.natAbs : Int).tdiv (b.natAbs : Int)) (g := !(decide (a < 0) == decide (b < 0))) (by rw [e0]; exact Int.natCast_nonneg _) (by rw [e0]; generalize a.natAbs / b.natAbs = q at *; omega)
  have e2 : a.tdiv b = if (!(decide (a < 0) == decide (b < 0))) = true then -((a.natAbs : Int).tdiv (b.natAbs : Int)) else (a.natAbs : Int).tdiv (b.natAbs : Int) := by
    rcases sg a with ⟨h1, h2⟩ | ⟨h1, h2⟩ <;> rcases sg b with ⟨h3, h4⟩ | ⟨h3, h4⟩ <;> simp only [h1, h3, decide_true, decide_false] <;> conv => lhs; rw [h2, h4]
    · simp
    · simp
    · simp
    · simp
  rw [e2]
  exact h
theorem rem_eq {a b : Int} (ha : I64 a) (hb : I64 b) (h0 : b ≠ 0) : (remF a b).1 = a.tmod b := by
  unfold remF
  rw [sizeF_eq ha, sizeF_eq hb]
  have e0 : (a.natAbs : Int).tmod (b.natAbs : Int) = ((a.natAbs % b.natAbs : Nat) : Int) := rfl
  have hle := Nat.mod_lt a.natAbs (show 0 < b.natAbs by omega)
  obtain ⟨b1, b2⟩ := hb
  have e2 : a.tmod b = if decide (a < 0) = true then -((a.natAbs : Int).tmod (b.natAbs : Int)) else (a.natAbs : Int).tmod (b.natAbs : Int) := by
    rcases sg a with ⟨h1, h2⟩ | ⟨h1, h2⟩ <;> rcases sg b with ⟨h3, h4⟩ | ⟨h3, h4⟩ <;> simp only [h1, decide_true, decide_false] <;> conv => lhs; rw [h2, h4]
    · simp
    · simp
    · simp
    · simp
  rw [e2]
  generalize hu : (a.natAbs : Int).tmod (b.natAbs : Int) = u
  rw [e0] at hu
  unfold signedF
  simp only [w64, decide_eq_true_eq]
  split <;> (simp only []; omega)
theorem number_eq {k a b : Int} (ha : I64 a) (hb : I64 b) (hk : 5 ≤ k ∧ k ≤ 9) : numberF k a b 0 = refNumF k a b := by
  unfold numberF refNumF
  have : k = 5 ∨ k = 6 ∨ k = 7 ∨ k = 8 ∨ k = 9 := by omega
  rcases this with rfl | rfl | rfl | rfl | rfl
  · simp only [beq_self_eq_true, if_true, fin_eq]
    exact (num_add' ha hb).fin (num_add ha hb)
  · simp only [show ((6 : Int) == 5) = false from rfl, beq_self_eq_true, if_true, fin_eq, Bool.false_eq_true, if_false]
    split
    · rename_i h
      have hb1 : b = -9223372036854775808 := by simpa using h
      refine (num_sub' ha hb).fin (s := (IntKind.i64.wrap (a - b), decide (a < 0))) ⟨?_, ?_⟩
      · obtain ⟨a1, a2⟩ := ha
        simp [I64]; omega
      · obtain ⟨a1, a2⟩ := ha
        simp [w64]; omega
    · rename_i h
      have hb1 : b ≠ -9223372036854775808 := by simpa using h
      have hw : IntKind.i64.wrap (0 - b) = -b := by
        obtain ⟨b1, b2⟩ := hb
        rw [w64]; omega
      rw [hw]
      have := num_add ha (b := -b) (by obtain ⟨b1, b2⟩ := hb; exact ⟨by omega, by omega⟩)
      rw [← Int.sub_eq_add_neg] at this
      exact (num_sub' ha hb).fin this
  · simp only [show ((7 : Int) == 5) = false from rfl, show ((7 : Int) == 6) = false from rfl, beq_self_eq_true, if_true, fin_eq, Bool.false_eq_true, if_false]
    exact (num_mul' ha hb).fin (num_mul ha hb)
  · simp only [show ((8 : Int) == 5) = false from rfl, show ((8 : Int) == 6) = false from rfl, show ((8 : Int) == 7) = false from rfl, show ((8 : Int) == 9) = false from rfl, beq_self_eq_true, if_true, fin_eq, Bool.false_eq_true, if_false, Bool.true_or]
    by_cases h0 : b = 0
    · simp [h0, failF]
    · have hb0 : (b == 0) = false := by simp [h0]
      simp only [hb0, Bool.false_eq_true, if_false]
      have hq := num_quo ha hb h0
      split
      · rename_i h
        have hb1 : b = -1 := by simpa using h
        subst hb1
        refine Num.fin (r := (IntKind.i64.wrap (0 - a), a != minI)) (z := a.tdiv (-1)) ⟨?_, ?_⟩ hq
        · obtain ⟨a1, a2⟩ := ha
          simp [I64, minI]
          omega
        · obtain ⟨a1, a2⟩ := ha
          simp [w64, minI]
          omega
      · rename_i h
        have hb1 : b ≠ -1 := by simpa using h
        have hr : I64 (a.tdiv b) := by
          have hN : (a.tdiv b).natAbs = a.natAbs / b.natAbs := Int.natAbs_tdiv a b
          obtain ⟨a1, a2⟩ := ha
          by_cases hb2 : b = 1
          · subst hb2; rw [Int.tdiv_one]; exact ⟨a1, a2⟩
          · have := Nat.div_le_div_left (a := a.natAbs) (show 2 ≤ b.natAbs by omega) (by omega)
            exact ⟨by omega, by omega⟩
        refine Num.fin (r := (IntKind.i64.wrap (a.tdiv b), true)) (z := a.tdiv b) ⟨?_, ?_⟩ hq
        · simp [hr]
        · intro _; exact i64_wrap hr
  · simp only [show ((9 : Int) == 5) = false from rfl, show ((9 : Int) == 6) = false from rfl, show ((9 : Int) == 7) = false from rfl, show ((9 : Int) == 8) = false from rfl, beq_self_eq_true, if_true, fin_eq, Bool.false_eq_true, if_false, Bool.or_true]
    by_cases h0 : b = 0
    · simp [h0, failF]
    · have hb0 : (b == 0) = false := by simp [h0]
      simp only [hb0, Bool.false_eq_true, if_false]
      have hq := rem_eq ha hb h0
      split
      · rename_i h
        have hb1 : b = -1 := by simpa using h
        subst hb1
        rw [hq]
        simp
      · rw [hq]
end Go.Proofs.Ytibbnimcnepggaa
