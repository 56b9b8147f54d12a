/- The laws on expressions, in plain terms. No condition. -/
import Derived.Test.YtibbnimcnepggaaXH
set_option maxRecDepth 20000
namespace Go.Proofs.Ytibbnimcnepggaa
open Go Go.Vc
def lgF (k : Int) (r s : V3 × Int) : V3 × Int :=
  if (r.2 != 0) then (zero3, r.2) else if (r.1.k != 0 && r.1.k != 2) then (zero3, 33) else if (veqV r.1 (truthF (k == 17))) then (truthF (k == 17), 0)
  else if (s.2 != 0) then (zero3, s.2) else if (s.1.k != 0 && s.1.k != 2) then (zero3, 33) else if (veqV s.1 (truthF (k == 17))) then (truthF (k == 17), 0)
  else if ((r.1.k == 0) || (s.1.k == 0)) then (zero3, 0) else (truthF (k == 16), 0)
theorem rf_num (vals : List V3) (n : Int) : refF vals (numE n) = (⟨1, n, ⟨#[]⟩⟩, 0) := by
  rw [refF]
  simp [refTopF, ok_eq, okF, seq_refl]
theorem rf_one (vals : List V3) {k : Int} (x : Ex) (hk : k = 3 ∨ k = 4 ∨ k = 18 ∨ k = 19) : refF vals (nodeE k [x]) = refOneF k (refF vals x) := by
  rw [refF]
  unfold refTopF
  have hl : (([x] : List Ex).length : Int) = 1 := rfl
  rw [hl]
  simp only [show ((1 : Int) == 0) = false from rfl, Bool.and_false, Bool.false_and, Bool.false_eq_true, if_false, beq_self_eq_true, Bool.true_and]
  rw [if_pos (by simp; omega)]
  simp [refsF]
theorem rf_two (vals : List V3) {k : Int} (x y : Ex) (hk : 5 ≤ k ∧ k ≤ 15) : refF vals (nodeE k [x, y]) = refTwoF k (refF vals x) (refF vals y) := by
  rw [refF]
  unfold refTopF
  have hl : (([x, y] : List Ex).length : Int) = 2 := rfl
  rw [hl]
  simp only [show ((2 : Int) == 0) = false from rfl, show ((2 : Int) == 1) = false from rfl, show ((2 : Int) != 2) = false from rfl, Bool.and_false, Bool.false_and, Bool.false_eq_true, if_false, beq_self_eq_true, Bool.true_and, Bool.false_or]
  rw [if_neg (by simp; omega), if_neg (by simp; omega)]
  simp [refsF]
theorem rf_logic (vals : List V3) {k : Int} (x y : Ex) (hk : k = 16 ∨ k = 17) : refF vals (nodeE k [x, y]) = lgF k (refF vals x) (refF vals y) := by
  rw [refF]
  unfold refTopF
  have hl : (([x, y] : List Ex).length : Int) = 2 := rfl
  rw [hl]
  simp only [show ((2 : Int) == 0) = false from rfl, show ((2 : Int) == 1) = false from rfl, show ((2 : Int) != 2) = false from rfl, Bool.and_false, Bool.false_and, Bool.false_eq_true, if_false, beq_self_eq_true, Bool.true_and]
  rw [if_pos (by simp; omega)]
  simp [refsF, refLgo, lgF]
theorem z64 : I64 0 := ⟨by omega, by omega⟩
theorem o64 : I64 1 := ⟨by omega, by omega⟩
theorem rng_node {k : Int} {kids : List Ex} (hk : I64 k) (h : exsRng kids) : exRng (nodeE k kids) := by
  rw [exRng]
  exact ⟨hk, z64, z64, z64, h⟩
theorem rng_1 {k : Int} {x : Ex} (hk : -1000 ≤ k ∧ k ≤ 1000) (h : exRng x) : exRng (nodeE k [x]) := rng_node ⟨by omega, by omega⟩ (by rw [exsRng, exsRng]; exact ⟨h, trivial⟩)
theorem rng_2 {k : Int} {x y : Ex} (hk : -1000 ≤ k ∧ k ≤ 1000) (h : exRng x) (h' : exRng y) : exRng (nodeE k [x, y]) := rng_node ⟨by omega, by omega⟩ (by rw [exsRng, exsRng, exsRng]; exact ⟨h, h', trivial⟩)
theorem rng_num {n : Int} (h : I64 n) : exRng (numE n) := by
  rw [exRng, exsRng]
  exact ⟨o64, o64, h, z64, trivial⟩
theorem rng_nil : ∀ v ∈ ([] : List V3), v.rng := fun v h => by cases h
inductive Cls (r : V3 × Int) : Prop
  | err (e : Int) (he : e ≠ 0) (h : r = (zero3, e))
  | nul (h : r = (zero3, 0))
  | tru (h : r = (truthF true, 0))
  | fal (h : r = (truthF false, 0))
  | oth (v : V3) (hk : v.k = 1 ∨ v.k = 3) (ok : OkV v) (h : r = (v, 0))
theorem cls {vals : List V3} (hv : ∀ v ∈ vals, v.rng) {x : Ex} (hx : exRng x) : Cls (refF vals x) := by
  obtain ⟨h1, h2⟩ := find_ref hv x hx
  generalize refF vals x = r at *
  obtain ⟨v, e⟩ := r
  by_cases h0 : e = 0
  · subst h0
    have hok := (h1 rfl).2
    simp only at hok
    have hk := ok_kind hok
    by_cases k0 : v.k = 0
    · exact .nul (by rw [ok_null hok k0])
    · by_cases k2 : v.k = 2
      · rcases ok_bool hok k2 with e | e
        · exact .tru (by rw [e])
        · exact .fal (by rw [e])
      · exact .oth v (by omega) hok rfl
  · exact .err e h0 (by have := (h2 h0).2; simp only at this; rw [this])
theorem same_ref {vals : List V3} (hv : ∀ v ∈ vals, v.rng) {x y : Ex} (hx : exRng x) (hy : exRng y) : sameF vals x y = (((refF vals x).2 != 0 || (refF vals y).2 != 0) || veqV (refF vals x).1 (refF vals y).1) := by
  unfold sameF
  rw [eval_ref hv hx, eval_ref hv hy]
theorem tt_ff : veqV (truthF true) (truthF false) = false := by simp [veqV, veq, truthF, truthN]
theorem ff_tt : veqV (truthF false) (truthF true) = false := by simp [veqV, veq, truthF, truthN]
theorem zz_b (b : Bool) : veqV zero3 (truthF b) = false := by simp [veqV, veq, truthF, zero3]
theorem b_zz (b : Bool) : veqV (truthF b) zero3 = false := by simp [veqV, veq, truthF, zero3]
theorem oth_b {v : V3} (h : v.k = 1 ∨ v.k = 3) (b : Bool) : veqV v (truthF b) = false := by
  unfold veqV veq truthF
  have : (v.k == (2 : Int)) = false := by rcases h with h | h <;> simp [h]
  simp only [this, Bool.false_and]
theorem zk : zero3.k = 0 := rfl
theorem tk (b : Bool) : (truthF b).k = 2 := rfl
theorem tn (b : Bool) : (truthF b).n = truthN b := rfl
theorem law_ExprLogic {vals : List V3} (hv : ∀ v ∈ vals, v.rng) {a b : Ex} (ha : exRng a) (hb : exRng b) :
    (sameF vals (nodeE 16 [a, b]) (nodeE 16 [b, a]) && sameF vals (nodeE 17 [a, b]) (nodeE 17 [b, a]) && sameF vals (nodeE 4 [nodeE 16 [a, b]]) (nodeE 17 [nodeE 4 [a], nodeE 4 [b]]) &&
            sameF vals (nodeE 4 [nodeE 17 [a, b]]) (nodeE 16 [nodeE 4 [a], nodeE 4 [b]]) && sameF vals (nodeE 4 [nodeE 4 [a]]) (nodeE 16 [nodeE 19 [numE 1], a]) && sameF vals (nodeE 17 [a, a]) (nodeE 16 [a, a])) = true := by
  have r1 : exRng (numE 1) := rng_num ⟨by decide, by decide⟩
  have hr : ∀ {k x y}, -1000 ≤ k ∧ k ≤ 1000 → exRng x → exRng y → exRng (nodeE k [x, y]) := fun h h1 h2 => rng_2 h h1 h2
  have hs : ∀ {k x}, -1000 ≤ k ∧ k ≤ 1000 → exRng x → exRng (nodeE k [x]) := fun h h1 => rng_1 h h1
  have d16 : (-1000 : Int) ≤ 16 ∧ (16 : Int) ≤ 1000 := by omega
  have d17 : (-1000 : Int) ≤ 17 ∧ (17 : Int) ≤ 1000 := by omega
  have d4 : (-1000 : Int) ≤ 4 ∧ (4 : Int) ≤ 1000 := by omega
  have d19 : (-1000 : Int) ≤ 19 ∧ (19 : Int) ≤ 1000 := by omega
  rw [same_ref hv (hr d16 ha hb) (hr d16 hb ha), same_ref hv (hr d17 ha hb) (hr d17 hb ha), same_ref hv (hs d4 (hr d16 ha hb)) (hr d17 (hs d4 ha) (hs d4 hb)),
    same_ref hv (hs d4 (hr d17 ha hb)) (hr d16 (hs d4 ha) (hs d4 hb)), same_ref hv (hs d4 (hs d4 ha)) (hr d16 (hs d19 r1) ha), same_ref hv (hr d17 ha ha) (hr d16 ha ha)]
  simp only [rf_logic vals _ _ (show (16 : Int) = 16 ∨ (16 : Int) = 17 by omega), rf_logic vals _ _ (show (17 : Int) = 16 ∨ (17 : Int) = 17 by omega), rf_one vals _ (show (4 : Int) = 3 ∨ (4 : Int) = 4 ∨ (4 : Int) = 18 ∨ (4 : Int) = 19 by omega),
    rf_one vals _ (show (19 : Int) = 3 ∨ (19 : Int) = 4 ∨ (19 : Int) = 18 ∨ (19 : Int) = 19 by omega), rf_num]
  have ca := cls hv ha
  have cb := cls hv hb
  generalize refF vals a = r at *
  generalize refF vals b = s at *
  rcases ca with ⟨e, he, rfl⟩ | rfl | rfl | rfl | ⟨v, hk, ok, rfl⟩ <;> rcases cb with ⟨e', he', rfl⟩ | rfl | rfl | rfl | ⟨v', hk', ok', rfl⟩ <;>
    first
    | (simp [lgF, refOneF, veqV_refl, tt_ff, ff_tt, zz_b, b_zz, zk, tk, tn, truthN, *]; done)
    | (rcases hk with hk | hk <;> simp [lgF, refOneF, veqV_refl, tt_ff, ff_tt, zz_b, b_zz, zk, tk, tn, truthN, oth_b, *]; done)
    | (rcases hk' with hk | hk <;> simp [lgF, refOneF, veqV_refl, tt_ff, ff_tt, zz_b, b_zz, zk, tk, tn, truthN, oth_b, *]; done)
    | (rcases hk with hk | hk <;> rcases hk' with hk' | hk' <;> simp [lgF, refOneF, veqV_refl, tt_ff, ff_tt, zz_b, b_zz, zk, tk, tn, truthN, oth_b, *]; done)
theorem neg_num (vals : List V3) {a : Int} (ha : I64 a) : refF vals (nodeE 3 [numE a]) = if (a == minI) then (zero3, 35) else (⟨1, IntKind.i64.wrap (0 - a), ⟨#[]⟩⟩, 0) := by
  rw [rf_one vals _ (by omega), rf_num, refOne0]
  simp only [show ((3 : Int) == 18 || (3 : Int) == 19) = false from rfl, show ((1 : Int) == 0) = false from rfl, show ((3 : Int) == 4) = false from rfl, Bool.false_and, Bool.false_eq_true, if_false, beq_self_eq_true, Bool.true_and, if_true]
  exact neg_eq ha
theorem law_ExprNumbers {a b k : Int} (ha : I64 a) (hb : I64 b) (hk : -1000 ≤ k ∧ k ≤ 1000) :
    (veq (evalF [] (nodeE k [numE a, numE b])).1.k (evalF [] (nodeE k [numE a, numE b])).1.n (evalF [] (nodeE k [numE a, numE b])).1.s (refF [] (nodeE k [numE a, numE b])).1.k (refF [] (nodeE k [numE a, numE b])).1.n (refF [] (nodeE k [numE a, numE b])).1.s &&
      (evalF [] (nodeE k [numE a, numE b])).2 == (refF [] (nodeE k [numE a, numE b])).2 && ((evalF [] (nodeE 3 [numE a])).2 == 35) == (a == -9223372036854775808) &&
        ((evalF [] (nodeE 3 [numE a])).2 != 0 || (evalF [] (nodeE 3 [numE a])).1.n == IntKind.i64.wrap (0 - a))) = true := by
  rw [eval_ref rng_nil (rng_2 hk (rng_num ha) (rng_num hb)), eval_ref rng_nil (rng_1 (by omega) (rng_num ha)), neg_num [] ha]
  have := veqV_refl (refF [] (nodeE k [numE a, numE b])).1
  unfold veqV at this
  rw [this]
  by_cases h : a = -9223372036854775808
  · subst h; simp
  · have h1 : (a == minI) = false := beq_eq_false_iff_ne.2 h
    have h2 : (a == -9223372036854775808) = false := h1
    rw [h1]
    simp
theorem div_num {a b : Int} (ha : I64 a) (hb : I64 b) (h0 : b ≠ 0) : evalF [] (nodeE 8 [numE a, numE b]) = if (b == -1 && a == minI) then (zero3, 35) else (⟨1, a.tdiv b, ⟨#[]⟩⟩, 0) := by
  rw [eval_ref rng_nil (rng_2 (by omega) (rng_num ha) (rng_num hb)), rf_two _ _ _ (by omega), rf_num, rf_num, refTwo0 _ _ _ rfl rfl]
  have hb0 : (b == 0) = false := by simp [h0]
  show refNumF 8 a b = _
  rw [← number_eq ha hb (by omega)]
  unfold numberF
  simp only [show ((8 : Int) == 5) = false from rfl, show ((8 : Int) == 6) = false from rfl, show ((8 : Int) == 7) = false from rfl, show ((8 : Int) == 9) = false from rfl, hb0, Bool.false_eq_true, if_false]
  by_cases h1 : b = -1
  · subst h1
    by_cases h2 : a = minI
    · subst h2; rfl
    · have e : (a == minI) = false := beq_eq_false_iff_ne.2 h2
      simp only [e, beq_self_eq_true, if_true, Bool.and_false, Bool.false_eq_true, if_false]
      have : IntKind.i64.wrap (0 - a) = a.tdiv (-1) := by
        rw [Int.tdiv_neg, Int.tdiv_one]
        obtain ⟨a1, a2⟩ := ha
        have h3 : a ≠ -9223372036854775808 := h2
        rw [w64]; omega
      rw [← this]
      have e' : (a != minI) = true := by simp [bne, e]
      rw [e']
      rfl
  · have e : (b == -1) = false := by simp [h1]
    simp only [e, Bool.false_eq_true, if_false, Bool.false_and]
    have hN : (a.tdiv b).natAbs = a.natAbs / b.natAbs := Int.natAbs_tdiv a b
    have hr : I64 (a.tdiv b) := by
      obtain ⟨a1, a2⟩ := ha
      by_cases hb2 : b = 1
      · subst hb2; rw [Int.tdiv_one]; exact ⟨a1, a2⟩
      · have := Nat.div_le_div_left (a := a.natAbs) (show 2 ≤ b.natAbs by omega) (by omega)
        exact ⟨by omega, by omega⟩
    rw [i64_wrap hr]
    rfl
theorem mod_num {a b : Int} (ha : I64 a) (hb : I64 b) (h0 : b ≠ 0) : evalF [] (nodeE 9 [numE a, numE b]) = (⟨1, a.tmod b, ⟨#[]⟩⟩, 0) := by
  rw [eval_ref rng_nil (rng_2 (by omega) (rng_num ha) (rng_num hb)), rf_two _ _ _ (by omega), rf_num, rf_num, refTwo0 _ _ _ rfl rfl]
  have hb0 : (b == 0) = false := by simp [h0]
  show refNumF 9 a b = _
  unfold refNumF
  simp only [show ((9 : Int) == 5) = false from rfl, show ((9 : Int) == 6) = false from rfl, show ((9 : Int) == 7) = false from rfl, show ((9 : Int) == 8) = false from rfl, beq_self_eq_true, Bool.or_true, if_true, hb0, Bool.false_eq_true, if_false, rem_eq ha hb h0]
  rfl
theorem div_zero {a : Int} (ha : I64 a) : evalF [] (nodeE 8 [numE a, numE 0]) = (zero3, 36) ∧ evalF [] (nodeE 9 [numE a, numE 0]) = (zero3, 36) := by
  have h0 : I64 0 := ⟨by decide, by decide⟩
  constructor
  · rw [eval_ref rng_nil (rng_2 (by omega) (rng_num ha) (rng_num h0)), rf_two _ _ _ (by omega), rf_num, rf_num, refTwo0 _ _ _ rfl rfl]
    rfl
  · rw [eval_ref rng_nil (rng_2 (by omega) (rng_num ha) (rng_num h0)), rf_two _ _ _ (by omega), rf_num, rf_num, refTwo0 _ _ _ rfl rfl]
    rfl
theorem tmod_rng {a b : Int} (ha : I64 a) (h0 : b ≠ 0) : I64 (a.tmod b) ∧ (a.tmod b).natAbs < b.natAbs ∧ (0 < a.tmod b → 0 < a) ∧ (a.tmod b < 0 → a < 0) := by
  have h1 : (a.tmod b).natAbs = a.natAbs % b.natAbs := Int.natAbs_tmod a b
  have h2 := Nat.mod_le a.natAbs b.natAbs
  have h3 := Nat.mod_lt a.natAbs (show 0 < b.natAbs by omega)
  have hpos : 0 ≤ a → 0 ≤ a.tmod b := fun h => Int.tmod_nonneg b h
  have hneg : a ≤ 0 → a.tmod b ≤ 0 := fun h => by
    have : 0 ≤ (-a).tmod b := Int.tmod_nonneg b (by omega)
    rw [Int.neg_tmod] at this
    omega
  obtain ⟨a1, a2⟩ := ha
  refine ⟨⟨?_, ?_⟩, by omega, fun h => ?_, fun h => ?_⟩
  · by_cases h : 0 ≤ a
    · have := hpos h; omega
    · omega
  · by_cases h : 0 ≤ a
    · omega
    · have := hneg (by omega); omega
  · by_cases h' : 0 < a
    · exact h'
    · have := hneg (by omega); omega
  · by_cases h' : a < 0
    · exact h'
    · have := hpos (by omega); omega
theorem back_num {a b : Int} (ha : I64 a) (hb : I64 b) (h0 : b ≠ 0) (hn : (b == -1 && a == minI) = false) :
    evalF [] (nodeE 5 [nodeE 7 [numE (a.tdiv b), numE b], numE (a.tmod b)]) = (⟨1, a, ⟨#[]⟩⟩, 0) := by
  obtain ⟨hm, hlt, _, _⟩ := tmod_rng ha h0
  have hN : (a.tdiv b).natAbs = a.natAbs / b.natAbs := Int.natAbs_tdiv a b
  have hq : I64 (a.tdiv b) := by
    obtain ⟨a1, a2⟩ := ha
    by_cases hb1 : b = -1
    · subst hb1
      have : a ≠ -9223372036854775808 := by simpa using hn
      rw [Int.tdiv_neg, Int.tdiv_one]; exact ⟨by omega, by omega⟩
    · by_cases hb2 : b = 1
      · subst hb2; rw [Int.tdiv_one]; exact ⟨a1, a2⟩
      · have := Nat.div_le_div_left (a := a.natAbs) (show 2 ≤ b.natAbs by omega) (by omega)
        exact ⟨by omega, by omega⟩
  have hdm : b * a.tdiv b + a.tmod b = a := Int.mul_tdiv_add_tmod a b
  have hmul : (a.tdiv b) * b = a - a.tmod b := by rw [Int.mul_comm]; omega
  have hprod : I64 ((a.tdiv b) * b) := by
    rw [hmul]
    obtain ⟨_, _, h3, h4⟩ := tmod_rng ha h0
    obtain ⟨a1, a2⟩ := ha
    have h2 := Nat.mod_le a.natAbs b.natAbs
    have h1 : (a.tmod b).natAbs = a.natAbs % b.natAbs := Int.natAbs_tmod a b
    by_cases hz : a.tmod b = 0
    · rw [hz]; exact ⟨by omega, by omega⟩
    · by_cases hp : 0 < a.tmod b
      · have := h3 hp; exact ⟨by omega, by omega⟩
      · have := h4 (by omega); exact ⟨by omega, by omega⟩
  have n1 : refNumF 7 (a.tdiv b) b = (⟨1, a.tdiv b * b, ⟨#[]⟩⟩, 0) := by
    have := num_mul hq hb
    show finR (mulF (a.tdiv b) b).1 (mulF (a.tdiv b) b).2 = _
    have h2 := this.1.2 hprod
    rw [h2, this.2 h2]
    rfl
  have n2 : refNumF 5 (a.tdiv b * b) (a.tmod b) = (⟨1, a, ⟨#[]⟩⟩, 0) := by
    have := num_add hprod hm
    have e : a.tdiv b * b + a.tmod b = a := by omega
    rw [e] at this
    show finR (addF (a.tdiv b * b) (a.tmod b)).1 (addF (a.tdiv b * b) (a.tmod b)).2 = _
    have h2 := this.1.2 ha
    rw [h2, this.2 h2]
    rfl
  rw [eval_ref rng_nil (rng_2 (by omega) (rng_2 (by omega) (rng_num hq) (rng_num hb)) (rng_num hm)), rf_two _ _ _ (by omega), rf_two _ _ _ (by omega), rf_num, rf_num, rf_num]
  have e1 : refTwoF 7 (⟨1, a.tdiv b, ⟨#[]⟩⟩, 0) (⟨1, b, ⟨#[]⟩⟩, 0) = (⟨1, a.tdiv b * b, ⟨#[]⟩⟩, 0) := by
    rw [refTwo0 _ _ _ rfl rfl]
    exact n1
  rw [e1, refTwo0 _ _ _ rfl rfl]
  exact n2
theorem law_parts0 {a b : Int} (ha : I64 a) (h0 : (b == 0) = true) : ((evalF [] (nodeE 8 [numE a, numE b])).snd == 36 && (evalF [] (nodeE 9 [numE a, numE b])).snd == 36) = true := by
  have : b = 0 := by simpa using h0
  subst this
  rw [(div_zero ha).1, (div_zero ha).2]
  rfl
theorem law_parts1 {a b : Int} (ha : I64 a) (hb : I64 b) (h0 : (b == 0) = false) (h1 : ((evalF [] (nodeE 8 [numE a, numE b])).snd != 0) = true) :
    ((evalF [] (nodeE 8 [numE a, numE b])).snd == 35 && a == -9223372036854775808 && b == -1 && (evalF [] (nodeE 9 [numE a, numE b])).snd == 0 && (evalF [] (nodeE 9 [numE a, numE b])).fst.n == 0) = true := by
  have hb0 : b ≠ 0 := by simpa using h0
  rw [div_num ha hb hb0] at h1 ⊢
  rw [mod_num ha hb hb0]
  cases hn : (b == -1 && a == minI)
  · rw [hn] at h1
    simp at h1
  · have h2 : b = -1 ∧ a = -9223372036854775808 := by simpa using hn
    obtain ⟨rfl, rfl⟩ := h2
    rfl
theorem law_parts2 {a b p q : Int} (ha : I64 a) (hb : I64 b) (h0 : (b == 0) = false) (h1 : ((evalF [] (nodeE 8 [numE a, numE b])).snd != 0) = false)
    (hpq : (evalF [] (nodeE 9 [numE a, numE b])).fst.n.natAbs < b.natAbs → p < q) :
    ((evalF [] (nodeE 9 [numE a, numE b])).snd == 0 &&
              (evalF [] (nodeE 5 [nodeE 7 [numE (evalF [] (nodeE 8 [numE a, numE b])).fst.n, numE b], numE (evalF [] (nodeE 9 [numE a, numE b])).fst.n])).snd == 0 &&
            (evalF [] (nodeE 5 [nodeE 7 [numE (evalF [] (nodeE 8 [numE a, numE b])).fst.n, numE b], numE (evalF [] (nodeE 9 [numE a, numE b])).fst.n])).fst.n == a &&
          decide (p < q) &&
        ((evalF [] (nodeE 9 [numE a, numE b])).fst.n == 0 || decide ((evalF [] (nodeE 9 [numE a, numE b])).fst.n < 0) == decide (a < 0))) = true := by
  have hb0 : b ≠ 0 := by simpa using h0
  rw [div_num ha hb hb0] at h1
  cases hn : (b == -1 && a == minI)
  · rw [div_num ha hb hb0, hn]
    rw [mod_num ha hb hb0] at hpq ⊢
    simp only [Bool.false_eq_true, if_false, back_num ha hb hb0 hn]
    obtain ⟨_, m2, m3, m4⟩ := tmod_rng ha hb0
    have hp := hpq m2
    simp only [beq_self_eq_true, Bool.true_and, decide_eq_true hp, Bool.or_eq_true, beq_iff_eq, decide_eq_decide]
    by_cases hz : a.tmod b = 0
    · left; exact hz
    · right
      constructor
      · exact m4
      · intro h
        by_cases hpos : 0 < a.tmod b
        · have := m3 hpos; omega
        · omega
  · rw [hn] at h1
    simp at h1
end Go.Proofs.Ytibbnimcnepggaa
