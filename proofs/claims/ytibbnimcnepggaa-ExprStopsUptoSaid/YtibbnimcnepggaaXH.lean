/- Both sides of an expression come to the same. No condition. -/
import Derived.Test.YtibbnimcnepggaaXN
set_option maxRecDepth 20000
namespace Go.Proofs.Ytibbnimcnepggaa
open Go Go.Vc
theorem failF_ne {e e0 : Int} (h : e ≠ 0) : failF e e0 = e := by simp [failF, h]
theorem failF_0 (e0 : Int) : failF 0 e0 = e0 := rfl
theorem one_err {k : Int} {f : V3 × Int} (h : f.2 ≠ 0) : (oneF k f).2 = f.2 := by
  unfold oneF
  repeat' split
  all_goals first | rfl | exact failF_ne h
theorem two2_err {k : Int} {a : V3} {f : V3 × Int} (h : f.2 ≠ 0) : two2F k a f = (zero3, f.2) := by simp [two2F, h]
theorem logic_err {k : Int} {a : V3} {e : Int} {b : Int → V3 × Int} (h : e ≠ 0) : logicF k a e b = (a, e) := by simp [logicF, h]
mutual
theorem find_err (vals : List V3) : ∀ (x : Ex) (e : Int), e ≠ 0 → (findF vals x e).2 = e
  | .mk k vk vn vs tb nm sl kids, e, h => find_errk vals k vk vn vs tb nm sl kids e h
theorem find_errk (vals : List V3) (k vk vn : Int) (vs tb nm : ByteArray) (sl : Int) : ∀ (kids : List Ex) (e : Int), e ≠ 0 → (findF vals (.mk k vk vn vs tb nm sl kids) e).2 = e
  | [], e, h => by
    rw [findF]
    unfold leafF
    repeat' split
    all_goals first | rfl | exact failF_ne h
  | [a], e, h => by
    rw [findF]
    split
    · exact failF_ne h
    · rw [one_err (by rw [find_err vals a e h]; exact h), find_err vals a e h]
  | [a, b], e, h => by
    rw [findF]
    split
    · exact failF_ne h
    · unfold twoF
      have ha := find_err vals a e h
      rw [ha]
      split
      · rw [logic_err h]
      · have hb := find_err vals b e h
        rw [two2_err (by rw [hb]; exact h)]
        exact hb
  | a :: b :: c :: r, e, h => by
    rw [findF]
    · exact failF_ne h
    all_goals simp
end
def OkV (v : V3) : Prop := okV v = true
theorem ok_zero : OkV zero3 := by simp [OkV, okV, okF, zero3, seq_refl]
theorem ok_truth (b : Bool) : OkV (truthF b) := by cases b <;> simp [OkV, okV, okF, truthF, truthN, seq_refl] <;> rfl
theorem ok_num (n : Int) : OkV ⟨1, n, ⟨#[]⟩⟩ := by simp [OkV, okV, okF, seq_refl]
theorem ok_null {v : V3} (h : OkV v) (hk : v.k = 0) : v = zero3 := by
  cases v with
  | mk k n s =>
    simp only at hk
    subst hk
    simp only [OkV, okV, okF, beq_self_eq_true, if_true, Bool.and_eq_true, beq_iff_eq] at h
    rw [h.1, seq_eq h.2]
    rfl
theorem ok_bool {v : V3} (h : OkV v) (hk : v.k = 2) : v = truthF true ∨ v = truthF false := by
  cases v with
  | mk k n s =>
    simp only at hk
    subst hk
    simp only [OkV, okV, okF, show ((2 : Int) == 0) = false from rfl, show ((2 : Int) == 1) = false from rfl, beq_self_eq_true, if_true, Bool.false_eq_true, if_false, Bool.and_eq_true, beq_iff_eq] at h
    have hs := seq_eq h.2
    subst hs
    have h1 := h.1
    rw [Int.fdiv_eq_ediv_of_nonneg _ (by omega)] at h1
    rcases (show n = 1 ∨ n = 0 by omega) with rfl | rfl
    · left; rfl
    · right; rfl
theorem ok_kind {v : V3} (h : OkV v) : 0 ≤ v.k ∧ v.k ≤ 3 := by
  cases v with
  | mk k n s =>
    show 0 ≤ k ∧ k ≤ 3
    by_cases h0 : k = 0
    · omega
    · by_cases h1 : k = 1
      · omega
      · by_cases h2 : k = 2
        · omega
        · by_cases h3 : k = 3
          · omega
          · simp [OkV, okV, okF, h0, h1, h2, h3] at h
def Agree (f r : V3 × Int) : Prop := (r.2 = 0 → f = (r.1, 0) ∧ OkV r.1) ∧ (r.2 ≠ 0 → f.2 = r.2 ∧ r.1 = zero3)
theorem Agree.err {f : V3 × Int} {e : Int} (he : e ≠ 0) (h : f.2 = e) : Agree f (zero3, e) := ⟨fun h0 => absurd h0 he, fun _ => ⟨h, rfl⟩⟩
theorem Agree.ok {v : V3} (h : OkV v) : Agree (v, 0) (v, 0) := ⟨fun _ => ⟨rfl, h⟩, fun h0 => absurd rfl h0⟩
theorem Agree.fin (n : Int) (p : Bool) : Agree (finR n p) (finR n p) := by
  cases p
  · exact Agree.err (by decide) rfl
  · exact Agree.ok (ok_num n)
theorem agree_num (k a b : Int) : Agree (refNumF k a b) (refNumF k a b) := by
  unfold refNumF
  repeat' split
  all_goals first | exact Agree.fin _ _ | exact Agree.err (by decide) rfl
theorem neg_eq {n : Int} (h : I64 n) : refNumF 6 0 n = if (n == minI) then (zero3, 35) else (⟨1, IntKind.i64.wrap (0 - n), ⟨#[]⟩⟩, 0) := by
  rw [← number_eq (k := 6) (a := 0) (b := n) ⟨by omega, by omega⟩ h (by omega)]
  obtain ⟨h1, h2⟩ := h
  unfold numberF
  simp only [show ((6 : Int) == 5) = false from rfl, beq_self_eq_true, if_true, Bool.false_eq_true, if_false]
  by_cases hn : n = -9223372036854775808
  · subst hn; rfl
  · have e : (n == minI) = false := beq_eq_false_iff_ne.2 hn
    rw [e]
    have hok : (decide (IntKind.i64.wrap (0 - n) < 0) == decide (0 < n)) = true := by
      rw [beq_iff_eq, decide_eq_decide, w64]
      omega
    rw [hok]
    rfl
theorem refOne0 (k : Int) (v : V3) : refOneF k (v, 0) = if (k == 18 || k == 19) then (truthF ((v.k == 0) == (k == 18)), 0) else if (v.k == 0) then (v, 0) else if (k == 4 && v.k == 2) then (truthF (v.n == 0), 0) else if (k == 3 && v.k == 1) then refNumF 6 0 v.n else (zero3, 33) := rfl
theorem one0 (k : Int) (v : V3) : oneF k (v, 0) = if (k == 18) then (truthF (v.k == 0), 0) else if (k == 19) then (truthF (v.k != 0), 0) else if (v.k == 0) then (v, 0) else if (k == 4 && v.k == 2) then (truthF (v.n == 0), 0) else if (k == 4 || v.k != 1) then (zero3, 33) else if (v.n == minI) then (zero3, 35) else (⟨1, IntKind.i64.wrap (0 - v.n), ⟨#[]⟩⟩, 0) := rfl
theorem two0 (k : Int) (a w : V3) : two2F k a (w, 0) = if decide (k ≤ 9) then (if (decide (1 < a.k) || decide (1 < w.k)) then (zero3, 33) else if ((a.k == 0) || (w.k == 0)) then (zero3, 0) else numberF k a.n w.n 0)
  else if ((a.k == 0) || (w.k == 0)) then (zero3, 0) else if (a.k != w.k) then (zero3, 33) else (truthF (opsF k (vcmpF a.k a.n a.s w.k w.n w.s)), 0) := rfl
theorem refTwo0 (k : Int) (r s : V3 × Int) (h0 : r.2 = 0) (h1 : s.2 = 0) : refTwoF k r s = if decide (k ≤ 9) then
    (if ((r.1.k != 0 && r.1.k != 1) || (s.1.k != 0 && s.1.k != 1)) then (zero3, 33) else if ((r.1.k == 0) || (s.1.k == 0)) then (zero3, 0) else refNumF k r.1.n s.1.n)
  else if ((r.1.k == 0) || (s.1.k == 0)) then (zero3, 0) else if (r.1.k != s.1.k) then (zero3, 33) else (truthF (opsF k (cmpRF r.1.k r.1.n r.1.s s.1.k s.1.n s.1.s)), 0) := by
  unfold refTwoF
  rw [if_neg (by simp [h0]), if_neg (by simp [h1])]
theorem agree_one {k : Int} {f r : V3 × Int} (h : Agree f r) (hr : r.1.rng) (hk : k = 3 ∨ k = 4 ∨ k = 18 ∨ k = 19) : Agree (oneF k f) (refOneF k r) := by
  by_cases h0 : r.2 = 0
  · obtain ⟨rfl, hv⟩ := h.1 h0
    obtain ⟨v, e⟩ := r
    simp only at h0 hv hr
    subst h0
    simp only
    rw [refOne0, one0]
    rcases hk with rfl | rfl | rfl | rfl
    · simp only [show ((3 : Int) == 18) = false from rfl, show ((3 : Int) == 19) = false from rfl, show ((3 : Int) == 4) = false from rfl, beq_self_eq_true, Bool.false_eq_true, if_false, Bool.false_or, Bool.false_and, Bool.true_and]
      by_cases hz : v.k = 0
      · simp only [show (v.k == 0) = true by simp [hz], if_true]
        exact Agree.ok hv
      · simp only [show (v.k == 0) = false by simp [hz], Bool.false_eq_true, if_false]
        by_cases h1 : v.k = 1
        · simp only [show (v.k == 1) = true by simp [h1], show (v.k != 1) = false by simp [h1], Bool.false_eq_true, if_false, if_true, neg_eq hr.2]
          split
          · exact Agree.err (by decide) rfl
          · exact Agree.ok (ok_num _)
        · simp only [show (v.k == 1) = false by simp [h1], show (v.k != 1) = true by simp [h1], Bool.false_eq_true, if_false, if_true]
          exact Agree.err (by decide) rfl
    · simp only [show ((4 : Int) == 18) = false from rfl, show ((4 : Int) == 19) = false from rfl, show ((4 : Int) == 3) = false from rfl, beq_self_eq_true, Bool.false_eq_true, if_false, Bool.false_or, Bool.false_and, Bool.true_and, Bool.true_or, if_true]
      by_cases hz : v.k = 0
      · simp only [show (v.k == 0) = true by simp [hz], if_true]
        exact Agree.ok hv
      · simp only [show (v.k == 0) = false by simp [hz], Bool.false_eq_true, if_false]
        split
        · exact Agree.ok (ok_truth _)
        · exact Agree.err (by decide) rfl
    · simp only [beq_self_eq_true, if_true, Bool.true_or]
      rw [show ((v.k == 0) == true) = (v.k == 0) by cases (v.k == 0) <;> rfl]
      exact Agree.ok (ok_truth _)
    · simp only [show ((19 : Int) == 18) = false from rfl, beq_self_eq_true, if_true, Bool.or_true, Bool.false_eq_true, if_false]
      rw [show ((v.k == 0) == false) = (v.k != 0) by unfold bne; cases (v.k == 0) <;> rfl]
      exact Agree.ok (ok_truth _)
  · have h2 := (h.2 h0).1
    unfold refOneF
    rw [if_pos (by simp [h0])]
    exact Agree.err h0 ((one_err (by rw [h2]; exact h0)).trans h2)
theorem agree_two {k : Int} {f r g s : V3 × Int} {b : Int → V3 × Int} (h : Agree f r) (hb : ∀ e, e ≠ 0 → (b e).2 = e) (hg : Agree (b 0) s) (hr : r.1.rng) (hs : s.1.rng) (hk : 5 ≤ k ∧ k ≤ 15) : Agree (two2F k f.1 (b f.2)) (refTwoF k r s) := by
  by_cases h0 : r.2 = 0
  · obtain ⟨rfl, hv⟩ := h.1 h0
    by_cases h1 : s.2 = 0
    · obtain ⟨e, hw⟩ := hg.1 h1
      simp only
      rw [e, two0, refTwo0 k r s h0 h1]
      have k1 := ok_kind hv
      have k2 := ok_kind hw
      have hc : (decide (1 < r.1.k) || decide (1 < s.1.k)) = ((r.1.k != 0 && r.1.k != 1) || (s.1.k != 0 && s.1.k != 1)) := by
        apply bool_eq
        simp only [Bool.or_eq_true, Bool.and_eq_true, decide_eq_true_eq, bne_iff_ne, ne_eq]
        omega
      by_cases h9 : k ≤ 9
      · simp only [show decide (k ≤ 9) = true by simp [h9], if_true, hc]
        split
        · exact Agree.err (by decide) rfl
        · split
          · exact Agree.ok ok_zero
          · rw [number_eq hr.2 hs.2 ⟨hk.1, h9⟩]
            exact agree_num _ _ _
      · simp only [show decide (k ≤ 9) = false by simp [h9], Bool.false_eq_true, if_false]
        split
        · exact Agree.ok ok_zero
        · split
          · exact Agree.err (by decide) rfl
          · rw [vcmp_eq]
            exact Agree.ok (ok_truth _)
    · have h2 := (hg.2 h1).1
      unfold refTwoF
      rw [if_neg (by simp [h0]), if_pos (by simp [h1])]
      simp only
      rw [two2_err (by rw [h2]; exact h1), h2]
      exact Agree.err h1 rfl
  · have h2 := (h.2 h0).1
    unfold refTwoF
    rw [if_pos (by simp [h0])]
    have h3 := hb f.2 (by rw [h2]; exact h0)
    rw [two2_err (by rw [h3, h2]; exact h0), h3, h2]
    exact Agree.err h0 rfl
theorem agree_logic {k : Int} {f r s : V3 × Int} {b : Int → V3 × Int} {A : Nat → V3 × Int} (h : Agree f r) (hg : Agree (b 0) s) (hA0 : A 0 = r) (hA1 : A 1 = s) (hk : k = 16 ∨ k = 17) : Agree (logicF k f.1 f.2 b) (refLgo k A 2 0 false) := by
  unfold refLgo
  rw [hA0]
  by_cases h0 : r.2 = 0
  · obtain ⟨rfl, hv⟩ := h.1 h0
    rw [if_neg (by simp [h0])]
    unfold logicF
    simp only [beq_self_eq_true, Bool.true_and, bne_self_eq_false, Bool.false_or]
    have hsome : someF r.1 = (r.1.k != 0 && r.1.k != 2) := rfl
    rw [hsome]
    split
    · exact Agree.err (by decide) rfl
    · rename_i hnb
      split
      · rename_i hq
        rw [veqV_eq hq]
        exact Agree.ok (ok_truth _)
      · rename_i hnq
        unfold refLgo
        rw [hA1]
        unfold logic2F
        by_cases h1 : s.2 = 0
        · obtain ⟨e, hw⟩ := hg.1 h1
          have hsome2 : someF s.1 = (s.1.k != 0 && s.1.k != 2) := rfl
          rw [e]
          simp only [show (s.2 != 0) = false by simp [h1], Bool.false_eq_true, if_false, beq_self_eq_true, Bool.true_and, hsome2]
          split
          · exact Agree.err (by decide) rfl
          · rename_i hnb2
            split
            · rename_i hq2
              rw [veqV_eq hq2]
              exact Agree.ok (ok_truth _)
            · rename_i hnq2
              unfold refLgo
              by_cases ha : r.1.k = 0
              · simp only [show (r.1.k == 0) = true by simp [ha], Bool.true_or, if_true, ok_null hv ha]
                exact Agree.ok ok_zero
              · by_cases hb : s.1.k = 0
                · simp only [show (r.1.k == 0) = false by simp [ha], show (s.1.k == 0) = true by simp [hb], Bool.or_true, if_true, Bool.false_eq_true, if_false, ok_null hw hb]
                  exact Agree.ok ok_zero
                · simp only [show (r.1.k == 0) = false by simp [ha], show (s.1.k == 0) = false by simp [hb], Bool.or_false, Bool.false_eq_true, if_false]
                  have hw2 : s.1.k = 2 := by simpa [hb] using hnb2
                  rcases hk with rfl | rfl
                  · rcases ok_bool hw hw2 with e2 | e2
                    · rw [e2]; exact Agree.ok (ok_truth _)
                    · rw [e2] at hnq2; exact absurd (veqV_refl _) hnq2
                  · rcases ok_bool hw hw2 with e2 | e2
                    · rw [e2] at hnq2; exact absurd (veqV_refl _) hnq2
                    · rw [e2]; exact Agree.ok (ok_truth _)
        · have h2 := (hg.2 h1).1
          simp only [show (s.2 != 0) = true by simp [h1], show ((b 0).2 == 0) = false by rw [h2]; simp [h1], if_true, Bool.false_and, Bool.false_eq_true, if_false]
          refine Agree.err h1 ?_
          split
          · exact h2
          · split
            · exact h2
            · exact h2
  · have h2 := (h.2 h0).1
    rw [if_pos (by simp [h0]), logic_err (by rw [h2]; exact h0), h2]
    exact Agree.err h0 rfl
theorem kidsF_0 (k : Int) : ((0 : Int) != kidsF k) = true ↔ ¬ (k = 1 ∨ k = 2 ∨ k = 24) := by
  unfold kidsF
  by_cases h : k = 1 ∨ k = 2 ∨ k = 24
  · rcases h with rfl | rfl | rfl <;> simp
  · have h1 : (k == 1 || (k == 24 || k == 2)) = false := by simp; omega
    rw [h1]
    simp only [Bool.false_eq_true, if_false, h, not_false_eq_true, iff_true]
    repeat' split
    all_goals rfl
theorem kidsF_1 (k : Int) : ((1 : Int) != kidsF k) = true ↔ ¬ (k = 3 ∨ k = 4 ∨ k = 18 ∨ k = 19) := by
  unfold kidsF
  by_cases h0 : k = 1 ∨ k = 2 ∨ k = 24
  · rcases h0 with rfl | rfl | rfl <;> simp
  · have h1 : (k == 1 || (k == 24 || k == 2)) = false := by simp; omega
    rw [h1]
    simp only [Bool.false_eq_true, if_false]
    by_cases h : k = 3 ∨ k = 4 ∨ k = 18 ∨ k = 19
    · rcases h with rfl | rfl | rfl | rfl <;> simp
    · have h2 : (k == 3 || (k == 4 || (k == 18 || k == 19))) = false := by simp; omega
      rw [h2]
      simp only [Bool.false_eq_true, if_false, h, not_false_eq_true, iff_true]
      repeat' split
      all_goals rfl
theorem kidsF_2 (k : Int) : ((2 : Int) != kidsF k) = true ↔ ¬ (5 ≤ k ∧ k ≤ 17) := by
  unfold kidsF
  by_cases h0 : k = 1 ∨ k = 2 ∨ k = 24
  · rcases h0 with rfl | rfl | rfl <;> simp
  · have h1 : (k == 1 || (k == 24 || k == 2)) = false := by simp; omega
    rw [h1]
    simp only [Bool.false_eq_true, if_false]
    by_cases h : k = 3 ∨ k = 4 ∨ k = 18 ∨ k = 19
    · rcases h with rfl | rfl | rfl | rfl <;> simp
    · have h2 : (k == 3 || (k == 4 || (k == 18 || k == 19))) = false := by simp; omega
      rw [h2]
      simp only [Bool.false_eq_true, if_false]
      by_cases h3 : 5 ≤ k ∧ k ≤ 17
      · rw [if_pos (by simp [h3])]; simp [h3]
      · rw [if_neg (by simpa using h3)]; simp [h3]
theorem top_0 (vals : List V3) (k : Int) (v : V3) (sl : Int) (A : Nat → V3 × Int) (hok : ∀ v ∈ vals, True) :
    Agree (if ((0 : Int) != kidsF k) = true then (zero3, failF 0 1) else leafF vals k v sl 0) (refTopF vals k v sl 0 A) := by
  have hz : ∀ p : Bool, ((0 : Int) == 1 && p) = false := fun _ => rfl
  have hz2 : ∀ p : Bool, ((0 : Int) == 2 && p) = false := fun _ => rfl
  unfold refTopF leafF
  simp only [beq_self_eq_true, Bool.and_true, hz, hz2, Bool.false_eq_true, if_false, show ((0 : Int) != 2) = true from rfl, Bool.true_or, if_true, failF_0, ok_eq]
  by_cases h1 : k = 1
  · subst h1
    rw [if_neg (by rw [kidsF_0]; simp)]
    simp only [show ((1 : Int) == 2) = false from rfl, show ((1 : Int) == 24) = false from rfl, beq_self_eq_true, Bool.true_and, Bool.false_and, Bool.false_eq_true, if_false, okV]
    split
    · rename_i h
      exact Agree.ok h
    · exact Agree.err (by decide) rfl
  · have e1 : (k == 1) = false := by simp [h1]
    rw [e1]
    by_cases h2 : k = 2
    · subst h2
      rw [if_neg (by rw [kidsF_0]; simp)]
      exact Agree.err (by decide) rfl
    · have e2 : (k == 2) = false := by simp [h2]
      rw [e2]
      simp only [Bool.false_and, Bool.false_eq_true, if_false]
      by_cases h3 : k = 24
      · subst h3
        rw [if_neg (by rw [kidsF_0]; simp)]
        simp only [beq_self_eq_true, Bool.true_and, okV]
        split
        · rename_i h
          simp only [Bool.and_eq_true] at h
          exact Agree.ok h.2
        · exact Agree.err (by decide) rfl
      · have e3 : (k == 24) = false := by simp [h3]
        rw [e3]
        simp only [Bool.false_and, Bool.false_eq_true, if_false, ite_self]
        exact Agree.err (by decide) rfl
mutual
theorem find_ref {vals : List V3} (hv : ∀ v ∈ vals, v.rng) : ∀ x : Ex, exRng x → Agree (findF vals x 0) (refF vals x)
  | .mk k vk vn vs tb nm sl kids, hx => by
    rw [exRng] at hx
    exact find_refk hv k vk vn vs tb nm sl kids hx.2.2.2.2
theorem find_refk {vals : List V3} (hv : ∀ v ∈ vals, v.rng) (k vk vn : Int) (vs tb nm : ByteArray) (sl : Int) : ∀ kids : List Ex, exsRng kids → Agree (findF vals (.mk k vk vn vs tb nm sl kids) 0) (refF vals (.mk k vk vn vs tb nm sl kids))
  | [], _ => by
    rw [findF, refF]
    exact top_0 vals k _ sl _ fun _ _ => trivial
  | [a], hx => by
    rw [exsRng] at hx
    have ih := find_ref hv a hx.1
    have hr := refF_rng hv a hx.1
    rw [findF, refF]
    have e : (fun i => (refsF vals [a]).getD i (zero3, 0)) 0 = refF vals a := by simp [refsF]
    generalize (fun i => (refsF vals [a]).getD i (zero3, 0)) = A at *
    unfold refTopF
    rw [e]
    have hl : (([a] : List Ex).length : Int) = 1 := rfl
    rw [hl]
    simp only [show ((1 : Int) == 0) = false from rfl, show ((1 : Int) == 2) = false from rfl, show ((1 : Int) != 2) = true from rfl, beq_self_eq_true, Bool.and_false, Bool.false_and, Bool.true_and, Bool.true_or, Bool.false_eq_true, if_false, if_true]
    by_cases h : k = 3 ∨ k = 4 ∨ k = 18 ∨ k = 19
    · rw [if_neg (by rw [kidsF_1]; simp [h]), if_pos (by simp; omega)]
      exact agree_one ih hr h
    · rw [if_pos (by rw [kidsF_1]; exact h), if_neg (by simp; omega)]
      exact Agree.err (by decide) rfl
  | [a, b], hx => by
    rw [exsRng, exsRng] at hx
    have iha := find_ref hv a hx.1
    have ihb := find_ref hv b hx.2.1
    have hra := refF_rng hv a hx.1
    have hrb := refF_rng hv b hx.2.1
    rw [findF, refF]
    have e0 : (fun i => (refsF vals [a, b]).getD i (zero3, 0)) 0 = refF vals a := by simp [refsF]
    have e1 : (fun i => (refsF vals [a, b]).getD i (zero3, 0)) 1 = refF vals b := by simp [refsF]
    generalize (fun i => (refsF vals [a, b]).getD i (zero3, 0)) = A at *
    unfold refTopF
    have hl : (([a, b] : List Ex).length : Int) = 2 := rfl
    rw [hl]
    simp only [show ((2 : Int) == 0) = false from rfl, show ((2 : Int) == 1) = false from rfl, show ((2 : Int) != 2) = false from rfl, beq_self_eq_true, Bool.and_false, Bool.false_and, Bool.true_and, Bool.false_or, Bool.false_eq_true, if_false]
    by_cases h : 5 ≤ k ∧ k ≤ 17
    · rw [if_neg (by rw [kidsF_2]; simp [h])]
      unfold twoF
      by_cases hl : k = 16 ∨ k = 17
      · rw [if_pos (by simp; omega), if_pos (by simp; omega)]
        exact agree_logic iha ihb e0 e1 hl
      · rw [if_neg (by simp; omega), if_neg (by simp; omega), if_neg (by simp; omega), e0, e1]
        exact agree_two (g := (zero3, 0)) iha (fun e he => find_err vals b e he) ihb hra hrb (by omega)
    · rw [if_pos (by rw [kidsF_2]; exact h), if_neg (by simp; omega), if_pos (by simp; omega)]
      exact Agree.err (by decide) rfl
  | a :: b :: c :: r, hx => by
    have hf : findF vals (.mk k vk vn vs tb nm sl (a :: b :: c :: r)) 0 = (zero3, failF 0 1) := by
      rw [findF]
      all_goals simp
    rw [hf, refF]
    unfold refTopF
    have hl : (((a :: b :: c :: r : List Ex).length : Nat) : Int) = (r.length : Int) + 3 := by simp; omega
    rw [hl]
    have h0 : ((r.length : Int) + 3 == 0) = false := by simp; omega
    have h1 : ((r.length : Int) + 3 == 1) = false := by simp; omega
    have h2 : ((r.length : Int) + 3 == 2) = false := by simp; omega
    have h3 : ((r.length : Int) + 3 != 2) = true := by simp; omega
    simp only [h0, h1, h2, h3, Bool.and_false, Bool.false_and, Bool.false_eq_true, if_false, Bool.true_or, if_true]
    exact Agree.err (by decide) rfl
end
theorem eval_ref {vals : List V3} (hv : ∀ v ∈ vals, v.rng) {x : Ex} (hx : exRng x) : evalF vals x = refF vals x := by
  obtain ⟨h1, h2⟩ := find_ref hv x hx
  unfold evalF
  by_cases h0 : (refF vals x).2 = 0
  · obtain ⟨e, _⟩ := h1 h0
    rw [e]
    simp only [bne_self_eq_false, Bool.false_eq_true, if_false]
    exact Prod.ext rfl h0.symm
  · obtain ⟨e, e2⟩ := h2 h0
    rw [e, if_pos (by simp [h0])]
    exact Prod.ext e2.symm rfl
theorem eval_ok {vals : List V3} (hv : ∀ v ∈ vals, v.rng) {x : Ex} (hx : exRng x) : OkV (evalF vals x).1 := by
  rw [eval_ref hv hx]
  obtain ⟨h1, h2⟩ := find_ref hv x hx
  by_cases h0 : (refF vals x).2 = 0
  · exact (h1 h0).2
  · rw [(h2 h0).2]; exact ok_zero
theorem holds_ref {vals : List V3} (hv : ∀ v ∈ vals, v.rng) {x : Ex} (hx : exRng x) : holdsF (evalF vals x) = refHoldsF (refF vals x) := by
  have hok := eval_ok hv hx
  rw [eval_ref hv hx] at hok ⊢
  generalize refF vals x = r at *
  unfold holdsF refHoldsF
  by_cases h0 : r.2 = 0
  · simp only [h0, beq_self_eq_true, Bool.true_and, bne_self_eq_false, Bool.false_eq_true, if_false]
    split
    · rfl
    · rename_i hb
      congr 1
      by_cases hk : r.1.k = 2
      · rcases ok_bool hok hk with e | e <;> rw [e] <;> simp [veqV, veq, truthF, truthN, seq_refl]
      · have : r.1.k = 0 := by simpa [hk] using hb
        rw [ok_null hok this]
        simp [veqV, veq, truthF, truthN, zero3]
  · simp [h0]
theorem law_ExprEvals {vals : List V3} (hv : ∀ v ∈ vals, v.rng) {x : Ex} (hx : exRng x) : evalsF vals x = true := by
  unfold evalsF
  rw [holds_ref hv hx, eval_ref hv hx, veqV_refl]
  simp
end Go.Proofs.Ytibbnimcnepggaa
