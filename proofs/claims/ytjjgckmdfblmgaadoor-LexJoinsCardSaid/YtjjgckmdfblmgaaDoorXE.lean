/- The scanner in plain terms: how much a token is; one more token. No condition. -/
import Derived.Test.YtjjgckmdfblmgaaDoorXC
set_option maxRecDepth 20000
namespace Go.Proofs.YtjjgckmdfblmgaaDoor
open Go Go.Vc
theorem textL_le : ∀ (l acc : List UInt8), (textL l acc).2 ≤ l.length
  | [], _ => by simp [textL]
  | [b], acc => by
    unfold textL
    split <;> simp
  | b :: c :: l, acc => by
    have h1 := textL_le l (acc ++ [c])
    have h2 := textL_le (c :: l) (acc ++ [b])
    unfold textL
    split
    · split
      · simp
      · simp only [List.length_cons]; omega
    · simp only [List.length_cons] at h2 ⊢; omega
theorem signL_le (l : List UInt8) : (signL l).2 ≤ l.length := by
  unfold signL tryL
  split
  · rename_i h
    simp only [Bool.and_eq_true, decide_eq_true_eq] at h
    exact h.1
  · split
    · rename_i h
      simp only [Bool.and_eq_true, decide_eq_true_eq] at h
      exact h.1
    · exact Nat.zero_le _
theorem step_le (l : List UInt8) : (stepL l).2 ≤ l.length := by
  cases l with
  | nil => exact Nat.zero_le _
  | cons b l =>
    rw [stepL]
    split
    · exact runN_le _ _
    · split
      · exact runN_le _ _
      · split
        · have := textL_le l []
          simp only [List.length_cons]
          omega
        · exact signL_le _
theorem step_pos {b : UInt8} {l : List UInt8} (h : (stepL (b :: l)).1.2 = 0) : 1 ≤ (stepL (b :: l)).2 := by
  rw [stepL] at h ⊢
  by_cases h1 : letB b = true
  · rw [if_pos h1]
    have : wordB b = true := by unfold wordB; rw [h1]; rfl
    show 1 ≤ runN wordB (b :: l)
    unfold runN
    rw [if_pos this]
    omega
  rw [if_neg h1] at h ⊢
  by_cases h2 : digB b = true
  · rw [if_pos h2]
    show 1 ≤ runN digB (b :: l)
    unfold runN
    rw [if_pos h2]
    omega
  rw [if_neg h2] at h ⊢
  by_cases h3 : (b == 39) = true
  · rw [if_pos h3]
    exact Nat.le_add_left _ _
  rw [if_neg h3] at h ⊢
  unfold signL at h ⊢
  split at h
  · rename_i h4; rw [if_pos h4]; exact Nat.le_of_ble_eq_true rfl
  · rename_i h4
    rw [if_neg h4]
    split at h
    · rename_i h5; rw [if_pos h5]; exact Nat.le_refl _
    · cases h
theorem allG_fuel : ∀ (f g : Nat) (l : List UInt8), l.length < f → l.length < g → allG f l = allG g l
  | 0, _, _, h, _ => absurd h (by omega)
  | _ + 1, 0, _, _, h => absurd h (by omega)
  | f + 1, g + 1, l, hf, hg => by
    unfold allG
    cases hd : l.drop (runN isSp l) with
    | nil => rfl
    | cons b r =>
      dsimp only
      have hl : (b :: r).length ≤ l.length := by rw [← hd, List.length_drop]; omega
      by_cases he : (stepL (b :: r)).1.2 = 0
      · have hp := step_pos he
        have hle := step_le (b :: r)
        have := allG_fuel f g ((b :: r).drop (stepL (b :: r)).2) (by rw [List.length_drop]; omega) (by rw [List.length_drop]; omega)
        rw [this]
      · rw [if_pos (by simpa using he), if_pos (by simpa using he)]
def allA (l : List UInt8) : List T3 × Int := allG (l.length + 1) l
def finA (xs : List T3) (r : List T3 × Int) : List T3 × Int := if (r.2 != 0) then ([], r.2) else (xs ++ r.1, 0)
theorem allA_nil : allA [] = ([], 0) := rfl
theorem allA_sp (l : List UInt8) : allA (l.drop (runN isSp l)) = allA l := by
  have h1 : ∀ l : List UInt8, runN isSp (l.drop (runN isSp l)) = 0 := fun l => by
    induction l with
    | nil => rfl
    | cons b l ih =>
      by_cases hb : isSp b = true
      · have : runN isSp (b :: l) = runN isSp l + 1 := by rw [runN, if_pos hb]
        rw [this, List.drop_succ_cons]
        exact ih
      · have : runN isSp (b :: l) = 0 := by rw [runN, if_neg hb]
        rw [this, List.drop_zero]
        exact this
  unfold allA
  rw [allG_fuel ((l.drop (runN isSp l)).length + 1) (l.length + 1) _ (by omega) (by rw [List.length_drop]; omega)]
  show allG (l.length + 1) (l.drop (runN isSp l)) = allG (l.length + 1) l
  rw [allG, allG, h1 l, List.drop_zero]
theorem sp_stop (l : List UInt8) : runN isSp (l.drop (runN isSp l)) = 0 := by
  induction l with
  | nil => rfl
  | cons b l ih =>
    by_cases hb : isSp b = true
    · have : runN isSp (b :: l) = runN isSp l + 1 := by rw [runN, if_pos hb]
      rw [this, List.drop_succ_cons]
      exact ih
    · have : runN isSp (b :: l) = 0 := by rw [runN, if_neg hb]
      rw [this, List.drop_zero]
      exact this
theorem allA_step {l : List UInt8} (h0 : runN isSp l = 0) (hl : l ≠ []) :
    allA l = if ((stepL l).1.2 != 0) then ([], (stepL l).1.2) else finA [(stepL l).1.1] (allA (l.drop (stepL l).2)) := by
  cases l with
  | nil => exact absurd rfl hl
  | cons b r =>
    have e : allA (b :: r) = allG ((b :: r).length + 1) (b :: r) := rfl
    rw [e, allG, h0, List.drop_zero]
    dsimp only
    by_cases he : (stepL (b :: r)).1.2 = 0
    · have hb : ((stepL (b :: r)).1.2 != 0) = false := by simp [he]
      rw [hb]
      simp only [Bool.false_eq_true, if_false]
      have hp := step_pos he
      have hle := step_le (b :: r)
      rw [allG_fuel (b :: r).length (((b :: r).drop (stepL (b :: r)).2).length + 1) _ (by rw [List.length_drop]; omega) (by omega)]
      rfl
    · rw [if_pos (by simpa using he), if_pos (by simpa using he)]
theorem finA_fin (xs ys : List T3) (r : List T3 × Int) : finA xs (finA ys r) = finA (xs ++ ys) r := by
  unfold finA
  by_cases h : (r.2 != 0) = true
  · rw [if_pos h, if_pos h]; simp only; rw [if_pos h]
  · rw [if_neg h, if_neg h]
    simp
theorem allG_err : ∀ (f : Nat) (l : List UInt8), (allG f l).2 ≠ 0 → (allG f l).1 = []
  | 0, _, h => absurd rfl h
  | f + 1, l, h => by
    unfold allG at h ⊢
    cases hd : l.drop (runN isSp l) with
    | nil => rfl
    | cons b r =>
      rw [hd] at h
      dsimp only at h ⊢
      split at h
      · rename_i h1; rw [if_pos h1]
      · rename_i h1
        rw [if_neg h1]
        split at h
        · rename_i h2; rw [if_pos h2]
        · exact absurd rfl h
theorem finA_nil (l : List UInt8) : finA [] (allA l) = allA l := by
  unfold finA
  by_cases h : ((allA l).2 != 0) = true
  · rw [if_pos h]
    have h2 : (allA l).2 ≠ 0 := by simpa using h
    have := allG_err _ _ h2
    exact Prod.ext this.symm rfl
  · rw [if_neg h]
    have : (allA l).2 = 0 := by simpa using h
    exact Prod.ext rfl this.symm
theorem lex_start {s : ByteArray} (h : s.size ≤ 2048) : finA [] (allA (dr s (0 + runN isSp (dr s 0)))) = lexL s.data.toList := by
  rw [finA_nil, ← dr_drop, allA_sp]
  unfold lexL
  rw [if_neg (by rw [len_bytes]; simp; omega)]
  rfl
theorem lex_sp (s : ByteArray) (i : Nat) : runN isSp (dr s (i + runN isSp (dr s i))) = 0 := by
  rw [← dr_drop]
  exact sp_stop _
theorem dr_ne {s : ByteArray} {i : Nat} (h : i < s.size) : dr s i ≠ [] := by rw [dr_cons h]; simp
theorem lex_next {s : ByteArray} {i : Nat} {xs : List T3} {X : List T3 × Int} (h : i < s.size) (hsp : runN isSp (dr s i) = 0) (he : (stepL (dr s i)).1.2 = 0) (hr : finA xs (allA (dr s i)) = X) :
    finA (xs ++ [(stepL (dr s i)).1.1]) (allA (dr s (i + (stepL (dr s i)).2 + runN isSp (dr s (i + (stepL (dr s i)).2))))) = X := by
  rw [← dr_drop s (i + (stepL (dr s i)).2), allA_sp, ← dr_drop s i, ← finA_fin, ← hr, allA_step hsp (dr_ne h), if_neg (by simp [he])]
theorem lex_err {s : ByteArray} {i : Nat} {xs : List T3} {X : List T3 × Int} (h : i < s.size) (hsp : runN isSp (dr s i) = 0) (he : (stepL (dr s i)).1.2 ≠ 0) (hr : finA xs (allA (dr s i)) = X) : X = ([], (stepL (dr s i)).1.2) := by
  rw [← hr, allA_step hsp (dr_ne h), if_pos (by simpa using he)]
  unfold finA
  rw [if_pos (by simpa using he)]
def takeV (x : UInt8) (b : Nat) : Value := .func (.func (if letB x then f_p_lex_scanner_word else if digB x then f_p_lex_scanner_number else if x == 39 then f_p_lex_scanner_text else f_p_lex_scanner_sign)) #[.pointer (some ⟨b, 0, none⟩)] #[]
theorem take_meth (s : ByteArray) (n : Nat) (hn : n < s.size) (hs : s.size ≤ 2048) (b : Nat) :
    MethV Tryd.prog b (takeV (by_ s n) b) ty_lex_scanner (sv s n) [GF] [] (sv s (n + (stepL (dr s n)).2)) (.tup2 (.is (tv (stepL (dr s n)).1.1)) (.is (.int .i64 (stepL (dr s n)).1.2))) := by
  have e := dr_cons hn
  unfold takeV
  by_cases h1 : letB (by_ s n) = true
  · rw [if_pos h1]
    have hst : stepL (dr s n) = (wordL ((dr s n).take (runN wordB (dr s n))), runN wordB (dr s n)) := by
      rw [e, stepL, if_pos h1]
    rw [hst]
    exact ⟨_, rfl, c_p_lex_scanner_word s n hn hs⟩
  rw [if_neg h1]
  by_cases h2 : digB (by_ s n) = true
  · rw [if_pos h2]
    have hst : stepL (dr s n) = (numL (dr s n), runN digB (dr s n)) := by
      rw [e, stepL, if_neg h1, if_pos h2]
    rw [hst]
    exact ⟨_, rfl, c_p_lex_scanner_number s n hn hs⟩
  rw [if_neg h2]
  by_cases h3 : (by_ s n == 39) = true
  · rw [if_pos h3]
    have hst : stepL (dr s n) = ((textL (dr s (n + 1)) []).1, (textL (dr s (n + 1)) []).2 + 1) := by
      rw [e, stepL, if_neg h1, if_neg h2, if_pos h3]
    rw [hst]
    have := c_p_lex_scanner_text s n hn hs
    rw [show n + 1 + (textL (dr s (n + 1)) []).2 = n + ((textL (dr s (n + 1)) []).2 + 1) by omega] at this
    exact ⟨_, rfl, this⟩
  rw [if_neg h3]
  have hst : stepL (dr s n) = signL (dr s n) := by
    rw [e, stepL, if_neg h1, if_neg h2, if_neg h3]
  rw [hst]
  exact ⟨_, rfl, c_p_lex_scanner_sign s n hn hs⟩
end Go.Proofs.YtjjgckmdfblmgaaDoor
