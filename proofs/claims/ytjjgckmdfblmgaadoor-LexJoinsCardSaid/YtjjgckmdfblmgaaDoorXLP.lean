/- The tokens of two texts with a line feed between them: plain law. No condition. -/
import Derived.Test.YtjjgckmdfblmgaaDoorXLC
set_option maxRecDepth 20000
namespace Go.Proofs.YtjjgckmdfblmgaaDoor
open Go Go.Vc
theorem run_app {p : UInt8 → Bool} (h10 : p 10 = false) (k : List UInt8) : ∀ l : List UInt8, runN p (l ++ 10 :: k) = runN p l
  | [] => by
    show runN p (10 :: k) = 0
    simp [runN, h10]
  | b :: l => by
    rw [List.cons_append, runN, runN, run_app h10 k l]
theorem head_app {p : UInt8 → Bool} (h10 : p 10 = false) (k : List UInt8) : ∀ l : List UInt8, headP p (l ++ 10 :: k) = headP p l
  | [] => h10
  | _ :: _ => rfl
theorem wd10 : wordB 10 = false := by decide +kernel
theorem dg10 : digB 10 = false := by decide +kernel
theorem lt10 : letB 10 = false := by decide +kernel
theorem sp10 : isSp 10 = true := by decide +kernel
theorem sg10 : (10 : UInt8) ∉ sgB.data.toList := by decide +kernel
theorem take_run (p : UInt8 → Bool) (l m : List UInt8) : (l ++ m).take (runN p l) = l.take (runN p l) := List.take_append_of_le_length (runN_le p l)
theorem drop_run (p : UInt8 → Bool) (l m : List UInt8) : (l ++ m).drop (runN p l) = l.drop (runN p l) ++ m := List.drop_append_of_le_length (runN_le p l)
theorem num_app (l k : List UInt8) : numL (l ++ 10 :: k) = numL l := by
  have e : numE (l ++ 10 :: k) = numE l := by
    unfold numE
    rw [run_app dg10, take_run, drop_run, head_app lt10]
  unfold numL
  rw [e, run_app dg10, take_run]
theorem text_app (k : List UInt8) : ∀ (l acc : List UInt8), (textL l acc).1.2 = 0 → textL (l ++ 10 :: k) acc = textL l acc
  | [], acc, h => by cases h
  | [b], acc, h => by
    by_cases hq : (b == 39) = true
    · have : b = 39 := by simpa using hq
      subst this
      show textL (39 :: 10 :: k) acc = textL [39] acc
      simp [textL]
    · rw [textL_step b [] acc (by simpa using hq)] at h
      cases h
  | b :: c :: l, acc, h => by
    by_cases hq : (b == 39) = true
    · have : b = 39 := by simpa using hq
      subst this
      rw [List.cons_append, List.cons_append]
      by_cases hc : (c == 39) = true
      · have : c = 39 := by simpa using hc
        subst this
        have e : ∀ l : List UInt8, textL (39 :: 39 :: l) acc = ((textL l (acc ++ [39])).1, (textL l (acc ++ [39])).2 + 2) := fun l => by rw [textL]; rfl
        rw [e] at h
        rw [e, e, text_app k l _ h]
      · have hc' : (c == 39) = false := by simpa using hc
        have e : ∀ (d : UInt8) (l : List UInt8), (d == 39) = false → textL (39 :: d :: l) acc = (endT acc, 1) := fun d l hd => by rw [textL, if_pos (by rfl), if_pos (by simp [bne, hd])]
        rw [e _ _ hc', e _ _ hc']
    · have hq' : (b == 39) = false := by simpa using hq
      rw [textL_step b _ acc hq'] at h
      have := text_app k (c :: l) (acc ++ [b]) h
      rw [List.cons_append] at this
      rw [List.cons_append, List.cons_append, textL_step b _ acc hq', textL_step b _ acc hq', this]
theorem sign_app (b : UInt8) (l k : List UInt8) : signL ((b :: l) ++ 10 :: k) = signL (b :: l) := by
  have e1 : tryL ((b :: l) ++ 10 :: k) 1 = tryL (b :: l) 1 := by
    unfold tryL
    simp
  have e2 : tryL ((b :: l) ++ 10 :: k) 2 = tryL (b :: l) 2 := by
    cases l with
    | nil =>
      rw [List.cons_append, List.nil_append, try_no (q := 2) (b := 10) (by simp) sg10]
      rfl
    | cons c l =>
      unfold tryL
      simp
  unfold signL
  rw [e1, e2]
  by_cases h2 : tryL (b :: l) 2 = true
  · rw [if_pos h2, if_pos h2]
    cases l with
    | nil => simp [tryL] at h2
    | cons c l => rfl
  rw [if_neg h2, if_neg h2]
  rfl
theorem step_app {b : UInt8} {l k : List UInt8} (h : (stepL (b :: l)).1.2 = 0) : stepL ((b :: l) ++ 10 :: k) = stepL (b :: l) := by
  rw [List.cons_append]
  by_cases h1 : letB b = true
  · have e : ∀ l : List UInt8, stepL (b :: l) = (wordL ((b :: l).take (runN wordB (b :: l))), runN wordB (b :: l)) := fun l => by rw [stepL, if_pos h1]
    rw [e, e, ← List.cons_append, run_app wd10, take_run]
  by_cases h2 : digB b = true
  · have e : ∀ l : List UInt8, stepL (b :: l) = (numL (b :: l), runN digB (b :: l)) := fun l => by rw [stepL, if_neg h1, if_pos h2]
    rw [e, e, ← List.cons_append, run_app dg10, num_app]
  by_cases h3 : (b == 39) = true
  · have e : ∀ l : List UInt8, stepL (b :: l) = ((textL l []).1, (textL l []).2 + 1) := fun l => by rw [stepL, if_neg h1, if_neg h2, if_pos h3]
    rw [e] at h
    rw [e, e, text_app k l [] h]
  have e : ∀ l : List UInt8, stepL (b :: l) = signL (b :: l) := fun l => by rw [stepL, if_neg h1, if_neg h2, if_neg h3]
  rw [e, e, ← List.cons_append, sign_app]
theorem sp_app (k : List UInt8) : ∀ l : List UInt8, runN isSp l = l.length → runN isSp (l ++ 10 :: k) = l.length + 1 + runN isSp k
  | [], _ => by rw [List.nil_append, runN, if_pos sp10]; simp; omega
  | b :: l, h => by
    unfold runN at h
    split at h
    · rename_i hb
      rw [List.cons_append, runN, if_pos hb, sp_app k l (by simpa using h)]
      simp only [List.length_cons]
      omega
    · simp at h
theorem sp_app2 (k : List UInt8) : ∀ l : List UInt8, runN isSp l ≠ l.length → runN isSp (l ++ 10 :: k) = runN isSp l
  | [], h => absurd rfl h
  | b :: l, h => by
    rw [List.cons_append, runN, runN]
    split
    · rename_i hb
      rw [sp_app2 k l (fun e => h (by rw [runN, if_pos hb, e]; rfl))]
    · rfl
theorem parts_all (k : List UInt8) : ∀ (n : Nat) (l : List UInt8), l.length ≤ n → (allA l).2 = 0 → allA (l ++ 10 :: k) = finA (allA l).1 (allA k)
  | n, l, hn, h => by
    by_cases hs : runN isSp l = l.length
    · have e1 : allA l = ([], 0) := by
        rw [← allA_sp, hs, List.drop_length]; rfl
      have e2 : allA (l ++ 10 :: k) = allA k := by
        rw [← allA_sp (l ++ 10 :: k), sp_app k l hs, ← allA_sp k]
        congr 1
        rw [show l.length + 1 + runN isSp k = l.length + (1 + runN isSp k) by omega, List.drop_append]
        rw [List.drop_eq_nil_of_le (by omega), List.nil_append, show l.length + (1 + runN isSp k) - l.length = runN isSp k + 1 by omega, List.drop_succ_cons]
      rw [e1, e2, finA_nil]
    · have hle := runN_le isSp l
      have e0 : allA (l ++ 10 :: k) = allA (l.drop (runN isSp l) ++ 10 :: k) := by
        rw [← allA_sp (l ++ 10 :: k), sp_app2 k l hs, drop_run]
      have e1 := allA_sp l
      have hsp := sp_stop l
      have hlen : (l.drop (runN isSp l)).length ≤ n := by rw [List.length_drop]; omega
      rw [e0, ← e1]
      rw [← e1] at h
      cases hd : l.drop (runN isSp l) with
      | nil =>
        have := congrArg List.length hd
        rw [List.length_drop] at this
        simp at this
        omega
      | cons b r =>
        rw [hd] at h hsp hlen
        rw [allA_step hsp (by simp)] at h ⊢
        by_cases he : (stepL (b :: r)).1.2 = 0
        · have hne : ((stepL (b :: r)).1.2 != 0) = false := by simp [he]
          rw [hne] at h ⊢
          simp only [Bool.false_eq_true, if_false] at h ⊢
          have hp := step_pos he
          have hl2 := step_le (b :: r)
          have hr : (allA ((b :: r).drop (stepL (b :: r)).2)).2 = 0 := by
            unfold finA at h
            by_cases h9 : ((allA ((b :: r).drop (stepL (b :: r)).2)).2 != 0) = true
            · rw [if_pos h9] at h; exact h
            · simpa using h9
          have hsp2 : runN isSp ((b :: r) ++ 10 :: k) = 0 := by
            have hb : ¬ isSp b = true := fun hb => by rw [runN, if_pos hb] at hsp; omega
            rw [List.cons_append, runN, if_neg hb]
          rw [allA_step hsp2 (by simp), step_app he, hne]
          simp only [Bool.false_eq_true, if_false]
          rw [List.drop_append_of_le_length hl2]
          match n, hlen with
          | 0, hlen => simp at hlen
          | n + 1, hlen =>
            rw [parts_all k n _ (by rw [List.length_drop]; omega) hr, finA_fin]
            have : finA [(stepL (b :: r)).1.1] (allA ((b :: r).drop (stepL (b :: r)).2)) = ([(stepL (b :: r)).1.1] ++ (allA ((b :: r).drop (stepL (b :: r)).2)).1, 0) := by
              unfold finA
              rw [if_neg (by simp [hr])]
            rw [this]
        · rw [if_pos (by simpa using he)] at h
          exact absurd h he
theorem parts_big {l k : List UInt8} (h : 2048 < l.length + k.length + 1) : lexL (l ++ 10 :: k) = ([], 30) := by
  unfold lexL
  rw [if_pos (by simp; omega)]
theorem parts_law {l k : List UInt8} (h : l.length + k.length + 1 ≤ 2048) (he : (lexL l).2 = 0) :
    (lexL (l ++ 10 :: k)).2 = (lexL k).2 ∧ ((lexL k).2 ≠ 0 → (lexL (l ++ 10 :: k)).1 = []) ∧ ((lexL k).2 = 0 → (lexL (l ++ 10 :: k)).1 = (lexL l).1 ++ (lexL k).1) := by
  have e1 : lexL l = allA l := by unfold lexL; rw [if_neg (by simp; omega)]; rfl
  have e2 : lexL k = allA k := by unfold lexL; rw [if_neg (by simp; omega)]; rfl
  have e3 : lexL (l ++ 10 :: k) = allA (l ++ 10 :: k) := by unfold lexL; rw [if_neg (by simp; omega)]; rfl
  rw [e1] at he
  rw [e1, e2, e3, parts_all k l.length l (Nat.le_refl _) he]
  unfold finA
  by_cases h9 : ((allA k).2 != 0) = true
  · rw [if_pos h9]
    exact ⟨rfl, fun _ => rfl, fun h0 => by rw [h0] at h9; cases h9⟩
  · rw [if_neg h9]
    have h0 : (allA k).2 = 0 := by simpa using h9
    exact ⟨h0.symm, fun h1 => absurd h0 h1, fun _ => rfl⟩
end Go.Proofs.YtjjgckmdfblmgaaDoor
