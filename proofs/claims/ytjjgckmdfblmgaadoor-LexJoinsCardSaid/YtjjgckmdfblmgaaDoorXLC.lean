/- Capitals and small letters: plain law. No condition. -/
import Derived.Test.YtjjgckmdfblmgaaDoorXHD
set_option maxRecDepth 20000
namespace Go.Proofs.YtjjgckmdfblmgaaDoor
open Go Go.Vc
theorem all_u8 {p : UInt8 → Bool} (h : ∀ n : Nat, n < 256 → p (UInt8.ofNat n) = true) (b : UInt8) : p b = true := by
  have := h b.toNat b.toNat_lt
  rwa [UInt8.ofNat_toNat] at this
abbrev low (b : UInt8) : UInt8 := lowC false b
theorem lowC_true (b : UInt8) : lowC true b = b := rfl
def lowOK (b : UInt8) : Bool := (isSp (low b) == isSp b) && (wordB (low b) == wordB b) && (digB (low b) == digB b) && (letB (low b) == letB b) && ((low b == 39) == (b == 39)) && (Lib.upperB (low b) == Lib.upperB b) && (Lib.lowerB (low b) == Lib.lowerB b) && (!digB b || low b == b) && (letB b || low b == b)
theorem low_ok (b : UInt8) : lowOK b = true := all_u8 (p := lowOK) (by decide +kernel) b
theorem low_all (b : UInt8) : isSp (low b) = isSp b ∧ wordB (low b) = wordB b ∧ digB (low b) = digB b ∧ letB (low b) = letB b ∧ (low b == 39) = (b == 39) ∧ Lib.upperB (low b) = Lib.upperB b ∧ Lib.lowerB (low b) = Lib.lowerB b ∧ (digB b = true → low b = b) ∧ (letB b = false → low b = b) := by
  have h := low_ok b
  unfold lowOK at h
  simp only [Bool.and_eq_true, beq_iff_eq, Bool.or_eq_true, Bool.not_eq_true'] at h
  obtain ⟨⟨⟨⟨⟨⟨⟨⟨h1, h2⟩, h3⟩, h4⟩, h5⟩, h6⟩, h7⟩, h8⟩, h9⟩ := h
  refine ⟨h1, h2, h3, h4, h5, h6, h7, fun h => ?_, fun h => ?_⟩
  · rcases h8 with h8 | h8
    · rw [h] at h8; cases h8
    · exact h8
  · rcases h9 with h9 | h9
    · rw [h] at h9; cases h9
    · exact h9
theorem case_cons {b : UInt8} (h : (b == 39) = false) (q : Bool) (l : List UInt8) : caseL q (b :: l) = lowC q b :: caseL q l := by
  have : flipQ q b = q := by unfold flipQ; rw [h]; rfl
  rw [caseL, this]
theorem case_q (q : Bool) (l : List UInt8) : caseL q (39 :: l) = 39 :: caseL (!q) l := by
  have : flipQ q 39 = !q := rfl
  have h2 : lowC (!q) 39 = 39 := by cases q <;> rfl
  rw [caseL, this, h2]
theorem case_run {p : UInt8 → Bool} (hp : ∀ b, p (low b) = p b) (h39 : p 39 = false) : ∀ l : List UInt8,
    runN p (caseL false l) = runN p l ∧ (caseL false l).take (runN p l) = (l.take (runN p l)).map low ∧ (caseL false l).drop (runN p l) = caseL false (l.drop (runN p l))
  | [] => ⟨rfl, rfl, rfl⟩
  | b :: l => by
    obtain ⟨h1, h2, h3⟩ := case_run hp h39 l
    by_cases hb : p b = true
    · have hq : (b == 39) = false := by
        rw [beq_eq_false_iff_ne]
        rintro rfl
        rw [h39] at hb
        cases hb
      have e : runN p (b :: l) = runN p l + 1 := by rw [runN, if_pos hb]
      rw [case_cons hq, e]
      refine ⟨by rw [runN, if_pos (by rw [hp]; exact hb), h1], ?_, ?_⟩
      · rw [List.take_succ_cons, List.take_succ_cons, h2, List.map_cons]
      · rw [List.drop_succ_cons, List.drop_succ_cons, h3]
    · have e : runN p (b :: l) = 0 := by rw [runN, if_neg hb]
      rw [e]
      refine ⟨?_, by simp, by simp⟩
      by_cases hq : (b == 39) = true
      · have : b = 39 := by simpa using hq
        subst this
        rw [case_q, runN, if_neg hb]
      · rw [case_cons (by simpa using hq), runN, if_neg (by rw [hp]; exact hb)]
theorem case_head {p : UInt8 → Bool} (hp : ∀ b, p (low b) = p b) : ∀ l : List UInt8, headP p (caseL false l) = headP p l
  | [] => rfl
  | b :: l => by
    by_cases hq : (b == 39) = true
    · have : b = 39 := by simpa using hq
      subst this
      rw [case_q]; rfl
    · rw [case_cons (by simpa using hq)]
      exact hp b
theorem sp39 : isSp 39 = false := by decide +kernel
theorem wd39 : wordB 39 = false := by decide +kernel
theorem dg39 : digB 39 = false := by decide +kernel
theorem case_word (w : List UInt8) : wordL (w.map low) = wordL w := by
  have h1 : Lib.toUpperA (w.map low) = Lib.toUpperA w := by
    unfold Lib.toUpperA
    rw [List.map_map]
    exact List.map_congr_left fun b _ => (low_all b).2.2.2.2.2.1
  have h2 : Lib.toLowerA (w.map low) = Lib.toLowerA w := by
    unfold Lib.toLowerA
    rw [List.map_map]
    exact List.map_congr_left fun b _ => (low_all b).2.2.2.2.2.2.1
  unfold wordL
  rw [h1, h2, List.length_map]
theorem map_low_dig (l : List UInt8) : (l.take (runN digB l)).map low = l.take (runN digB l) := by
  have : (l.take (runN digB l)).map low = (l.take (runN digB l)).map id := List.map_congr_left fun b hb => (low_all b).2.2.2.2.2.2.2.1 (run_all digB l b hb)
  rw [this, List.map_id]
theorem case_num (l : List UInt8) : numL (caseL false l) = numL l := by
  obtain ⟨h1, h2, h3⟩ := case_run (fun b => (low_all b).2.2.1) dg39 l
  have e : numE (caseL false l) = numE l := by
    unfold numE
    rw [h1, h3, h2, map_low_dig, case_head (fun b => (low_all b).2.2.2.1)]
  unfold numL
  rw [e, h1, h2, map_low_dig]
theorem case_text : ∀ (l acc : List UInt8), textL (caseL true l) acc = textL l acc ∧ ((textL l acc).1.2 = 0 → (caseL true l).drop (textL l acc).2 = caseL false (l.drop (textL l acc).2))
  | [], acc => ⟨rfl, fun h => by cases h⟩
  | [b], acc => by
    by_cases hq : (b == 39) = true
    · have : b = 39 := by simpa using hq
      subst this
      exact ⟨rfl, fun _ => rfl⟩
    · have hq' : (b == 39) = false := by simpa using hq
      rw [case_cons hq', lowC_true]
      refine ⟨rfl, fun h => ?_⟩
      rw [textL_step b [] acc hq'] at h
      cases h
  | b :: c :: l, acc => by
    by_cases hq : (b == 39) = true
    · have : b = 39 := by simpa using hq
      subst this
      rw [case_q]
      by_cases hc : (c == 39) = true
      · have : c = 39 := by simpa using hc
        subst this
        obtain ⟨h1, h2⟩ := case_text l (acc ++ [39])
        have e : ∀ l : List UInt8, textL (39 :: 39 :: l) acc = ((textL l (acc ++ [39])).1, (textL l (acc ++ [39])).2 + 2) := fun l => by rw [textL]; rfl
        rw [case_q]
        simp only [Bool.not_true, Bool.not_false]
        rw [e, e, h1]
        exact ⟨rfl, fun h => h2 h⟩
      · have hc' : (c == 39) = false := by simpa using hc
        have e : ∀ (d : UInt8) (l : List UInt8), (d == 39) = false → textL (39 :: d :: l) acc = (endT acc, 1) := fun d l hd => by rw [textL, if_pos (by rfl), if_pos (by simp [bne, hd])]
        simp only [Bool.not_true]
        rw [case_cons hc', e _ _ (by rw [(low_all c).2.2.2.2.1]; exact hc'), e _ _ hc']
        exact ⟨rfl, fun _ => by rw [List.drop_succ_cons, List.drop_zero, List.drop_succ_cons, List.drop_zero, case_cons hc']⟩
    · have hq' : (b == 39) = false := by simpa using hq
      obtain ⟨h1, h2⟩ := case_text (c :: l) (acc ++ [b])
      rw [case_cons hq', lowC_true, textL_step b _ acc hq', textL_step b _ acc hq', h1]
      exact ⟨rfl, fun h => h2 h⟩
theorem mem_of_prefix : ∀ {a l : List UInt8}, a.isPrefixOf l = true → ∀ x ∈ a, x ∈ l
  | [], _, _, x, h => by cases h
  | _ :: _, [], h, _, _ => by cases h
  | a :: ar, b :: br, h, x, hx => by
    simp only [List.isPrefixOf, Bool.and_eq_true, beq_iff_eq] at h
    rcases List.mem_cons.1 hx with rfl | hx
    · rw [h.1]; exact List.mem_cons_self
    · exact List.mem_cons_of_mem _ (mem_of_prefix h.2 x hx)
theorem mem_contains {s sub : List UInt8} (h : Lib.contains s sub = true) : ∀ x ∈ sub, x ∈ s := fun x hx => by
  unfold Lib.contains at h
  have h := of_decide_eq_true h
  rcases Lib.index_spec s sub with ⟨h1, _⟩ | ⟨i, _, _, h3, _⟩
  · omega
  · exact List.mem_of_mem_drop (mem_of_prefix h3 x hx)
theorem sg_letter (b : UInt8) : (!(letB b) || !(sgB.data.toList.contains b)) = true := all_u8 (p := fun b => !(letB b) || !(sgB.data.toList.contains b)) (by decide +kernel) b
theorem sg_quote : (39 : UInt8) ∉ sgB.data.toList := by decide +kernel
theorem sg_no {b : UInt8} (h : letB b = true) : b ∉ sgB.data.toList := fun hb => by
  have := sg_letter b
  rw [h, List.contains_iff_mem.2 hb] at this
  cases this
theorem try_no {l : List UInt8} {q : Nat} {b : UInt8} (hb : b ∈ l.take q) (h : b ∉ sgB.data.toList) : tryL l q = false := by
  unfold tryL
  cases hc : Lib.contains sgB.data.toList (padL (l.take q))
  · simp
  · exact absurd (mem_contains hc b (by unfold padL; simp; exact .inr (.inl hb))) h
theorem case_sign {b : UInt8} {l : List UInt8} (h1 : letB b = false) (h3 : (b == 39) = false) : signL (caseL false (b :: l)) = signL (b :: l) ∧ ((signL (b :: l)).1.2 = 0 → (caseL false (b :: l)).drop (signL (b :: l)).2 = caseL false ((b :: l).drop (signL (b :: l)).2)) := by
  have hb : lowC false b = b := (low_all b).2.2.2.2.2.2.2.2 h1
  rw [case_cons h3, hb]
  have e1 : tryL (b :: caseL false l) 1 = tryL (b :: l) 1 := by
    unfold tryL
    simp
  have key : tryL (b :: caseL false l) 2 = tryL (b :: l) 2 ∧ (tryL (b :: l) 2 = true → (b :: caseL false l).take 2 = (b :: l).take 2 ∧ (b :: caseL false l).drop 2 = caseL false ((b :: l).drop 2)) := by
    cases l with
    | nil => exact ⟨rfl, fun h => by simp [tryL] at h⟩
    | cons c l =>
      by_cases hq : (c == 39) = true
      · have : c = 39 := by simpa using hq
        subst this
        have h9 : ∀ l : List UInt8, tryL (b :: 39 :: l) 2 = false := fun l => try_no (b := 39) (by simp) sg_quote
        rw [case_q, h9, h9]
        exact ⟨rfl, fun h => by cases h⟩
      · have hq' : (c == 39) = false := by simpa using hq
        rw [case_cons hq']
        by_cases hl : letB c = true
        · have h9 : ∀ (d : UInt8) (l : List UInt8), letB d = true → tryL (b :: d :: l) 2 = false := fun d l hd => try_no (b := d) (by simp) (sg_no hd)
          rw [h9 _ _ (show letB (lowC false c) = true by rw [(low_all c).2.2.2.1]; exact hl), h9 _ _ hl]
          exact ⟨rfl, fun h => by cases h⟩
        · have hc : lowC false c = c := (low_all c).2.2.2.2.2.2.2.2 (by simpa using hl)
          rw [hc]
          exact ⟨by simp [tryL, caseL_len], fun _ => ⟨rfl, rfl⟩⟩
  unfold signL
  rw [key.1, e1]
  by_cases h2 : tryL (b :: l) 2 = true
  · rw [if_pos h2, if_pos h2, (key.2 h2).1]
    exact ⟨rfl, fun _ => (key.2 h2).2⟩
  rw [if_neg h2, if_neg h2]
  by_cases h4 : tryL (b :: l) 1 = true
  · rw [if_pos h4, if_pos h4]
    exact ⟨rfl, fun _ => rfl⟩
  rw [if_neg h4, if_neg h4]
  exact ⟨rfl, fun h => by cases h⟩
theorem case_step {b : UInt8} {l : List UInt8} : stepL (caseL false (b :: l)) = stepL (b :: l) ∧ ((stepL (b :: l)).1.2 = 0 → (caseL false (b :: l)).drop (stepL (b :: l)).2 = caseL false ((b :: l).drop (stepL (b :: l)).2)) := by
  by_cases hq : (b == 39) = true
  · have : b = 39 := by simpa using hq
    subst this
    have e : ∀ l : List UInt8, stepL (39 :: l) = ((textL l []).1, (textL l []).2 + 1) := fun l => by
      rw [stepL, if_neg (by decide +kernel), if_neg (by decide +kernel), if_pos (by rfl)]
    obtain ⟨h1, h2⟩ := case_text l []
    rw [case_q, e, e]
    simp only [Bool.not_false]
    rw [h1]
    exact ⟨rfl, fun h => h2 h⟩
  have hq' : (b == 39) = false := by simpa using hq
  have ec := case_cons hq' false l
  by_cases h1 : letB b = true
  · obtain ⟨r1, r2, r3⟩ := case_run (fun b => (low_all b).2.1) wd39 (b :: l)
    have e1 : stepL (b :: l) = (wordL ((b :: l).take (runN wordB (b :: l))), runN wordB (b :: l)) := by rw [stepL, if_pos h1]
    have e2 : stepL (caseL false (b :: l)) = (wordL ((caseL false (b :: l)).take (runN wordB (caseL false (b :: l)))), runN wordB (caseL false (b :: l))) := by
      rw [ec, stepL, if_pos (by rw [show letB (lowC false b) = letB b from (low_all b).2.2.2.1]; exact h1)]
    rw [e2, e1, r1, r2, case_word]
    exact ⟨rfl, fun _ => r3⟩
  have h1' : ¬ letB (lowC false b) = true := by rw [show letB (lowC false b) = letB b from (low_all b).2.2.2.1]; exact h1
  by_cases h2 : digB b = true
  · obtain ⟨r1, r2, r3⟩ := case_run (fun b => (low_all b).2.2.1) dg39 (b :: l)
    have e1 : stepL (b :: l) = (numL (b :: l), runN digB (b :: l)) := by rw [stepL, if_neg h1, if_pos h2]
    have e2 : stepL (caseL false (b :: l)) = (numL (caseL false (b :: l)), runN digB (caseL false (b :: l))) := by
      rw [ec, stepL, if_neg h1', if_pos (by rw [show digB (lowC false b) = digB b from (low_all b).2.2.1]; exact h2)]
    rw [e2, e1, r1, case_num]
    exact ⟨rfl, fun _ => r3⟩
  have h2' : ¬ digB (lowC false b) = true := by rw [show digB (lowC false b) = digB b from (low_all b).2.2.1]; exact h2
  have h3' : ¬ (lowC false b == 39) = true := by rw [show (lowC false b == 39) = (b == 39) from (low_all b).2.2.2.2.1]; exact hq
  have e1 : stepL (b :: l) = signL (b :: l) := by rw [stepL, if_neg h1, if_neg h2, if_neg hq]
  have e2 : stepL (caseL false (b :: l)) = signL (caseL false (b :: l)) := by rw [ec, stepL, if_neg h1', if_neg h2', if_neg h3']
  rw [e2, e1]
  exact case_sign (by simpa using h1) hq'
theorem case_allG : ∀ (f : Nat) (l : List UInt8), allG f (caseL false l) = allG f l
  | 0, _ => rfl
  | f + 1, l => by
    obtain ⟨r1, _, r3⟩ := case_run (fun b => (low_all b).1) sp39 l
    unfold allG
    rw [r1, r3]
    cases hd : l.drop (runN isSp l) with
    | nil => rfl
    | cons b r =>
      obtain ⟨s1, s2⟩ := case_step (b := b) (l := r)
      have hne : ∃ x y, caseL false (b :: r) = x :: y := ⟨_, _, by rw [caseL]⟩
      obtain ⟨x, y, hxy⟩ := hne
      rw [hxy] at s1 s2 ⊢
      dsimp only
      rw [s1]
      by_cases he : (stepL (b :: r)).1.2 = 0
      · rw [s2 he, case_allG f]
      · rw [if_pos (by simpa using he), if_pos (by simpa using he)]
theorem law_case (l : List UInt8) : lexL (caseL false l) = lexL l := by
  unfold lexL
  rw [caseL_len, case_allG]
theorem sameT_refl : ∀ l : List T3, sameT l l = true
  | [] => rfl
  | x :: l => by
    rw [sameT, sameT_refl l]
    simp [teq, seq]
end Go.Proofs.YtjjgckmdfblmgaaDoor
