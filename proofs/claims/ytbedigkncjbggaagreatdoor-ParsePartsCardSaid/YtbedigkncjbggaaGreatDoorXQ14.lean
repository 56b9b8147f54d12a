/- Capitals and small letters: plain law. No condition. -/
import Derived.Test.YtbedigkncjbggaaGreatDoorXQ13
import Derived.Test.YtbedigkncjbggaaGreatDoorXQ4
import Derived.Test.YtbedigkncjbggaaGreatDoorXQ2
import Derived.Test.YtbedigkncjbggaaGreatDoorXQ12
import Derived.Test.YtbedigkncjbggaaGreatDoorXG8
set_option maxRecDepth 20000
namespace Go.Proofs.YtbedigkncjbggaaGreatDoor
open Go Go.Vc
theorem Z9I {p : UInt8 → Bool} (h : ∀ n : Nat, n < 256 → p (UInt8.ofNat n) = true) (b : UInt8) : p b = true := by
 have := h b.toNat b.toNat_lt
 rwa [UInt8.ofNat_toNat] at this
abbrev low (b : UInt8) : UInt8 := lowC false b
theorem ZaD (b : UInt8) : lowC true b = b := rfl
def lowOK (b : UInt8) : Bool := (isSp (low b) == isSp b) && (wordB (low b) == wordB b) && (digB (low b) == digB b) && (letB (low b) == letB b) && ((low b == 39) == (b == 39)) && (Lib.upperB (low b) == Lib.upperB b) && (Lib.lowerB (low b) == Lib.lowerB b) && (!digB b || low b == b) && (letB b || low b == b)
theorem ZiE (b : UInt8) : lowOK b = true := Z9I (p := lowOK) (by decide +kernel) b
theorem Z1U (b : UInt8) : isSp (low b) = isSp b ∧ wordB (low b) = wordB b ∧ digB (low b) = digB b ∧ letB (low b) = letB b ∧ (low b == 39) = (b == 39) ∧ Lib.upperB (low b) = Lib.upperB b ∧ Lib.lowerB (low b) = Lib.lowerB b ∧ (digB b = true → low b = b) ∧ (letB b = false → low b = b) := by
  have h := ZiE b
  unfold lowOK at h
  simp only [Bool.and_eq_true, beq_iff_eq, Bool.or_eq_true, Bool.not_eq_true'] at h
  obtain ⟨⟨⟨⟨⟨⟨⟨⟨h1, h2⟩, h3⟩, h4⟩, h5⟩, h6⟩, h7⟩, h8⟩, h9⟩ := h
  refine ⟨h1, h2, h3, h4, h5, h6, h7, fun h => ?_, fun h => ?_⟩
  · rcases h8 with h8 | h8
    · rw [h] at h8; cases h8
    · exact h8
  · rcases h9 with h9 | h9
    · rw [h] at h9; cases h9
    · exact h9
theorem Z2y {b : UInt8} (h : (b == 39) = false) (q : Bool) (l : List UInt8) : caseL q (b :: l) = lowC q b :: caseL q l := by
 have : flipQ q b = q := by unfold flipQ; rw [h]; rfl
 rw [caseL, this]
theorem Z74 (q : Bool) (l : List UInt8) : caseL q (39 :: l) = 39 :: caseL (!q) l := by
 have : flipQ q 39 = !q := rfl
 have h2 : lowC (!q) 39 = 39 := by cases q <;> rfl
 rw [caseL, this, h2]
theorem Z61 {p : UInt8 → Bool} (hp : ∀ b, p (low b) = p b) (h39 : p 39 = false) : ∀ l : List UInt8,
    runN p (caseL false l) = runN p l ∧ (caseL false l).take (runN p l) = (l.take (runN p l)).map low ∧ (caseL false l).drop (runN p l) = caseL false (l.drop (runN p l))
  | [] => ⟨rfl, rfl, rfl⟩
  | b :: l => by
    obtain ⟨h1, h2, h3⟩ := Z61 hp h39 l
    by_cases hb : p b = true
    · have hq : (b == 39) = false := by
        rw [beq_eq_false_iff_ne]
        rintro rfl
        rw [h39] at hb
        cases hb
      have e : runN p (b :: l) = runN p l + 1 := by rw [runN, if_pos hb]
      rw [Z2y hq, e]
      refine ⟨by rw [runN, if_pos (by rw [hp]; exact hb), h1], ?_, ?_⟩
      · rw [List.take_succ_cons, List.take_succ_cons, h2, List.map_cons]
      · rw [List.drop_succ_cons, List.drop_succ_cons, h3]
    · have e : runN p (b :: l) = 0 := by rw [runN, if_neg hb]
      rw [e]
      refine ⟨?_, by simp, by simp⟩
      by_cases hq : (b == 39) = true
      · have : b = 39 := by simpa using hq
        subst this
        rw [Z74, runN, if_neg hb]
      · rw [Z2y (by simpa using hq), runN, if_neg (by rw [hp]; exact hb)]
theorem ZeC {p : UInt8 → Bool} (hp : ∀ b, p (low b) = p b) : ∀ l : List UInt8, headP p (caseL false l) = headP p l
  | [] => rfl
  | b :: l => by
    by_cases hq : (b == 39) = true
    · have : b = 39 := by simpa using hq
      subst this
      rw [Z74]; rfl
    · rw [Z2y (by simpa using hq)]
      exact hp b
theorem sp39 : isSp 39 = false := by decide +kernel
theorem wd39 : wordB 39 = false := by decide +kernel
theorem dg39 : digB 39 = false := by decide +kernel
theorem ZfU (w : List UInt8) : wordL (w.map low) = wordL w := by
  have h1 : Lib.toUpperA (w.map low) = Lib.toUpperA w := by
    unfold Lib.toUpperA
    rw [List.map_map]
    exact List.map_congr_left fun b _ => (Z1U b).2.2.2.2.2.1
  have h2 : Lib.toLowerA (w.map low) = Lib.toLowerA w := by
    unfold Lib.toLowerA
    rw [List.map_map]
    exact List.map_congr_left fun b _ => (Z1U b).2.2.2.2.2.2.1
  unfold wordL
  rw [h1, h2, List.length_map]
theorem Z90 (l : List UInt8) : (l.take (runN digB l)).map low = l.take (runN digB l) := by
 have : (l.take (runN digB l)).map low = (l.take (runN digB l)).map id := List.map_congr_left fun b hb => (Z1U b).2.2.2.2.2.2.2.1 (Za5 digB l b hb)
 rw [this, List.map_id]
theorem Zgz (l : List UInt8) : numL (caseL false l) = numL l := by
  obtain ⟨h1, h2, h3⟩ := Z61 (fun b => (Z1U b).2.2.1) dg39 l
  have e : numE (caseL false l) = numE l := by
    unfold numE
    rw [h1, h3, h2, Z90, ZeC (fun b => (Z1U b).2.2.2.1)]
  unfold numL
  rw [e, h1, h2, Z90]
theorem Z8t : ∀ (l acc : List UInt8), textL (caseL true l) acc = textL l acc ∧ ((textL l acc).1.2 = 0 → (caseL true l).drop (textL l acc).2 = caseL false (l.drop (textL l acc).2))
  | [], acc => ⟨rfl, fun h => by cases h⟩
  | [b], acc => by
    by_cases hq : (b == 39) = true
    · have : b = 39 := by simpa using hq
      subst this
      exact ⟨rfl, fun _ => rfl⟩
    · have hq' : (b == 39) = false := by simpa using hq
      rw [Z2y hq', ZaD]
      refine ⟨rfl, fun h => ?_⟩
      rw [Z2S b [] acc hq'] at h
      cases h
  | b :: c :: l, acc => by
    by_cases hq : (b == 39) = true
    · have : b = 39 := by simpa using hq
      subst this
      rw [Z74]
      by_cases hc : (c == 39) = true
      · have : c = 39 := by simpa using hc
        subst this
        obtain ⟨h1, h2⟩ := Z8t l (acc ++ [39])
        have e : ∀ l : List UInt8, textL (39 :: 39 :: l) acc = ((textL l (acc ++ [39])).1, (textL l (acc ++ [39])).2 + 2) := fun l => by rw [textL]; rfl
        rw [Z74]
        simp only [Bool.not_true, Bool.not_false]
        rw [e, e, h1]
        exact ⟨rfl, fun h => h2 h⟩
      · have hc' : (c == 39) = false := by simpa using hc
        have e : ∀ (d : UInt8) (l : List UInt8), (d == 39) = false → textL (39 :: d :: l) acc = (endT acc, 1) := fun d l hd => by rw [textL, if_pos (by rfl), if_pos (by simp [bne, hd])]
        simp only [Bool.not_true]
        rw [Z2y hc', e _ _ (by rw [(Z1U c).2.2.2.2.1]; exact hc'), e _ _ hc']
        exact ⟨rfl, fun _ => by rw [List.drop_succ_cons, List.drop_zero, List.drop_succ_cons, List.drop_zero, Z2y hc']⟩
    · have hq' : (b == 39) = false := by simpa using hq
      obtain ⟨h1, h2⟩ := Z8t (c :: l) (acc ++ [b])
      rw [Z2y hq', ZaD, Z2S b _ acc hq', Z2S b _ acc hq', h1]
      exact ⟨rfl, fun h => h2 h⟩
theorem Z7W : ∀ {a l : List UInt8}, a.isPrefixOf l = true → ∀ x ∈ a, x ∈ l
  | [], _, _, x, h => by cases h
  | _ :: _, [], h, _, _ => by cases h
  | a :: ar, b :: br, h, x, hx => by
    simp only [List.isPrefixOf, Bool.and_eq_true, beq_iff_eq] at h
    rcases List.mem_cons.1 hx with rfl | hx
    · rw [h.1]; exact List.mem_cons_self
    · exact List.mem_cons_of_mem _ (Z7W h.2 x hx)
theorem Zc5 {s sub : List UInt8} (h : Lib.contains s sub = true) : ∀ x ∈ sub, x ∈ s := fun x hx => by
 unfold Lib.contains at h
 have h := of_decide_eq_true h
 rcases Lib.index_spec s sub with ⟨h1, _⟩ | ⟨i, _, _, h3, _⟩
 · omega
 · exact List.mem_of_mem_drop (Z7W h3 x hx)
theorem Zfl (b : UInt8) : (!(letB b) || !(sgB.data.toList.contains b)) = true := Z9I (p := fun b => !(letB b) || !(sgB.data.toList.contains b)) (by decide +kernel) b
theorem ZgY : (39 : UInt8) ∉ sgB.data.toList := by decide +kernel
theorem Zjc {b : UInt8} (h : letB b = true) : b ∉ sgB.data.toList := fun hb => by
 have := Zfl b
 rw [h, List.contains_iff_mem.2 hb] at this
 cases this
theorem Zf9 {l : List UInt8} {q : Nat} {b : UInt8} (hb : b ∈ l.take q) (h : b ∉ sgB.data.toList) : tryL l q = false := by
 unfold tryL
 cases hc : Lib.contains sgB.data.toList (padL (l.take q))
 · simp
 · exact absurd (Zc5 hc b (by unfold padL; simp; exact .inr (.inl hb))) h
theorem ZeU {b : UInt8} {l : List UInt8} (h1 : letB b = false) (h3 : (b == 39) = false) : signL (caseL false (b :: l)) = signL (b :: l) ∧ ((signL (b :: l)).1.2 = 0 → (caseL false (b :: l)).drop (signL (b :: l)).2 = caseL false ((b :: l).drop (signL (b :: l)).2)) := by
  have hb : lowC false b = b := (Z1U b).2.2.2.2.2.2.2.2 h1
  rw [Z2y h3, hb]
  have e1 : tryL (b :: caseL false l) 1 = tryL (b :: l) 1 := by
    unfold tryL
    simp
  have key : tryL (b :: caseL false l) 2 = tryL (b :: l) 2 ∧ (tryL (b :: l) 2 = true → (b :: caseL false l).take 2 = (b :: l).take 2 ∧ (b :: caseL false l).drop 2 = caseL false ((b :: l).drop 2)) := by
    cases l with
    | nil => exact ⟨rfl, fun h => by simp [tryL] at h⟩
    | cons c l =>
      by_cases hq : (c == 39) = true
      · have : c = 39 := by simpa using hq
        subst this
        have h9 : ∀ l : List UInt8, tryL (b :: 39 :: l) 2 = false := fun l => Zf9 (b := 39) (by simp) ZgY
        rw [Z74, h9, h9]
        exact ⟨rfl, fun h => by cases h⟩
      · have hq' : (c == 39) = false := by simpa using hq
        rw [Z2y hq']
        by_cases hl : letB c = true
        · have h9 : ∀ (d : UInt8) (l : List UInt8), letB d = true → tryL (b :: d :: l) 2 = false := fun d l hd => Zf9 (b := d) (by simp) (Zjc hd)
          rw [h9 _ _ (show letB (lowC false c) = true by rw [(Z1U c).2.2.2.1]; exact hl), h9 _ _ hl]
          exact ⟨rfl, fun h => by cases h⟩
        · have hc : lowC false c = c := (Z1U c).2.2.2.2.2.2.2.2 (by simpa using hl)
          rw [hc]
          exact ⟨by simp [tryL, Z8f], fun _ => ⟨rfl, rfl⟩⟩
  unfold signL
  rw [key.1, e1]
  by_cases h2 : tryL (b :: l) 2 = true
  · rw [if_pos h2, if_pos h2, (key.2 h2).1]
    exact ⟨rfl, fun _ => (key.2 h2).2⟩
  rw [if_neg h2, if_neg h2]
  by_cases h4 : tryL (b :: l) 1 = true
  · rw [if_pos h4, if_pos h4]
    exact ⟨rfl, fun _ => rfl⟩
  rw [if_neg h4, if_neg h4]
  exact ⟨rfl, fun h => by cases h⟩
theorem Zfh {b : UInt8} {l : List UInt8} : stepL (caseL false (b :: l)) = stepL (b :: l) ∧ ((stepL (b :: l)).1.2 = 0 → (caseL false (b :: l)).drop (stepL (b :: l)).2 = caseL false ((b :: l).drop (stepL (b :: l)).2)) := by
  by_cases hq : (b == 39) = true
  · have : b = 39 := by simpa using hq
    subst this
    have e : ∀ l : List UInt8, stepL (39 :: l) = ((textL l []).1, (textL l []).2 + 1) := fun l => by
      rw [stepL, if_neg (by decide +kernel), if_neg (by decide +kernel), if_pos (by rfl)]
    obtain ⟨h1, h2⟩ := Z8t l []
    rw [Z74, e, e]
    simp only [Bool.not_false]
    rw [h1]
    exact ⟨rfl, fun h => h2 h⟩
  have hq' : (b == 39) = false := by simpa using hq
  have ec := Z2y hq' false l
  by_cases h1 : letB b = true
  · obtain ⟨r1, r2, r3⟩ := Z61 (fun b => (Z1U b).2.1) wd39 (b :: l)
    have e1 : stepL (b :: l) = (wordL ((b :: l).take (runN wordB (b :: l))), runN wordB (b :: l)) := by rw [stepL, if_pos h1]
    have e2 : stepL (caseL false (b :: l)) = (wordL ((caseL false (b :: l)).take (runN wordB (caseL false (b :: l)))), runN wordB (caseL false (b :: l))) := by
      rw [ec, stepL, if_pos (by rw [show letB (lowC false b) = letB b from (Z1U b).2.2.2.1]; exact h1)]
    rw [e2, e1, r1, r2, ZfU]
    exact ⟨rfl, fun _ => r3⟩
  have h1' : ¬ letB (lowC false b) = true := by rw [show letB (lowC false b) = letB b from (Z1U b).2.2.2.1]; exact h1
  by_cases h2 : digB b = true
  · obtain ⟨r1, r2, r3⟩ := Z61 (fun b => (Z1U b).2.2.1) dg39 (b :: l)
    have e1 : stepL (b :: l) = (numL (b :: l), runN digB (b :: l)) := by rw [stepL, if_neg h1, if_pos h2]
    have e2 : stepL (caseL false (b :: l)) = (numL (caseL false (b :: l)), runN digB (caseL false (b :: l))) := by
      rw [ec, stepL, if_neg h1', if_pos (by rw [show digB (lowC false b) = digB b from (Z1U b).2.2.1]; exact h2)]
    rw [e2, e1, r1, Zgz]
    exact ⟨rfl, fun _ => r3⟩
  have h2' : ¬ digB (lowC false b) = true := by rw [show digB (lowC false b) = digB b from (Z1U b).2.2.1]; exact h2
  have h3' : ¬ (lowC false b == 39) = true := by rw [show (lowC false b == 39) = (b == 39) from (Z1U b).2.2.2.2.1]; exact hq
  have e1 : stepL (b :: l) = signL (b :: l) := by rw [stepL, if_neg h1, if_neg h2, if_neg hq]
  have e2 : stepL (caseL false (b :: l)) = signL (caseL false (b :: l)) := by rw [ec, stepL, if_neg h1', if_neg h2', if_neg h3']
  rw [e2, e1]
  exact ZeU (by simpa using h1) hq'
theorem Zax : ∀ (f : Nat) (l : List UInt8), allG f (caseL false l) = allG f l
  | 0, _ => rfl
  | f + 1, l => by
    obtain ⟨r1, _, r3⟩ := Z61 (fun b => (Z1U b).1) sp39 l
    unfold allG
    rw [r1, r3]
    cases hd : l.drop (runN isSp l) with
    | nil => rfl
    | cons b r =>
      obtain ⟨s1, s2⟩ := Zfh (b := b) (l := r)
      have hne : ∃ x y, caseL false (b :: r) = x :: y := ⟨_, _, by rw [caseL]⟩
      obtain ⟨x, y, hxy⟩ := hne
      rw [hxy] at s1 s2 ⊢
      dsimp only
      rw [s1]
      by_cases he : (stepL (b :: r)).1.2 = 0
      · rw [s2 he, Zax f]
      · rw [if_pos (by simpa using he), if_pos (by simpa using he)]
theorem Zbp (l : List UInt8) : lexL (caseL false l) = lexL l := by
 unfold lexL
 rw [Z8f, Zax]
end Go.Proofs.YtbedigkncjbggaaGreatDoor
set_option maxRecDepth 20000
namespace Go.Proofs.YtbedigkncjbggaaGreatDoor
open Go Go.Vc
theorem Z9c (p : UInt8 → Bool) (l m : List UInt8) : (l ++ m).take (runN p l) = l.take (runN p l) := List.take_append_of_le_length (Z51 p l)
theorem Zcp (p : UInt8 → Bool) (l m : List UInt8) : (l ++ m).drop (runN p l) = l.drop (runN p l) ++ m := List.drop_append_of_le_length (Z51 p l)
end Go.Proofs.YtbedigkncjbggaaGreatDoor
set_option maxRecDepth 20000
namespace Go.Proofs.YtbedigkncjbggaaGreatDoor
open Go Go.Vc
structure Sep (c : UInt8) : Prop where
  wd : wordB c = false
  dg : digB c = false
  lt : letB c = false
  nq : (c == 39) = false
  sg : ∀ b l, tryL (b :: c :: l) 2 = false
theorem ZfK {c : UInt8} (h1 : wordB c = false) (h2 : digB c = false) (h3 : letB c = false) (h4 : (c == 39) = false) (h5 : ∀ n : Nat, n < 256 → (!(tryL [UInt8.ofNat n, c] 2)) = true) : Sep c :=
 ⟨h1, h2, h3, h4, fun b l => by
  have := Z9I (p := fun b => !(tryL [b, c] 2)) h5 b
  have e : tryL (b :: c :: l) 2 = tryL [b, c] 2 := by unfold tryL; simp
  rw [e]
  simpa using this⟩
theorem Zc4 : Sep 59 := ZfK (by decide +kernel) (by decide +kernel) (by decide +kernel) (by decide +kernel) (by decide +kernel)
theorem ZhK : Sep 9 := ZfK (by decide +kernel) (by decide +kernel) (by decide +kernel) (by decide +kernel) (by decide +kernel)
section
variable {c : UInt8} (hc : Sep c)
theorem Z6b {p : UInt8 → Bool} (h10 : p c = false) (k : List UInt8) : ∀ l : List UInt8, runN p (l ++ c :: k) = runN p l
  | [] => by
    show runN p (c :: k) = 0
    simp [runN, h10]
  | b :: l => by
    rw [List.cons_append, runN, runN, Z6b h10 k l]
theorem Zew {p : UInt8 → Bool} (h10 : p c = false) (k : List UInt8) : ∀ l : List UInt8, headP p (l ++ c :: k) = headP p l
 | [] => h10
 | _ :: _ => rfl
include hc in
theorem Zgg (l k : List UInt8) : numL (l ++ c :: k) = numL l := by
 have e : numE (l ++ c :: k) = numE l := by
  unfold numE
  rw [Z6b hc.dg, Z9c, Zcp, Zew hc.lt]
 unfold numL
 rw [e, Z6b hc.dg, Z9c]
include hc in
theorem Z8h (k : List UInt8) : ∀ (l acc : List UInt8), (textL l acc).1.2 = 0 → textL (l ++ c :: k) acc = textL l acc
  | [], acc, h => by cases h
  | [b], acc, h => by
    by_cases hq : (b == 39) = true
    · have : b = 39 := by simpa using hq
      subst this
      show textL (39 :: c :: k) acc = textL [39] acc
      have e : ∀ (d : UInt8) (l : List UInt8), (d == 39) = false → textL (39 :: d :: l) acc = (endT acc, 1) := fun d l hd => by rw [textL, if_pos (by rfl), if_pos (by simp [bne, hd])]
      rw [e c k hc.nq]
      rw [textL]; rfl
    · rw [Z2S b [] acc (by simpa using hq)] at h
      cases h
  | b :: d :: l, acc, h => by
    by_cases hq : (b == 39) = true
    · have : b = 39 := by simpa using hq
      subst this
      rw [List.cons_append, List.cons_append]
      by_cases hd : (d == 39) = true
      · have : d = 39 := by simpa using hd
        subst this
        have e : ∀ l : List UInt8, textL (39 :: 39 :: l) acc = ((textL l (acc ++ [39])).1, (textL l (acc ++ [39])).2 + 2) := fun l => by rw [textL]; rfl
        rw [e] at h
        rw [e, e, Z8h k l _ h]
      · have hd' : (d == 39) = false := by simpa using hd
        have e : ∀ (d : UInt8) (l : List UInt8), (d == 39) = false → textL (39 :: d :: l) acc = (endT acc, 1) := fun d l hd => by rw [textL, if_pos (by rfl), if_pos (by simp [bne, hd])]
        rw [e _ _ hd', e _ _ hd']
    · have hq' : (b == 39) = false := by simpa using hq
      rw [Z2S b _ acc hq'] at h
      have := Z8h k (d :: l) (acc ++ [b]) h
      rw [List.cons_append] at this
      rw [List.cons_append, List.cons_append, Z2S b _ acc hq', Z2S b _ acc hq', this]
include hc in
theorem Zf8 (b : UInt8) (l k : List UInt8) : signL ((b :: l) ++ c :: k) = signL (b :: l) := by
  have e1 : tryL ((b :: l) ++ c :: k) 1 = tryL (b :: l) 1 := by
    unfold tryL
    simp
  have e2 : tryL ((b :: l) ++ c :: k) 2 = tryL (b :: l) 2 := by
    cases l with
    | nil =>
      rw [List.cons_append, List.nil_append, hc.sg]
      rfl
    | cons d l =>
      unfold tryL
      simp
  unfold signL
  rw [e1, e2]
  by_cases h2 : tryL (b :: l) 2 = true
  · rw [if_pos h2, if_pos h2]
    cases l with
    | nil => simp [tryL] at h2
    | cons d l => rfl
  rw [if_neg h2, if_neg h2]
  rfl
include hc in
theorem Zfm {b : UInt8} {l k : List UInt8} (h : (stepL (b :: l)).1.2 = 0) : stepL ((b :: l) ++ c :: k) = stepL (b :: l) := by
  rw [List.cons_append]
  by_cases h1 : letB b = true
  · have e : ∀ l : List UInt8, stepL (b :: l) = (wordL ((b :: l).take (runN wordB (b :: l))), runN wordB (b :: l)) := fun l => by rw [stepL, if_pos h1]
    rw [e, e, ← List.cons_append, Z6b hc.wd, Z9c]
  by_cases h2 : digB b = true
  · have e : ∀ l : List UInt8, stepL (b :: l) = (numL (b :: l), runN digB (b :: l)) := fun l => by rw [stepL, if_neg h1, if_pos h2]
    rw [e, e, ← List.cons_append, Z6b hc.dg, Zgg hc]
  by_cases h3 : (b == 39) = true
  · have e : ∀ l : List UInt8, stepL (b :: l) = ((textL l []).1, (textL l []).2 + 1) := fun l => by rw [stepL, if_neg h1, if_neg h2, if_pos h3]
    rw [e] at h
    rw [e, e, Z8h hc k l [] h]
  have e : ∀ l : List UInt8, stepL (b :: l) = signL (b :: l) := fun l => by rw [stepL, if_neg h1, if_neg h2, if_neg h3]
  rw [e, e, ← List.cons_append, Zf8 hc]
theorem Zdv (m : List UInt8) : ∀ l : List UInt8, runN isSp l = l.length → runN isSp (l ++ m) = l.length + runN isSp m
  | [], _ => by simp
  | b :: l, h => by
    unfold runN at h
    split at h
    · rename_i hb
      rw [List.cons_append, runN, if_pos hb, Zdv m l (by simpa using h)]
      simp only [List.length_cons]
      omega
    · simp at h
theorem ZbN (k : List UInt8) : ∀ l : List UInt8, runN isSp l ≠ l.length → runN isSp (l ++ c :: k) = runN isSp l
  | [], h => absurd rfl h
  | b :: l, h => by
    rw [List.cons_append, runN, runN]
    split
    · rename_i hb
      rw [ZbN k l (fun e => h (by rw [runN, if_pos hb, e]; rfl))]
    · rfl
include hc in
theorem Z9C (k : List UInt8) : ∀ (n : Nat) (l : List UInt8), l.length ≤ n → (allA l).2 = 0 → allA (l ++ c :: k) = finA (allA l).1 (allA (c :: k))
  | n, l, hn, h => by
    by_cases hs : runN isSp l = l.length
    · have e1 : allA l = ([], 0) := by
        rw [← Z3N, hs, List.drop_length]; rfl
      have e2 : allA (l ++ c :: k) = allA (c :: k) := by
        rw [← Z3N (l ++ c :: k), Zdv (c :: k) l hs, ← Z3N (c :: k)]
        congr 1
        rw [List.drop_append, List.drop_eq_nil_of_le (by omega), List.nil_append]
        congr 1
        omega
      rw [e1, e2, ZbA]
    · have hle := Z51 isSp l
      have e0 : allA (l ++ c :: k) = allA (l.drop (runN isSp l) ++ c :: k) := by
        rw [← Z3N (l ++ c :: k), ZbN k l hs, Zcp]
      have e1 := Z3N l
      have hsp := ZdD l
      have hlen : (l.drop (runN isSp l)).length ≤ n := by rw [List.length_drop]; omega
      rw [e0, ← e1]
      rw [← e1] at h
      cases hd : l.drop (runN isSp l) with
      | nil =>
        have := congrArg List.length hd
        rw [List.length_drop] at this
        simp at this
        omega
      | cons b r =>
        rw [hd] at h hsp hlen
        rw [Z6r hsp (by simp)] at h ⊢
        by_cases he : (stepL (b :: r)).1.2 = 0
        · have hne : ((stepL (b :: r)).1.2 != 0) = false := by simp [he]
          rw [hne] at h ⊢
          simp only [Bool.false_eq_true, if_false] at h ⊢
          have hp := Z7K he
          have hl2 := Z8B (b :: r)
          have hr : (allA ((b :: r).drop (stepL (b :: r)).2)).2 = 0 := by
            unfold finA at h
            by_cases h9 : ((allA ((b :: r).drop (stepL (b :: r)).2)).2 != 0) = true
            · rw [if_pos h9] at h; exact h
            · simpa using h9
          have hsp2 : runN isSp ((b :: r) ++ c :: k) = 0 := by
            have hb : ¬ isSp b = true := fun hb => by rw [runN, if_pos hb] at hsp; omega
            rw [List.cons_append, runN, if_neg hb]
          rw [Z6r hsp2 (by simp), Zfm hc he, hne]
          simp only [Bool.false_eq_true, if_false]
          rw [List.drop_append_of_le_length hl2]
          match n, hlen with
          | 0, hlen => simp at hlen
          | n + 1, hlen =>
            rw [Z9C k n _ (by rw [List.length_drop]; omega) hr, Zbr]
            have : finA [(stepL (b :: r)).1.1] (allA ((b :: r).drop (stepL (b :: r)).2)) = ([(stepL (b :: r)).1.1] ++ (allA ((b :: r).drop (stepL (b :: r)).2)).1, 0) := by
              unfold finA
              rw [if_neg (by simp [hr])]
            rw [this]
        · rw [if_pos (by simpa using he)] at h
          exact absurd h he
end
theorem Z9Z {c : UInt8} (hc : Sep c) {l k : List UInt8} (h : l.length + k.length + 1 ≤ 2048) (he : (lexL l).2 = 0) (hk : (lexL (c :: k)).2 = 0) : lexL (l ++ c :: k) = ((lexL l).1 ++ (lexL (c :: k)).1, 0) := by
 have e1 : lexL l = allA l := by unfold lexL; rw [if_neg (by simp; omega)]; rfl
 have e2 : lexL (c :: k) = allA (c :: k) := by unfold lexL; rw [if_neg (by simp; omega)]; rfl
 have e3 : lexL (l ++ c :: k) = allA (l ++ c :: k) := by unfold lexL; rw [if_neg (by simp; omega)]; rfl
 rw [e1] at he
 rw [e2] at hk
 rw [e1, e2, e3, Z9C hc k l.length l (Nat.le_refl _) he]
 unfold finA
 rw [if_neg (by simp [hk])]
theorem ZhA {c : UInt8} (hc : isSp c = true) {l : List UInt8} (h : l.length + 1 ≤ 2048) : lexL (c :: l) = lexL l := by
 have e2 : lexL (c :: l) = allA (c :: l) := by unfold lexL; rw [if_neg (by simp; omega)]; rfl
 have e1 : lexL l = allA l := by unfold lexL; rw [if_neg (by simp; omega)]; rfl
 rw [e1, e2, ← Z3N (c :: l), runN, if_pos hc, List.drop_succ_cons, Z3N]
def smlB (b : UInt8) : Bool := decide (97 ≤ (b.toNat : Int)) && decide ((b.toNat : Int) ≤ 122)
def upC (q : Bool) (b : UInt8) : UInt8 := if !q && smlB b then b - 32 else b
def upL : Bool → List UInt8 → List UInt8
 | _, [] => []
 | q, b :: l => upC (flipQ q b) b :: upL (flipQ q b) l
theorem Zh0 (b : UInt8) : ((low (upC false b) == low b) && ((upC false b == 39) == (b == 39))) = true := Z9I (p := fun b => (low (upC false b) == low b) && ((upC false b == 39) == (b == 39))) (by decide +kernel) b
theorem Zj6 (q : Bool) (b : UInt8) : (upC q b == 39) = (b == 39) := by
  cases q with
  | true => rfl
  | false =>
    have := Zh0 b
    simp only [Bool.and_eq_true, beq_iff_eq] at this
    exact this.2
theorem Zhz (q : Bool) (b : UInt8) : lowC q (upC q b) = lowC q b := by
  cases q with
  | true => rfl
  | false =>
    have := Zh0 b
    simp only [Bool.and_eq_true, beq_iff_eq] at this
    exact this.1
theorem ZdE : ∀ (q : Bool) (l : List UInt8), caseL q (upL q l) = caseL q l
  | _, [] => rfl
  | q, b :: l => by
    rw [upL, caseL, caseL]
    have e : flipQ q (upC (flipQ q b) b) = flipQ q b := by unfold flipQ; rw [Zj6]
    rw [e, Zhz, ZdE]
theorem Zim (l : List UInt8) : lexL (upL false l) = lexL l := by
 rw [← Zbp (upL false l), ZdE, Zbp]
end Go.Proofs.YtbedigkncjbggaaGreatDoor
set_option maxRecDepth 20000
namespace Go.Proofs.YtbedigkncjbggaaGreatDoor
open Go Go.Vc Go.Pz
abbrev prS (l : List UInt8) : St × Int := readS (lexL l)
theorem Zaq {l : List UInt8} (h : (lexL l).2 ≠ 0) : prS l = (st0, (lexL l).2) := by
 show readS _ = _
 unfold readS; rw [if_neg (by simpa using h)]
theorem Z5Z {l : List UInt8} (h : (lexL l).2 = 0) : prS l = readT (lexL l).1 := by
 show readS _ = _
 unfold readS; rw [if_pos (by simpa using h)]
theorem Zdg {l : List UInt8} (h : 2048 < l.length) : lexL l = ([], 30) := by
 unfold lexL; rw [if_pos (by rw [decide_eq_true_eq]; omega)]
theorem Zas {l : List UInt8} (h : 2048 < l.length) : prS l = (st0, 30) := by
 rw [Zaq (by rw [Zdg h]; decide), Zdg h]
theorem Z9j {ts : List T3} (h : (readT ts).2 = 0) : ∃ s r, stmtP (exprP (ts.length + 1)) ts = some (s, r) ∧ skT 5 Z1I r = [] ∧ deepS s = false ∧ readT ts = (s, 0) := by
  unfold readT at h ⊢
  split at h
  · cases h
  rename_i s hs
  split at h
  · cases h
  rename_i hd
  unfold wholeP at hs
  obtain ⟨z, h1, h2⟩ := bnd hs
  split at h2
  · rename_i h3; injection h2 with h2; subst h2
    exact ⟨z.1, z.2, h1, h3, by simpa using hd, by rw [if_neg hd]⟩
  · cases h2
theorem Zgv {ts : List T3} {s : St} {r : List T3} (h1 : stmtP (exprP (ts.length + 1)) ts = some (s, r)) (h2 : skT 5 Z1I r = []) (h3 : deepS s = false) : readT ts = (s, 0) := by
 unfold readT wholeP
 rw [h1]
 simp only [Option.bind_some, h2]
 rw [if_neg (by rw [h3]; decide)]
theorem Z9d {ts : List T3} {s : St} {r : List T3} (h1 : stmtP (exprP (ts.length + 1)) ts = some (s, r)) (h2 : skT 5 Z1I r ≠ []) : readT ts = (st0, 30) := by
 unfold readT wholeP
 rw [h1]
 simp only [Option.bind_some]
 cases h : skT 5 Z1I r with
 | nil => exact absurd h h2
 | cons a b => rfl
theorem ZdK {r : List T3} (h : skT 5 Z1I r = []) : r = [] ∨ ∃ t, r = [t] ∧ isT 5 Z1I [t] = true := by
  unfold skT at h
  split at h
  · rename_i hi
    obtain ⟨t, r', rfl, _⟩ := Z53 hi
    simp at h; subst h
    exact .inr ⟨t, rfl, hi⟩
  · exact .inl h
abbrev tsemi : T3 := ⟨5, Z1I, 0⟩
abbrev trp : T3 := ⟨5, s_rp, 0⟩
theorem sem5 (t : T3) (r : List T3) (h : [tsemi] = t :: r) : t.k = 5 := by injection h with h _; subst h; rfl
theorem ZfA (r : List T3) : skT 5 Z1I (tsemi :: r) = r := rfl
theorem Zfe {ts : List T3} (h : (readT ts).2 = 0) : readT (ts ++ [tsemi]) = readT ts ∨ (readT (ts ++ [tsemi])).2 = 30 := by
  obtain ⟨s, r, h1, h2, h3, h4⟩ := Z9j h
  have h5 := Z9Q Z8v (Z7u Z8v (ts.length + 1) ((ts ++ [tsemi]).length + 1) (by simp)) (Z2p _) sem5 _ _ h1
  rcases ZdK h2 with rfl | ⟨t, rfl, ht⟩
  · exact .inl (by rw [h4]; exact Zgv h5 rfl h3)
  · refine .inr ?_
    have e : skT 5 Z1I ([t] ++ [tsemi]) = [tsemi] := by
      unfold skT
      rw [if_pos (show isT 5 Z1I ([t] ++ [tsemi]) = true from ht)]; rfl
    rw [Z9d h5 (by rw [e]; simp)]
theorem Zec {ts : List T3} (h : (readT ts).2 = 0) : (readT (ts ++ [tsemi, tsemi])).2 = 30 := by
  obtain ⟨s, r, h1, h2, h3, h4⟩ := Z9j h
  have hq : Stop [tsemi, tsemi] := fun k s h => Z8v k s h
  have h5 := Z9Q hq (Z7u hq (ts.length + 1) ((ts ++ [tsemi, tsemi]).length + 1) (by simp)) (Z2p _) (fun t r h => by injection h with h _; subst h; rfl) _ _ h1
  rcases ZdK h2 with rfl | ⟨t, rfl, ht⟩
  · rw [Z9d h5 (by show skT 5 Z1I [tsemi, tsemi] ≠ []; rw [ZfA]; simp)]
  · have e : skT 5 Z1I ([t] ++ [tsemi, tsemi]) = [tsemi, tsemi] := by
      unfold skT
      rw [if_pos (show isT 5 Z1I ([t] ++ [tsemi, tsemi]) = true from ht)]; rfl
    rw [Z9d h5 (by rw [e]; simp)]
instance : DecidableEq T3 := fun a b => decidable_of_iff (a.k = b.k ∧ a.t = b.t ∧ a.n = b.n) ⟨fun ⟨h1, h2, h3⟩ => by cases a; cases b; simp_all, fun h => by subst h; exact ⟨rfl, rfl, rfl⟩⟩
theorem Zdu : lexL [59] = ([tsemi], 0) := by decide +kernel
theorem Zc6 : lexL [59, 59] = ([tsemi, tsemi], 0) := by decide +kernel
theorem ZeH : lexL [9, 32] = ([], 0) := by decide +kernel
theorem Zfa {l : List UInt8} (h : (prS l).2 = 0) : (lexL l).2 = 0 := by
 by_cases e : (lexL l).2 = 0
 · exact e
 · rw [Zaq e] at h; exact absurd h e
theorem ZcF {l : List UInt8} (h : (prS l).2 = 0) :
    prS (upL false l) = prS l ∧ (l.length + 3 ≤ 2048 → prS (10 :: (l ++ [9, 32])) = prS l) ∧ (2048 < l.length + 3 → (prS (10 :: (l ++ [9, 32]))).2 = 30)
    ∧ (prS (l ++ [59]) = prS l ∨ (prS (l ++ [59])).2 = 30) ∧ (prS (l ++ [59, 59])).2 = 30 := by
  have he := Zfa h
  refine ⟨by show readS _ = readS _; rw [Zim], fun hl => ?_, fun hl => ?_, ?_, ?_⟩
  · show readS _ = readS _
    rw [ZhA (by decide +kernel) (by simp; omega), Z9Z ZhK (by simp; omega) he (by rw [ZeH]), ZeH]
    rw [List.append_nil, ← he]
  · rw [Zas (by simp; omega)]
  · by_cases hl : l.length + 1 ≤ 2048
    · have e := Z9Z Zc4 (l := l) (k := []) (by simpa using hl) he (by rw [Zdu])
      rw [Zdu] at e
      rw [Z5Z (l := l ++ [59]) (by rw [e]), Z5Z he, e]
      rw [Z5Z he] at h
      exact Zfe h
    · right; rw [Zas (by simp; omega)]
  · by_cases hl : l.length + 2 ≤ 2048
    · have e := Z9Z Zc4 (l := l) (k := [59]) (by simpa using hl) he (by rw [Zc6])
      rw [Zc6] at e
      rw [Z5Z (l := l ++ [59, 59]) (by rw [e]), e]
      rw [Z5Z he] at h
      exact Zec h
    · rw [Zas (by simp; omega)]
end Go.Proofs.YtbedigkncjbggaaGreatDoor
set_option maxRecDepth 20000
namespace Go.Pz
open Go Go.Vc
abbrev kw (s : ByteArray) : T3 := ⟨1, s, 0⟩
abbrev nm_ (s : ByteArray) : T3 := ⟨2, s, 0⟩
abbrev sg (s : ByteArray) : T3 := ⟨5, s, 0⟩
abbrev n_t : ByteArray := ⟨#[116]⟩
abbrev n_x : ByteArray := ⟨#[120]⟩
def Ends (r : List T3) : Prop := r = [] ∨ ∃ t, r = [t] ∧ isT 5 Z1I [t] = true
abbrev delL (L : List T3) : List T3 := kw Z52 :: kw Z4D :: nm_ n_t :: kw Z5J :: L
abbrev updL (L : List T3) : List T3 := kw Z4V :: nm_ n_t :: kw Zbh :: nm_ n_x :: sg s_eq :: L
abbrev insL (L : List T3) : List T3 := kw Z4Z :: kw Z9K :: nm_ n_t :: kw Z66 :: sg s_lp :: L
abbrev selL (L : List T3) : List T3 := kw Z4P :: sg s_lp :: L
abbrev fromT : List T3 := [kw Z4D, nm_ n_t]
end Go.Pz
set_option maxRecDepth 20000
namespace Go.Proofs.YtbedigkncjbggaaGreatDoor
open Go Go.Vc
open Go.Pz
theorem c_PF (N : Nat) (s : ByteArray) : CallF Tryz.prog Z3l [NH N, GF, AF] [.is (.string s)] (.tup2 (.rep (StR N (prS s.data.toList).1)) (.is (.int .i64 (prS s.data.toList).2))) := CallL.toF (ZaV N s) rfl
abbrev aw1 : ByteArray := ⟨#[115, 101, 108, 101, 99, 116, 32, 42, 32, 102, 114, 111, 109, 32, 116, 32, 119, 104, 101, 114, 101, 32, 97, 32, 61, 32, 49, 32, 97, 110, 100, 32, 110, 111, 116, 32, 98]⟩
abbrev aw2 : ByteArray := ⟨#[97, 32, 60, 32, 98, 32, 60, 32, 99]⟩
theorem Zj7 : ∃ S0 : Pz.St, S0.kind = 4 ∧ (∃ y, S0.items = [y] ∧ y.all = true) ∧ (∃ x, S0.where_ = [x] ∧ x.K = 16) ∧ S0.limit = -1 ∧ CallF Tryz.prog Z3l [NH 0, GF, AF] [.is (.string aw1)] (.tup2 (.rep (StR 0 S0)) (.is (.int .i64 0))) := by
  have h0 : (prS aw1.data.toList).2 = 0 := by decide +kernel
  have h1 : (prS aw1.data.toList).1.kind = 4 := by decide +kernel
  have h2 : (match (prS aw1.data.toList).1.items with | [y] => y.all | _ => false) = true := by decide +kernel
  have h3 : (match (prS aw1.data.toList).1.where_ with | [x] => x.K == 16 | _ => false) = true := by decide +kernel
  have h4 : (prS aw1.data.toList).1.limit = -1 := by decide +kernel
  have hc := c_PF 0 aw1
  generalize prS aw1.data.toList = p at h0 h1 h2 h3 h4 hc
  obtain ⟨S0, e⟩ := p
  dsimp only at h0 h1 h2 h3 h4 hc
  subst h0
  refine ⟨S0, h1, ?_, ?_, h4, hc⟩
  · split at h2
    · rename_i y hy; exact ⟨y, hy, h2⟩
    · cases h2
  · split at h3
    · rename_i x hx; exact ⟨x, hx, by simpa using h3⟩
    · cases h3
theorem Zj0 : ∃ S0 : Pz.St, CallF Tryz.prog Z3l [NH 0, GF, AF] [.is (.string aw2)] (.tup2 (.rep (StR 0 S0)) (.is (.int .i64 30))) := by
 have h0 : (prS aw2.data.toList).2 = 30 := by decide +kernel
 have hc := c_PF 0 aw2
 generalize prS aw2.data.toList = p at h0 hc
 obtain ⟨S0, e⟩ := p
 dsimp only at h0 hc
 subst h0
 exact ⟨S0, hc⟩
theorem ZhB {ps : List (Cel exE)} {l : List Ex} (h : ∃ w, CelF exE ps w) (hm : ps.map Cel.x = l) {i : Nat} (hi : i < ps.length) (hi' : i < l.length) : (ps[i].cs)[0]? = some (.int .i64 (l[i]).K) := by
 obtain ⟨w, hw⟩ := h
 subst hm
 have h1 : ExR ps[i].x (.agg (ps[i].cs).toArray) w := hw _ (List.getElem_mem hi)
 generalize ps[i].cs = cs at h1
 rw [List.getElem_map]
 generalize ps[i].x = x at h1
 cases x
 unfold ExR at h1
 obtain ⟨a, len, cap, e, _⟩ := h1
 rw [Z3M e]; rfl
theorem ZaZ  : CallF Tryz.prog Zb3 [NH 0, GF, AF] [] (.is (.bool true)) :=
CallF.of (fn := Tryz.f12) Tryz.func12 (n := 56) rfl rfl rfl (fun _ _ => by kernel_rfl) fun E W => by
 obtain ⟨S1, hk1, ⟨y1, hy1, hy2⟩, ⟨x1, hx1, hx2⟩, hlim, hP1⟩ := Zj7
 obtain ⟨S2, hP2⟩ := Zj0
 repeat apply Sq
 apply Pn
 refine Jt (Z2 rfl) rfl ?_
 apply Ni
 repeat first | apply Nx | apply Nb
 refine Sl [] .nil ?_
 repeat apply Sq
 apply Pn
 refine Jt (Z2o rfl hP1 (fun F hF => by repeat (first | (rcases Mc.1 hF with rfl | hF; · (repeat first | exact Mh | apply Mt)) | (cases hF; done))) (.one rfl .nil)) rfl ?_
 refine Jt (Z0 rfl) rfl ?_
 refine Jt (Z1P rfl) rfl ?_
 refine Jt (Z1O rfl) rfl ?_
 refine JO.alloc ZU rfl fun b1 => ?_
 refine JO.m (Z3 rfl rfl (by repeat first | exact .here | apply Ut) (by exact Z19 rfl rfl) (by exact Z2d) Zj) (by rfl) ?_
 refine Jt (Z2 rfl) rfl ?_
 apply Ni
 repeat first | apply Nx | apply Nb
 refine Sl [1, 2] (.cons rfl (.cons rfl .nil)) ?_
 repeat apply Sq
 apply Pn
 refine Jt (Z2o rfl hP2 (fun F hF => by repeat (first | (rcases Mc.1 hF with rfl | hF; · (repeat first | exact Mh | apply Mt)) | (cases hF; done))) (.one rfl .nil)) rfl ?_
 refine Jt (Z0 rfl) rfl ?_
 refine Jt (Z1P rfl) rfl ?_
 refine Jt (Z1O rfl) rfl ?_
 refine JO.alloc ZU rfl fun b3 => ?_
 refine JO.m (Z3 rfl rfl (by repeat first | exact .here | apply Ut) (by exact Z19 rfl rfl) (by exact Z2d) Zj) (by rfl) ?_
 refine Jt (Z2 rfl) rfl ?_
 apply Ni
 repeat first | apply Nx | apply Nb
 refine Sl [1, 2, 4] (.cons rfl (.cons rfl (.cons rfl .nil))) ?_
 refine J.front b1 (by repeat (first | exact .here | apply Front.there)) ?_
 refine J.openOwnSt fun vc vn vr vi vf vw vg vo vs h1c => ?_
 refine J.shapeE (xs := S1.items) (v := vi) (by repeat first | exact Mh | apply Mt) (fun pi ai li ci bi oi_ hpi hvi hli hai => ?_)
 refine J.shapeE (xs := S1.where_) (v := vw) (by repeat first | exact Mh | apply Mt) (fun pw aw lw cw bw ow_ hpw hvw hlw haw => ?_)
 refine J.pureF (F := CelF itE pi) (by repeat first | exact Mh | apply Mt) (fun pui => ?_)
 refine J.pureF (F := CelF exE pw) (by repeat first | exact Mh | apply Mt) (fun puw => ?_)
 subst hvi hvw
 rw [hy1] at hpi
 rw [hx1] at hpw
 have li1 : li = 1 := by rw [← hli, ← List.length_map (f := Cel.x), hpi]; rfl
 have lw1 : lw = 1 := by rw [← hlw, ← List.length_map (f := Cel.x), hpw]; rfl
 repeat apply Sq
 refine J.reg0 hmx (by kernel_rfl) (by kernel_rfl) ?_
 refine Rq (Z0 rfl) ?_
 refine Rq (Z1e rfl rfl) ?_
 refine Rq (Z0 rfl) ?_
 refine Rg rfl rfl rfl (fun hg => Z1 Z44 (.inl rfl)) ?_
 refine Rg rfl rfl rfl (fun hg => Z4 ZA (.inr ⟨_, rfl, id⟩) rfl) ?_
 refine Rg rfl rfl rfl (fun hg => Z1e (.inr ⟨_, rfl, id⟩) (.inl rfl)) ?_
 refine Rq (Zy rfl rfl rfl id) ?_
 refine Rq (Z0 rfl) ?_
 refine Rg rfl rfl rfl (fun hg => Z1 Z1q (.inl rfl)) ?_
 refine Rg rfl rfl rfl (fun hg => Z4 Z1u (.inr ⟨_, rfl, id⟩) rfl) ?_
 refine Rg rfl rfl rfl (fun hg => Zq Z1T (.inr ⟨_, rfl, id⟩)) ?_
 refine Rg rfl rfl rfl (fun hg => Z1e (.inr ⟨_, rfl, id⟩) (.inl rfl)) ?_
 refine Rq (Zy rfl rfl rfl id) ?_
 refine Rq (Z0 rfl) ?_
 refine Rg rfl rfl rfl (fun hg => Z1 Z1q (.inl rfl)) ?_
 refine Rg rfl rfl rfl (fun hg => Z4 Z1u (.inr ⟨_, rfl, id⟩) rfl) ?_
 refine Rg rfl rfl rfl (fun hg => Za Z2X (.inr ⟨_, rfl, id⟩) (hai (by omega)) (.inl rfl) (by omega) (by omega)) ?_
 refine Rg rfl rfl rfl (fun hg => Z1 Z5m (.inr ⟨_, rfl, id⟩)) ?_
 refine Rg rfl rfl rfl (fun hg => ZI (sz := 9) (i := 0) (j := 0) (enc := @Cel.cs _ itE) (y := pi[0]) (u := .bool y1.all) Z4O (.inr ⟨_, rfl, id⟩) (by repeat first | exact Mh | apply Mt) (hai (by omega)) (List.getElem?_eq_getElem (by omega : 0 < pi.length)) rfl (Za3 (l := [y1]) pui hpi (by omega) Nat.zero_lt_one)) ?_
 refine Rq (Zy rfl rfl rfl id) ?_
 refine Rq (Z0 rfl) ?_
 refine Rg rfl rfl rfl (fun hg => Z1 Z24 (.inl rfl)) ?_
 refine Rg rfl rfl rfl (fun hg => Z4 Zt (.inr ⟨_, rfl, id⟩) rfl) ?_
 refine Rg rfl rfl rfl (fun hg => Zq Zn (.inr ⟨_, rfl, id⟩)) ?_
 refine Rg rfl rfl rfl (fun hg => Z1e (.inr ⟨_, rfl, id⟩) (.inl rfl)) ?_
 refine Rq (Zy rfl rfl rfl id) ?_
 refine Rq (Z0 rfl) ?_
 refine Rg rfl rfl rfl (fun hg => Z1 Z24 (.inl rfl)) ?_
 refine Rg rfl rfl rfl (fun hg => Z4 Zt (.inr ⟨_, rfl, id⟩) rfl) ?_
 refine Rg rfl rfl rfl (fun hg => Za Z2z (.inr ⟨_, rfl, id⟩) (haw (by omega)) (.inl rfl) (by omega) (by omega)) ?_
 refine Rg rfl rfl rfl (fun hg => Z1 Z5o (.inr ⟨_, rfl, id⟩)) ?_
 refine Rg rfl rfl rfl (fun hg => ZI (sz := 8) (i := 0) (j := 0) (enc := @Cel.cs _ exE) (y := pw[0]) (u := .int .i64 x1.K) ZA (.inr ⟨_, rfl, id⟩) (by repeat first | exact Mh | apply Mt) (haw (by omega)) (List.getElem?_eq_getElem (by omega : 0 < pw.length)) rfl (ZhB (l := [x1]) puw hpw (by omega) Nat.zero_lt_one)) ?_
 refine Rg rfl rfl rfl (fun hg => Z1e (.inr ⟨_, rfl, id⟩) (.inl rfl)) ?_
 refine Rq (Zy rfl rfl rfl id) ?_
 refine Rq (Z0 rfl) ?_
 refine Rg rfl rfl rfl (fun hg => Z1 Z2b (.inl rfl)) ?_
 refine Rg rfl rfl rfl (fun hg => Z4 ZA (.inr ⟨_, rfl, id⟩) rfl) ?_
 refine Rg rfl rfl rfl (fun hg => Z1e (.inr ⟨_, rfl, id⟩) (.inl rfl)) ?_
 refine Rq (Zy rfl rfl rfl id) ?_
 refine Rq (Z0 rfl) ?_
 refine Rg rfl rfl rfl (fun hg => Z0 (.inl rfl)) ?_
 refine Rg rfl rfl rfl (fun hg => Z1e (.inr ⟨_, rfl, id⟩) (.inl rfl)) ?_
 refine Rq (Zy rfl rfl rfl id) ?_
 refine Rq (Z2 rfl) ?_
 apply Rn
 refine FinS.nil0 ?_
 repeat first | apply Nx | apply Nb
 refine Sl [0] (.cons rfl .nil) ?_
 repeat apply Sq
 apply Rt
 repeat first | apply Rp | apply Rb
 exact JX.ret1is rfl rfl (by simp [hk1, li1, hy2, lw1, hx2, hlim])
end Go.Proofs.YtbedigkncjbggaaGreatDoor
set_option maxRecDepth 20000
namespace Go.Proofs.YtbedigkncjbggaaGreatDoor
open Go Go.Vc Go.Pz
abbrev tDel : List UInt8 := [100, 101, 108, 101, 116, 101, 32, 102, 114, 111, 109, 32, 116, 32, 119, 104, 101, 114, 101]
abbrev tSel : List UInt8 := [115, 101, 108, 101, 99, 116]
abbrev tIns : List UInt8 := [105, 110, 115, 101, 114, 116, 32, 105, 110, 116, 111, 32, 116, 32, 118, 97, 108, 117, 101, 115]
abbrev tUpd : List UInt8 := [117, 112, 100, 97, 116, 101, 32, 116, 32, 115, 101, 116, 32, 120, 32, 61]
abbrev tFrm : List UInt8 := [32, 102, 114, 111, 109, 32, 116]
end Go.Proofs.YtbedigkncjbggaaGreatDoor
set_option maxRecDepth 20000
namespace Go.Proofs.YtbedigkncjbggaaGreatDoor
open Go Go.Vc
open Go.Pz
theorem Zfw {ts : List T3} (h : (readT ts).2 ≠ 0) : (readT ts).1 = st0 := by
  unfold readT at h ⊢
  split
  · rfl
  · rename_i s hs
    rw [hs] at h
    dsimp only at h ⊢
    split
    · rfl
    · rename_i hd; rw [if_neg hd] at h; exact absurd rfl h
theorem ZdG {l : List UInt8} (h : (prS l).2 ≠ 0) : (prS l).1 = st0 := by
 by_cases he : (lexL l).2 = 0
 · rw [Z5Z he] at h ⊢; exact Zfw h
 · rw [Zaq he]
theorem Ziu (l : List UInt8) : SmS (prS l).1 ∧ ∀ x ∈ exsOf (prS l).1, ect x ≤ 4096 := by
  by_cases h : (prS l).2 = 0
  · have he := Zfa h
    rw [Z5Z he] at h ⊢
    obtain ⟨s, r, h1, _, _, h4⟩ := Z9j h
    rw [h4]
    refine ⟨Zco h1, fun x hx => ?_⟩
    have := ZdO (Z2p _) (Za6 _) (Nat.le_refl _) h1 x hx
    have := ZbM l
    omega
  · rw [ZdG h]
    refine ⟨⟨Nat.zero_le _, (fun x hx => by cases hx), Nat.zero_le _, Nat.zero_le _, (fun x hx => by cases hx), Nat.zero_le _, Nat.zero_le _, Nat.zero_le _, Nat.zero_le _, Nat.zero_le _, Nat.zero_le _⟩, fun x hx => by simp [exsOf, st0] at hx⟩
theorem Z5d (a b : ByteArray) : a ++ b = bl (a.data.toList ++ b.data.toList) := by
 apply ByteArray.ext
 apply Array.ext'
 simp
theorem c_PL (N : Nat) (l : List UInt8) : CallF Tryz.prog Z3l [NH N, GF, AF] [.is (.string (bl l))] (.tup2 (.rep (StR N (prS l).1)) (.is (.int .i64 (prS l).2))) := c_PF N (bl l)
end Go.Proofs.YtbedigkncjbggaaGreatDoor
set_option maxRecDepth 20000
namespace Go.Proofs.YtbedigkncjbggaaGreatDoor
open Go Go.Vc
open Go.Pz
end Go.Proofs.YtbedigkncjbggaaGreatDoor
