/- Order: heaps and sorted lists; plain laws. No condition. -/
import Derived.Test.YtgpikmonklainaaXG4
namespace Go.Od
structure Ord {β : Type} (lt : β → β → Bool) (V : β → Prop) : Prop where
  irr : ∀ a, lt a a = false
  tr : ∀ a b c, lt a b = true → lt b c = true → lt a c = true
  tot : ∀ a b, V a → V b → lt a b = false → lt b a = false → a = b
section
variable {β : Type} {lt : β → β → Bool} {V : β → Prop}
theorem Ord.asym (h : Ord lt V) {a b : β} (hab : lt a b = true) : lt b a = false := by
  cases e : lt b a
  · rfl
  · rw [← h.irr a, h.tr a b a hab e]
theorem Ord.ntr (h : Ord lt V) {a b c : β} (va : V a) (vb : V b) (h1 : lt a b = false) (h2 : lt b c = false) : lt a c = false := by
  cases e : lt a c
  · rfl
  · cases e2 : lt b a
    · have := h.tot a b va vb h1 e2
      subst this
      rw [e] at h2; cases h2
    · rw [h.tr b a c e2 e] at h2; cases h2
theorem Ord.nlt (h : Ord lt V) {a b c : β} (va : V a) (vb : V b) (h1 : lt a b = false) (h2 : lt c b = true) : lt a c = false := h.ntr va vb h1 (h.asym h2)
def ins (lt : β → β → Bool) (x : β) : List β → List β
  | [] => [x]
  | y :: S => bif lt x y then x :: y :: S else y :: ins lt x S
def Srt (lt : β → β → Bool) (S : List β) : Prop := S.Pairwise fun a b => lt b a = false
theorem ins_perm (x : β) : ∀ S, (ins lt x S).Perm (x :: S)
  | [] => .refl _
  | y :: S => by
    unfold ins
    cases lt x y
    · exact ((ins_perm x S).cons y).trans (.swap _ _ _)
    · exact .refl _
theorem ins_len (x : β) (S : List β) : (ins lt x S).length = S.length + 1 := by rw [(ins_perm x S).length_eq, List.length_cons]
theorem ins_srt (h : Ord lt V) {x : β} (vx : V x) : ∀ {S : List β}, (∀ y ∈ S, V y) → Srt lt S → Srt lt (ins lt x S)
  | [], _, _ => by simp [ins, Srt]
  | y :: S, hv, hs => by
    unfold ins
    have hs' := List.pairwise_cons.1 hs
    cases e : lt x y
    · refine List.pairwise_cons.2 ⟨fun z hz => ?_, ins_srt h vx (fun z hz => hv z (List.mem_cons_of_mem _ hz)) hs'.2⟩
      rcases List.mem_cons.1 ((ins_perm x S).mem_iff.1 hz) with rfl | hz
      · exact e
      · exact hs'.1 z hz
    · refine List.pairwise_cons.2 ⟨fun z hz => ?_, hs⟩
      rcases List.mem_cons.1 hz with rfl | hz
      · exact h.asym e
      · exact h.nlt (hv z (List.mem_cons_of_mem _ hz)) (hv y List.mem_cons_self) (hs'.1 z hz) e
theorem srt_uniq (h : Ord lt V) : ∀ {S T : List β}, (∀ y ∈ S, V y) → Srt lt S → Srt lt T → S.Perm T → S = T
  | [], T, _, _, _, hp => by rw [List.nil_perm.1 hp]
  | x :: S, [], _, _, _, hp => by have := List.perm_nil.1 hp; cases this
  | x :: S, y :: T, hv, hs, ht, hp => by
    have hs' := List.pairwise_cons.1 hs
    have ht' := List.pairwise_cons.1 ht
    have hxT : x ∈ y :: T := hp.mem_iff.1 List.mem_cons_self
    have hyS : y ∈ x :: S := hp.mem_iff.2 List.mem_cons_self
    have e : x = y := by
      refine h.tot x y (hv x List.mem_cons_self) (hv y hyS) ?_ ?_
      · rcases List.mem_cons.1 hxT with rfl | hx
        · exact h.irr _
        · exact ht'.1 x hx
      · rcases List.mem_cons.1 hyS with rfl | hy
        · exact h.irr _
        · exact hs'.1 y hy
    subst e
    rw [srt_uniq h (fun z hz => hv z (List.mem_cons_of_mem _ hz)) hs'.2 ht'.2 (List.perm_cons _ |>.1 hp)]
def srt (lt : β → β → Bool) (S : List β) : List β := S.foldr (ins lt) []
theorem srt_perm : ∀ S : List β, (srt lt S).Perm S
  | [] => .refl _
  | x :: S => (ins_perm x _).trans ((srt_perm S).cons x)
theorem srt_srt (h : Ord lt V) : ∀ {S : List β}, (∀ y ∈ S, V y) → Srt lt (srt lt S)
  | [], _ => .nil
  | x :: S, hv => ins_srt h (hv x List.mem_cons_self) (fun y hy => hv y (List.mem_cons_of_mem _ ((srt_perm S).mem_iff.1 hy))) (srt_srt h fun y hy => hv y (List.mem_cons_of_mem _ hy))
theorem srt_eq (h : Ord lt V) {S T : List β} (hv : ∀ y ∈ S, V y) (hp : S.Perm T) : srt lt S = srt lt T :=
  srt_uniq h (fun y hy => hv y ((srt_perm S).mem_iff.1 hy)) (srt_srt h hv) (srt_srt h fun y hy => hv y (hp.mem_iff.2 hy)) ((srt_perm S).trans (hp.trans (srt_perm T).symm))
theorem srt_snoc (h : Ord lt V) {S : List β} {x : β} (hv : ∀ y ∈ S, V y) (vx : V x) : srt lt (S ++ [x]) = ins lt x (srt lt S) := by
  have hv' : ∀ y ∈ S ++ [x], V y := fun y hy => by
    rcases List.mem_append.1 hy with hy | hy
    · exact hv y hy
    · rw [List.mem_singleton.1 hy]; exact vx
  rw [srt_eq h hv' (List.perm_append_comm : (S ++ [x]).Perm ([x] ++ S))]
  rfl
theorem srt_len (S : List β) : (srt lt S).length = S.length := (srt_perm S).length_eq
theorem ins_take (x : β) : ∀ (k : Nat) (S : List β), (ins lt x (S.take k)).take k = (ins lt x S).take k
  | 0, S => by simp
  | k + 1, [] => by simp
  | k + 1, y :: S => by
    rw [List.take_succ_cons]
    unfold ins
    cases lt x y
    · rw [cond_false, cond_false, List.take_succ_cons, List.take_succ_cons, ins_take x k S]
    · rw [cond_true, cond_true, List.take_succ_cons, List.take_succ_cons]
      cases k with
      | zero => simp
      | succ k => rw [List.take_succ_cons, List.take_succ_cons, List.take_take]; congr 2; rw [Nat.min_eq_left (by omega)]
def sw (f : Nat → β) (i j : Nat) : Nat → β := fun k => if k = i then f j else if k = j then f i else f k
def HpX (lt : β → β → Bool) (f : Nat → β) (n : Nat) (X : Nat → Prop) : Prop := ∀ k, 0 < k → k < n → ¬ X k → lt (f ((k - 1) / 2)) (f k) = false
abbrev Hp (lt : β → β → Bool) (f : Nat → β) (n : Nat) : Prop := HpX lt f n fun _ => False
theorem hp_root (h : Ord lt V) {f : Nat → β} {n : Nat} (hv : ∀ k, k < n → V (f k)) (hh : Hp lt f n) : ∀ k, k < n → lt (f 0) (f k) = false := by
  intro k
  induction k using Nat.strongRecOn with
  | _ k ih =>
    intro hk
    rcases Nat.eq_zero_or_pos k with rfl | h0
    · exact h.irr _
    · exact h.ntr (hv 0 (by omega)) (hv _ (by omega)) (ih ((k - 1) / 2) (by omega) (by omega)) (hh k h0 hk id)
theorem up_step (h : Ord lt V) {f : Nat → β} {n i j : Nat} (hv : ∀ k, k < n → V (f k)) (hj : j < n) (h0 : 0 < j) (hi : i = (j - 1) / 2) (hh : HpX lt f n (· = j)) (hx : ∀ k, 0 < k → k < n → (k - 1) / 2 = j → lt (f i) (f k) = false) (hl : lt (f i) (f j) = true) :
    HpX lt (sw f i j) n (· = i) ∧ ∀ k, 0 < k → k < n → (k - 1) / 2 = i → 0 < i → lt (sw f i j ((i - 1) / 2)) (sw f i j k) = false := by
  have hij : i ≠ j := by omega
  have hin : i < n := by omega
  constructor
  · intro k hk0 hkn hki
    show lt (if (k - 1) / 2 = i then f j else if (k - 1) / 2 = j then f i else f ((k - 1) / 2)) (if k = i then f j else if k = j then f i else f k) = false
    rw [if_neg hki]
    by_cases e1 : (k - 1) / 2 = i
    · rw [if_pos e1]
      by_cases e2 : k = j
      · rw [if_pos e2]; exact h.asym hl
      · rw [if_neg e2]
        have := hh k hk0 hkn e2
        rw [e1] at this
        exact h.ntr (hv j hj) (hv i hin) (h.asym hl) this
    · rw [if_neg e1]
      have e2 : k ≠ j := fun e => e1 (by rw [e, hi])
      rw [if_neg e2]
      by_cases e3 : (k - 1) / 2 = j
      · rw [if_pos e3]; exact hx k hk0 hkn e3
      · rw [if_neg e3]; exact hh k hk0 hkn e2
  · intro k hk0 hkn hki hi0
    show lt (if (i - 1) / 2 = i then f j else if (i - 1) / 2 = j then f i else f ((i - 1) / 2)) (if k = i then f j else if k = j then f i else f k) = false
    rw [if_neg (by omega), if_neg (by omega), if_neg (by omega)]
    have hp := hh i hi0 hin hij
    by_cases e2 : k = j
    · rw [if_pos e2]; exact hp
    · rw [if_neg e2]
      have := hh k hk0 hkn e2
      rw [hki] at this
      exact h.ntr (hv _ (by omega)) (hv i hin) hp this
theorem down_step (h : Ord lt V) {f : Nat → β} {n i j : Nat} (hv : ∀ k, k < n → V (f k)) (hj : j < n) (h0 : 0 < j) (hi : i = (j - 1) / 2) (hh : HpX lt f n (fun k => (k - 1) / 2 = i)) (hx : 0 < i → ∀ k, 0 < k → k < n → (k - 1) / 2 = i → lt (f ((i - 1) / 2)) (f k) = false) (hl : lt (f i) (f j) = true)
    (hb : ∀ k, 0 < k → k < n → (k - 1) / 2 = i → lt (f j) (f k) = false) :
    HpX lt (sw f i j) n (fun k => (k - 1) / 2 = j) ∧ (0 < j → ∀ k, 0 < k → k < n → (k - 1) / 2 = j → lt (sw f i j ((j - 1) / 2)) (sw f i j k) = false) := by
  have hij : i ≠ j := by omega
  have hin : i < n := by omega
  constructor
  · intro k hk0 hkn hkj
    show lt (if (k - 1) / 2 = i then f j else if (k - 1) / 2 = j then f i else f ((k - 1) / 2)) (if k = i then f j else if k = j then f i else f k) = false
    rw [if_neg hkj]
    by_cases e1 : (k - 1) / 2 = i
    · rw [if_pos e1, if_neg (show k ≠ i by omega)]
      by_cases e2 : k = j
      · rw [if_pos e2]; exact h.asym hl
      · rw [if_neg e2]; exact hb k hk0 hkn e1
    · rw [if_neg e1]
      by_cases e2 : k = i
      · rw [if_pos e2]
        subst e2
        exact hx hk0 j h0 hj hi.symm
      · rw [if_neg e2, if_neg (fun e => e1 (by rw [e, hi]))]
        exact hh k hk0 hkn e1
  · intro _ k hk0 hkn hkj
    show lt (if (j - 1) / 2 = i then f j else if (j - 1) / 2 = j then f i else f ((j - 1) / 2)) (if k = i then f j else if k = j then f i else f k) = false
    rw [if_pos hi.symm, if_neg (show k ≠ i by omega), if_neg (show k ≠ j by omega)]
    have := hh k hk0 hkn (show ¬ (k - 1) / 2 = i by omega)
    rwa [hkj] at this
end
end Go.Od
