/- One column more, and columns that are found: plain laws. No condition. -/
import Derived.Test.YtjlojkchgfeenaaXW
set_option maxRecDepth 20000
namespace Go.Proofs.Ytjlojkchgfeenaa
open Go Go.Vc
theorem fgo_more (t n : ByteArray) (m : C3) : ∀ (cs : List C3) (i at_ : Int), (fgoF t n cs i at_).2 = 0 → fgoF t n (cs ++ [m]) i at_ = fgoF t n cs i at_ ∨ fgoF t n (cs ++ [m]) i at_ = (0, 32)
  | [], i, at_, h => by
    simp only [List.nil_append, fgoF] at h ⊢
    by_cases h0 : at_ < 0
    · simp [h0] at h
    · cases skipF t n m
      · right; simp; omega
      · left; simp
  | c :: cs, i, at_, h => by
    simp only [List.cons_append]
    rw [fgoF] at h ⊢
    rw [show fgoF t n (c :: cs) i at_ = if skipF t n c then fgoF t n cs (i + 1) at_ else if decide (0 ≤ at_) then (0, 32) else fgoF t n cs (i + 1) i from rfl]
    by_cases h1 : skipF t n c = true
    · rw [if_pos h1] at h ⊢
      rw [if_pos h1]
      exact fgo_more t n m cs (i + 1) at_ h
    · rw [if_neg h1] at h ⊢
      rw [if_neg h1]
      by_cases h2 : decide (0 ≤ at_) = true
      · rw [if_pos h2] at h; simp at h
      · rw [if_neg h2] at h ⊢
        rw [if_neg h2]
        exact fgo_more t n m cs (i + 1) i h
theorem find_more {t n : ByteArray} {m : C3} {cols : List C3} (h : (findCF t n cols).2 = 0) : findCF t n (cols ++ [m]) = findCF t n cols ∨ findCF t n (cols ++ [m]) = (0, 32) := fgo_more t n m cols 0 (-1) h
theorem firstE_more {f g : Ex → BR} : ∀ kids : List Ex, (∀ x ∈ kids, (f x).2.2 = 0 → (g x).2.2 = 32 ∨ g x = f x) → firstE (kids.map f) = 0 → firstE (kids.map g) = 32 ∨ kids.map g = kids.map f
  | [], _, _ => .inr rfl
  | x :: xs, hx, h => by
    simp only [List.map_cons, firstE] at h ⊢
    by_cases h0 : (f x).2.2 = 0
    · rw [h0] at h
      simp only [bne_self_eq_false, Bool.false_eq_true, ↓reduceIte] at h
      rcases hx x List.mem_cons_self h0 with h1 | h1
      · left; simp [h1]
      · rcases firstE_more xs (fun y hy => hx y (List.mem_cons_of_mem _ hy)) h with h2 | h2
        · left; simp [h1, h0, h2]
        · right; rw [h1, h2]
    · simp [h0] at h
mutual
theorem bind_more (cols : List C3) (m : C3) : ∀ x : Ex, (bindF cols x).2.2 = 0 → (bindF (cols ++ [m]) x).2.2 = 32 ∨ bindF (cols ++ [m]) x = bindF cols x
  | .mk k vk vn vs tb nm sl kids => by
    have hk := bind_mores cols m kids
    rw [bindF, bindF, bindsF_eq, bindsF_eq]
    unfold bindTop
    intro h
    by_cases h1 : aggF k = true
    · rw [if_pos h1] at h; simp at h
    rw [if_neg h1] at h
    rw [if_neg h1, if_neg h1]
    by_cases h2 : ((kids.length : Int) != kidsB k) = true
    · rw [if_pos h2] at h; simp at h
    rw [if_neg h2] at h
    rw [if_neg h2, if_neg h2]
    by_cases h3 : (k == 1 && okF vk vn vs) = true
    · rw [if_pos h3, if_pos h3]; exact .inr rfl
    rw [if_neg h3] at h
    rw [if_neg h3, if_neg h3]
    by_cases h4 : (k == 1) = true
    · rw [if_pos h4] at h; simp at h
    rw [if_neg h4] at h
    rw [if_neg h4, if_neg h4]
    by_cases h5 : (k == 2) = true
    · rw [if_pos h5] at h
      rw [if_pos h5, if_pos h5]
      by_cases h6 : (findCF tb nm cols).2 = 0
      · rcases find_more (m := m) h6 with h7 | h7
        · right
          rw [h7]
          have := find_rng h6
          have hlt : (findCF tb nm cols).1.toNat < cols.length := by omega
          congr 3
          simp [List.getElem?_append_left hlt]
        · left; simp [h7]
      · rw [if_pos (by simpa using h6)] at h
        exact absurd h h6
    rw [if_neg h5] at h
    rw [if_neg h5, if_neg h5]
    by_cases h6 : firstE (kids.map (bindF cols)) = 0
    · rcases firstE_more kids hk h6 with h7 | h7
      · left; simp [h7]
      · right; rw [h7]
    · rw [if_pos (by simpa using h6)] at h
      exact absurd h h6
theorem bind_mores (cols : List C3) (m : C3) : ∀ kids : List Ex, ∀ x ∈ kids, (bindF cols x).2.2 = 0 → (bindF (cols ++ [m]) x).2.2 = 32 ∨ bindF (cols ++ [m]) x = bindF cols x
  | [], x, h => by cases h
  | y :: ys, x, h => by
    rcases List.mem_cons.1 h with e | h
    · rw [e]; exact bind_more cols m y
    · exact bind_mores cols m ys x h
end
def mtF (t n : ByteArray) (c : C3) : Bool := seq c.n n && (seq t ⟨#[]⟩ || seq c.t t)
theorem skip_mt (t n : ByteArray) (c : C3) : skipF t n c = !mtF t n c := by unfold skipF mtF; cases seq c.n n <;> cases seq t ⟨#[]⟩ <;> cases seq c.t t <;> rfl
theorem seq_refl' (s : ByteArray) : seq s s = true := by simp [seq]
theorem mt_self (c : C3) : mtF c.t c.n c = true := by simp [mtF, seq_refl']
theorem fgo_set (t n : ByteArray) : ∀ (cs : List C3) (i at_ : Int), 0 ≤ at_ → fgoF t n cs i at_ = if cs.countP (mtF t n) = 0 then (at_, 0) else (0, 32)
  | [], i, at_, h => by simp only [fgoF, List.countP_nil]; simp; omega
  | c :: cs, i, at_, h => by
    rw [fgoF, skip_mt, List.countP_cons, fgo_set t n cs (i + 1) at_ h]
    cases hm : mtF t n c
    · simp
    · simp [h]
theorem fgo_cnt (t n : ByteArray) : ∀ (cs : List C3) (i at_ : Int), 0 ≤ i → at_ < 0 → (fgoF t n cs i at_).2 = (if cs.countP (mtF t n) = 1 then 0 else 32)
  | [], i, at_, _, h => by simp [fgoF, h]
  | c :: cs, i, at_, hi, h => by
    rw [fgoF, skip_mt, List.countP_cons]
    cases hm : mtF t n c
    · simpa using fgo_cnt t n cs (i + 1) at_ (by omega) h
    · have h' : ¬ 0 ≤ at_ := by omega
      simp only [Bool.not_true, Bool.false_eq_true, ↓reduceIte, h', decide_false]
      rw [fgo_set t n cs (i + 1) i hi]
      by_cases h0 : cs.countP (mtF t n) = 0 <;> simp [h0]
theorem fgo_at (t n : ByteArray) : ∀ (cs : List C3) (i at_ : Int), 0 ≤ i → at_ < 0 → cs.countP (mtF t n) = 1 → ∀ (j : Nat) (c : C3), cs[j]? = some c → mtF t n c = true → (fgoF t n cs i at_).1 = i + j
  | [], i, at_, _, h, h1, j, c, hj, _ => by simp at hj
  | c :: cs, i, at_, hi, h, h1, j, c', hj, hc => by
    rw [fgoF, skip_mt]
    rw [List.countP_cons] at h1
    cases hm : mtF t n c
    · rw [hm] at h1
      simp only [Bool.false_eq_true, ↓reduceIte, Nat.add_zero] at h1
      cases j with
      | zero =>
        simp only [List.getElem?_cons_zero, Option.some.injEq] at hj
        subst hj
        rw [hm] at hc
        cases hc
      | succ j =>
        have := fgo_at t n cs (i + 1) at_ (by omega) h h1 j c' (by simpa using hj) hc
        simp only [Bool.not_false, ↓reduceIte]
        rw [this]
        push_cast
        omega
    · rw [hm] at h1
      simp only [↓reduceIte] at h1
      have h0 : cs.countP (mtF t n) = 0 := by omega
      have h' : ¬ 0 ≤ at_ := by omega
      simp only [Bool.not_true, Bool.false_eq_true, ↓reduceIte, h', decide_false]
      rw [fgo_set t n cs (i + 1) i hi, if_pos h0]
      cases j with
      | zero => simp
      | succ j =>
        have hmem : c' ∈ cs := List.mem_of_getElem? (by simpa using hj)
        have := List.countP_eq_zero.1 h0 c' hmem
        exact absurd hc this
theorem find_cnt {cols : List C3} {i : Nat} (hi : i < cols.length) :
    (!((findCF (cols.getD i c3D).t (cols.getD i c3D).n cols).2 == 0) == ((cols.countP (mtF (cols.getD i c3D).t (cols.getD i c3D).n) : Int) == 1) ||
      (((findCF (cols.getD i c3D).t (cols.getD i c3D).n cols).2 == 0) && ((findCF (cols.getD i c3D).t (cols.getD i c3D).n cols).1 != (i : Int)))) = false := by
  have h1 := fgo_cnt (cols.getD i c3D).t (cols.getD i c3D).n cols 0 (-1) (by omega) (by omega)
  have h2 := fgo_at (cols.getD i c3D).t (cols.getD i c3D).n cols 0 (-1) (by omega) (by omega)
  have e : findCF (cols.getD i c3D).t (cols.getD i c3D).n cols = fgoF (cols.getD i c3D).t (cols.getD i c3D).n cols 0 (-1) := rfl
  rw [← e] at h1 h2
  by_cases hc : cols.countP (mtF (cols.getD i c3D).t (cols.getD i c3D).n) = 1
  · rw [if_pos hc] at h1
    have h3 := h2 hc i (cols.getD i c3D) (c3_get hi) (mt_self _)
    rw [h1, h3, hc]
    simp
  · rw [if_neg hc] at h1
    have hc' : ((cols.countP (mtF (cols.getD i c3D).t (cols.getD i c3D).n) : Int) == 1) = false := by
      rw [beq_eq_false_iff_ne]
      omega
    rw [h1, hc']
    rfl
theorem names_law (cols : List C3) (m : C3) (x : Ex) : ((((bindF cols x).2.2 == 0 && (bindF (cols ++ [m]) x).2.2 != 0) && (bindF (cols ++ [m]) x).2.2 != 32) ||
    (((bindF cols x).2.2 == 0 && (bindF (cols ++ [m]) x).2.2 == 0) && (((bindF cols x).2.1 != (bindF (cols ++ [m]) x).2.1 || (bindF cols x).1.K != (bindF (cols ++ [m]) x).1.K) || (bindF cols x).1.SL != (bindF (cols ++ [m]) x).1.SL))) = false := by
  by_cases h0 : (bindF cols x).2.2 = 0
  · rcases bind_more cols m x h0 with h | h
    · simp [h]
    · rw [h, h0]; simp
  · simp [h0]
theorem cnt_take {cols : List C3} {k : Nat} {p : C3 → Bool} (h : k < cols.length) : (cols.take (k + 1)).countP p = (cols.take k).countP p + (if p (cols.getD k c3D) then 1 else 0) := by
  rw [← c3_take h, List.countP_append]
  simp [List.countP_cons]
end Go.Proofs.Ytjlojkchgfeenaa
