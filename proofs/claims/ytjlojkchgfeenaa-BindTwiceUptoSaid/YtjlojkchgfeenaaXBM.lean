/- Columns turned round: plain laws. No condition. -/
import Derived.Test.YtjlojkchgfeenaaXBN
set_option maxRecDepth 20000
namespace Go.Proofs.Ytjlojkchgfeenaa
open Go Go.Vc
theorem find_rev2 (t n : ByteArray) (cols : List C3) : (findCF t n cols.reverse).2 = (findCF t n cols).2 := by
  show (fgoF t n cols.reverse 0 (-1)).2 = (fgoF t n cols 0 (-1)).2
  rw [fgo_cnt t n _ 0 (-1) (by omega) (by omega), fgo_cnt t n _ 0 (-1) (by omega) (by omega), List.countP_reverse]
theorem find_rev1 {t n : ByteArray} {cols : List C3} (h : (findCF t n cols).2 = 0) : (findCF t n cols.reverse).1 = (cols.length : Int) - 1 - (findCF t n cols).1 := by
  have h0 : (fgoF t n cols 0 (-1)).2 = 0 := h
  rw [fgo_cnt t n _ 0 (-1) (by omega) (by omega)] at h0
  have hc : cols.countP (mtF t n) = 1 := by
    split at h0
    · assumption
    · cases h0
  have hpos : 0 < cols.countP (mtF t n) := by omega
  obtain ⟨c, hm, hcm⟩ := List.countP_pos_iff.1 hpos
  obtain ⟨j, hj⟩ := List.getElem?_of_mem hm
  have hjl : j < cols.length := (List.getElem?_eq_some_iff.1 hj).1
  have h1 : (findCF t n cols).1 = 0 + j := fgo_at t n cols 0 (-1) (by omega) (by omega) hc j c hj hcm
  have h2 : (findCF t n cols.reverse).1 = 0 + ((cols.length - 1 - j : Nat) : Int) := fgo_at t n cols.reverse 0 (-1) (by omega) (by omega) (by rw [List.countP_reverse]; exact hc) (cols.length - 1 - j) c (by
    rw [List.getElem?_reverse (by omega), show cols.length - 1 - (cols.length - 1 - j) = j by omega]
    exact hj) hcm
  rw [h1, h2]
  omega
theorem firstE_rev {f g : Ex → BR} : ∀ kids : List Ex, (∀ x ∈ kids, (g x).2 = (f x).2) → firstE (kids.map g) = firstE (kids.map f) ∧ (kids.map g).map (·.2.1) = (kids.map f).map (·.2.1)
  | [], _ => ⟨rfl, rfl⟩
  | x :: xs, hx => by
    obtain ⟨h1, h2⟩ := firstE_rev xs fun y hy => hx y (List.mem_cons_of_mem _ hy)
    have h0 := hx x List.mem_cons_self
    simp only [List.map_cons, firstE]
    rw [h1, h2, h0]
    exact ⟨rfl, rfl⟩
theorem firstE_all : ∀ rs : List BR, firstE rs = 0 → ∀ r ∈ rs, r.2.2 = 0
  | [], _, r, h => by cases h
  | q :: rs, h, r, hr => by
    rw [firstE] at h
    by_cases h0 : q.2.2 = 0
    · rw [h0] at h
      simp only [bne_self_eq_false, Bool.false_eq_true, ↓reduceIte] at h
      rcases List.mem_cons.1 hr with rfl | hr
      · exact h0
      · exact firstE_all rs h r hr
    · rw [if_pos (by simpa using h0)] at h
      exact absurd h h0
def MovesOK (cols : List C3) (x : Ex) : Prop := (bindF cols.reverse x).2 = (bindF cols x).2 ∧
  ((bindF cols x).2.2 = 0 → ∀ vals : List V3, vals.length = cols.length → ∀ e, findF vals.reverse (bindF cols.reverse x).1 e = findF vals (bindF cols x).1 e) ∧
  ((bindF cols x).2.2 ≠ 0 → (bindF cols x).1.KS = [] ∧ (bindF cols.reverse x).1.KS = [])
theorem exD_ks : exD.KS = [] := rfl
mutual
theorem bind_moves (cols : List C3) : ∀ x : Ex, MovesOK cols x
  | .mk k vk vn vs tb nm sl kids => by
    have hk := bind_movess cols kids
    unfold MovesOK
    rw [bindF, bindF, bindsF_eq, bindsF_eq]
    unfold bindTop
    by_cases h1 : aggF k = true
    · rw [if_pos h1, if_pos h1]; exact ⟨rfl, fun h => absurd h (by simp), fun _ => ⟨rfl, rfl⟩⟩
    rw [if_neg h1, if_neg h1]
    by_cases h2 : ((kids.length : Int) != kidsB k) = true
    · rw [if_pos h2, if_pos h2]; exact ⟨rfl, fun h => absurd h (by simp), fun _ => ⟨rfl, rfl⟩⟩
    rw [if_neg h2, if_neg h2]
    by_cases h3 : (k == 1 && okF vk vn vs) = true
    · rw [if_pos h3, if_pos h3]
      refine ⟨rfl, fun _ vals hv e => ?_, fun h => absurd rfl h⟩
      simp only [Bool.and_eq_true, beq_iff_eq] at h3
      obtain ⟨rfl, h3⟩ := h3
      simp only [findF, leafF]
      simp [okV, h3]
    rw [if_neg h3, if_neg h3]
    by_cases h4 : (k == 1) = true
    · rw [if_pos h4, if_pos h4]; exact ⟨rfl, fun h => absurd h (by simp), fun _ => ⟨rfl, rfl⟩⟩
    rw [if_neg h4, if_neg h4]
    by_cases h5 : (k == 2) = true
    · rw [if_pos h5, if_pos h5]
      have hr := find_rev2 tb nm cols
      by_cases h6 : (findCF tb nm cols).2 = 0
      · rw [if_neg (by rw [hr, h6]; simp), if_neg (by rw [h6]; simp)]
        have hr1 := find_rev1 h6
        have hrg := find_rng h6
        refine ⟨?_, fun _ vals hv e => ?_, fun h => absurd rfl h⟩
        · show ((cols.reverse.getD (findCF tb nm cols.reverse).1.toNat c3D).ty, (0 : Int)) = ((cols.getD (findCF tb nm cols).1.toNat c3D).ty, 0)
          have e1 : ((cols.length : Int) - 1 - (findCF tb nm cols).1).toNat = cols.length - 1 - (findCF tb nm cols).1.toNat := by omega
          rw [hr1, e1]
          congr 2
          have hlt : (findCF tb nm cols).1.toNat < cols.length := by omega
          simp only [List.getD_eq_getElem?_getD]
          rw [List.getElem?_reverse (by omega), show cols.length - 1 - (cols.length - 1 - (findCF tb nm cols).1.toNat) = (findCF tb nm cols).1.toNat by omega]
        · rw [hr1]
          have e1 : ((cols.length : Int) - 1 - (findCF tb nm cols).1).toNat = vals.length - 1 - (findCF tb nm cols).1.toNat := by omega
          have e2 : v3at vals.reverse ((cols.length : Int) - 1 - (findCF tb nm cols).1) = v3at vals (findCF tb nm cols).1 := by
            unfold v3at
            rw [e1]
            simp only [List.getD_eq_getElem?_getD]
            rw [List.getElem?_reverse (by omega), show vals.length - 1 - (vals.length - 1 - (findCF tb nm cols).1.toNat) = (findCF tb nm cols).1.toNat by omega]
          simp only [findF, leafF]
          rw [e2]
          have d1 : decide ((0 : Int) ≤ (cols.length : Int) - 1 - (findCF tb nm cols).1) = true := by simp; omega
          have d2 : decide ((cols.length : Int) - 1 - (findCF tb nm cols).1 < (vals.reverse.length : Int)) = true := by simp; omega
          have d3 : decide ((0 : Int) ≤ (findCF tb nm cols).1) = true := by simp; omega
          have d4 : decide ((findCF tb nm cols).1 < (vals.length : Int)) = true := by simp; omega
          rw [d1, d2, d3, d4]
      · rw [if_pos (by rw [hr]; simpa using h6), if_pos (by simpa using h6)]
        refine ⟨by show ((0 : Int), (findCF tb nm cols.reverse).2) = (0, (findCF tb nm cols).2); rw [hr], fun h => absurd h h6, fun _ => ⟨rfl, rfl⟩⟩
    rw [if_neg h5, if_neg h5]
    obtain ⟨hf, ht⟩ := firstE_rev (f := bindF cols) (g := bindF cols.reverse) kids fun x hx => (hk x hx).1
    rw [hf, ht]
    by_cases h6 : firstE (kids.map (bindF cols)) = 0
    · have h6' : ¬ (firstE (kids.map (bindF cols)) != 0) = true := by rw [h6]; simp
      rw [if_neg h6', if_neg h6']
      cases hty : (typedF k ((kids.map (bindF cols)).map (·.2.1))).2
      · simp only [Bool.not_false, ↓reduceIte]
        exact ⟨trivial, fun h => absurd h (by simp), fun _ => ⟨rfl, rfl⟩⟩
      simp only [Bool.not_true, Bool.false_eq_true, ↓reduceIte]
      refine ⟨trivial, fun _ vals hv e => ?_, fun h => absurd rfl h⟩
      have hall : ∀ x ∈ kids, (bindF cols x).2.2 = 0 := fun x hx => firstE_all _ h6 _ (List.mem_map_of_mem hx)
      have hkid : ∀ x ∈ kids, ∀ e, findF vals.reverse (bindF cols.reverse x).1 e = findF vals (bindF cols x).1 e := fun x hx => (hk x hx).2.1 (hall x hx) vals hv
      match kids, hkid with
      | [], _ => simp [nodeE, findF, leafF]; unfold aggF kidsB at *; simp at h1 h2 h4 h5; omega
      | [a], hkid => simp only [List.map_cons, List.map_nil, nodeE, findF]; rw [hkid a (by simp)]
      | [a, b], hkid =>
        simp only [List.map_cons, List.map_nil, nodeE, findF]
        rw [hkid a (by simp), show findF vals.reverse (bindF cols.reverse b).1 = findF vals (bindF cols b).1 from funext fun e => hkid b (by simp) e]
      | a :: b :: c :: ds, _ => simp only [List.map_cons, nodeE, findF]
    · have h6' : (firstE (kids.map (bindF cols)) != 0) = true := by simpa using h6
      rw [if_pos h6', if_pos h6']
      exact ⟨rfl, fun h => absurd h h6, fun _ => ⟨rfl, rfl⟩⟩
theorem bind_movess (cols : List C3) : ∀ kids : List Ex, ∀ x ∈ kids, MovesOK cols x
  | [], x, h => by cases h
  | y :: ys, x, h => by
    rcases List.mem_cons.1 h with e | h
    · rw [e]; exact bind_moves cols y
    · exact bind_movess cols ys x h
end
theorem moves_eval {cols : List C3} {x : Ex} {vals : List V3} (h : (bindF cols x).2.2 = 0) (hv : vals.length = cols.length) : evalF vals.reverse (bindF cols.reverse x).1 = evalF vals (bindF cols x).1 := by
  unfold evalF
  rw [(bind_moves cols x).2.1 h vals hv 0]
end Go.Proofs.Ytjlojkchgfeenaa
