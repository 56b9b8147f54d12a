/- What was bound, bound again: plain laws. No condition. -/
import Derived.Test.YtjlojkchgfeenaaXSX
import Derived.Test.YtjlojkchgfeenaaXBM
set_option maxRecDepth 20000
namespace Go.Proofs.Ytjlojkchgfeenaa
open Go Go.Vc
mutual
def exLen : Ex → Prop
  | .mk _ _ _ _ _ _ _ kids => kids.length ≤ 9223372036854775806 ∧ exsLen kids
def exsLen : List Ex → Prop
  | [] => True
  | x :: xs => exLen x ∧ exsLen xs
end
theorem exsLen_of : ∀ kids : List Ex, (∀ x ∈ kids, exLen x) → exsLen kids
  | [], _ => by rw [exsLen]; trivial
  | x :: xs, h => by rw [exsLen]; exact ⟨h x List.mem_cons_self, exsLen_of xs fun y hy => h y (List.mem_cons_of_mem _ hy)⟩
mutual
theorem sameOK : ∀ x : Ex, exLen x → ∀ y, SameOK x y
  | .mk k vk vn vs tb nm sl kids, hx, y => by
    rw [exLen] at hx
    exact c_ref10_SameExprM k vk vn vs tb nm sl kids y (c_ref10_SameExprs kids y.KS hx.1 (sameOKs kids hx.2))
theorem sameOKs : ∀ kids : List Ex, exsLen kids → ∀ x ∈ kids, ∀ y, SameOK x y
  | [], _, x, h => by cases h
  | z :: zs, hx, x, h => by
    rw [exsLen] at hx
    rcases List.mem_cons.1 h with e | h
    · rw [e]; exact sameOK z hx.1
    · exact sameOKs zs hx.2 x h
end
mutual
theorem sameX_refl : ∀ x : Ex, sameX x x = true
  | .mk k vk vn vs tb nm sl kids => by
    rw [sameX]
    have h1 : (((((k != (Ex.mk k vk vn vs tb nm sl kids).K) || (!(veq vk vn vs (Ex.mk k vk vn vs tb nm sl kids).VK (Ex.mk k vk vn vs tb nm sl kids).VN (Ex.mk k vk vn vs tb nm sl kids).VS))) || (!(seq tb (Ex.mk k vk vn vs tb nm sl kids).TB))) || (!(seq nm (Ex.mk k vk vn vs tb nm sl kids).NM))) || (sl != (Ex.mk k vk vn vs tb nm sl kids).SL)) = false := by
      simp [Ex.K, Ex.VK, Ex.VN, Ex.VS, Ex.TB, Ex.NM, Ex.SL, veq, seq_refl']
    rw [if_neg (by rw [h1]; simp)]
    exact samesX_refl kids
theorem samesX_refl : ∀ xs : List Ex, samesX xs xs = true
  | [] => by rw [samesX]
  | x :: xs => by rw [samesX, sameX_refl x, samesX_refl xs]; rfl
end
theorem exLen_exD : exLen exD := by unfold exD; rw [exLen]; exact ⟨by simp, by rw [exsLen]; trivial⟩
theorem kidsB_le (k : Int) : kidsB k ≤ 2 := by unfold kidsB; (repeat' split) <;> omega
mutual
theorem bind_len (cols : List C3) : ∀ x : Ex, exLen (bindF cols x).1
  | .mk k vk vn vs tb nm sl kids => by
    have hk := bind_lens cols kids
    rw [bindF, bindsF_eq]
    unfold bindTop
    split
    · exact exLen_exD
    · split
      · exact exLen_exD
      · rename_i h2
        split
        · rw [exLen]; exact ⟨by simp, by rw [exsLen]; trivial⟩
        · split
          · exact exLen_exD
          · split
            · split
              · exact exLen_exD
              · rw [exLen]; exact ⟨by simp, by rw [exsLen]; trivial⟩
            · split
              · exact exLen_exD
              · split
                · exact exLen_exD
                · show exLen (nodeE k _)
                  unfold nodeE
                  rw [exLen]
                  have := kidsB_le k
                  simp at h2
                  refine ⟨by simp; omega, exsLen_of _ fun y hy => ?_⟩
                  simp only [List.map_map, List.mem_map, Function.comp] at hy
                  obtain ⟨z, hz, rfl⟩ := hy
                  exact hk z hz
theorem bind_lens (cols : List C3) : ∀ kids : List Ex, ∀ x ∈ kids, exLen (bindF cols x).1
  | [], x, h => by cases h
  | y :: ys, x, h => by
    rcases List.mem_cons.1 h with e | h
    · rw [e]; exact bind_len cols y
    · exact bind_lens cols ys x h
end
theorem find_nil (t n : ByteArray) : findCF t n [] = (0, 32) := rfl
def TwiceOK (cols : List C3) (x : Ex) : Prop := (bindF cols x).2.2 = 0 →
  ((bindF [] x = bindF cols x ∧ bindF [] (bindF cols x).1 = bindF cols x) ∨ ((bindF [] x).2.2 = 32 ∧ (bindF [] (bindF cols x).1).2.2 = 1)) ∧ 0 < (bindF cols x).1.K
theorem firstE_twice {f g h : Ex → BR} : ∀ kids : List Ex, (∀ x ∈ kids, (f x).2.2 = 0 → (g x = f x ∧ h x = f x) ∨ ((g x).2.2 = 32 ∧ (h x).2.2 = 1)) → firstE (kids.map f) = 0 →
    (kids.map g = kids.map f ∧ kids.map h = kids.map f) ∨ (firstE (kids.map g) = 32 ∧ firstE (kids.map h) = 1)
  | [], _, _ => .inl ⟨rfl, rfl⟩
  | x :: xs, hx, h0 => by
    have hall := firstE_all _ h0
    have hx0 : (f x).2.2 = 0 := hall (f x) (by simp)
    have hrest : firstE (xs.map f) = 0 := firstE_zero _ fun q hq => hall q (by simp only [List.map_cons]; exact List.mem_cons_of_mem _ hq)
    simp only [List.map_cons, firstE]
    rcases hx x List.mem_cons_self hx0 with ⟨h1, h2⟩ | ⟨h1, h2⟩
    · rcases firstE_twice xs (fun y hy => hx y (List.mem_cons_of_mem _ hy)) hrest with ⟨h3, h4⟩ | ⟨h3, h4⟩
      · exact .inl ⟨by rw [h1, h3], by rw [h2, h4]⟩
      · exact .inr ⟨by rw [h1, hx0, h3]; rfl, by rw [h2, hx0, h4]; rfl⟩
    · exact .inr ⟨by rw [h1]; rfl, by rw [h2]; rfl⟩
mutual
theorem bind_twice (cols : List C3) : ∀ x : Ex, TwiceOK cols x
  | .mk k vk vn vs tb nm sl kids => by
    have hk := bind_twices cols kids
    unfold TwiceOK
    rw [show bindF cols (.mk k vk vn vs tb nm sl kids) = bindTop cols k vk vn vs tb nm kids.length (kids.map (bindF cols)) by rw [bindF, bindsF_eq], show bindF [] (.mk k vk vn vs tb nm sl kids) = bindTop [] k vk vn vs tb nm kids.length (kids.map (bindF [])) by rw [bindF, bindsF_eq]]
    unfold bindTop
    by_cases h1 : aggF k = true
    · rw [if_pos h1]; intro h; simp at h
    rw [if_neg h1, if_neg h1]
    by_cases h2 : ((kids.length : Int) != kidsB k) = true
    · rw [if_pos h2]; intro h; simp at h
    rw [if_neg h2, if_neg h2]
    by_cases h3 : (k == 1 && okF vk vn vs) = true
    · rw [if_pos h3, if_pos h3]
      intro _
      have h3' := h3
      simp only [Bool.and_eq_true, beq_iff_eq] at h3'
      obtain ⟨rfl, h4⟩ := h3'
      refine ⟨.inl ⟨rfl, ?_⟩, by simp [Ex.K]⟩
      rw [bindF]
      unfold bindTop
      rw [if_neg h1, if_neg (by simp [kidsB]), if_pos h3]
    rw [if_neg h3, if_neg h3]
    by_cases h4 : (k == 1) = true
    · rw [if_pos h4]; intro h; simp at h
    rw [if_neg h4, if_neg h4]
    by_cases h5 : (k == 2) = true
    · rw [if_pos h5, if_pos h5, find_nil]
      intro h
      by_cases h6 : (findCF tb nm cols).2 = 0
      · rw [if_pos (show (((0 : Int), (32 : Int)).2 != 0) = true from rfl), if_neg (show ¬ ((findCF tb nm cols).2 != 0) = true by rw [h6]; simp)]
        refine ⟨.inr ⟨rfl, ?_⟩, by simp [Ex.K]⟩
        rw [bindF]
        unfold bindTop
        rw [if_neg (by decide), if_pos (by decide)]
      · rw [if_pos (by simpa using h6)] at h
        exact absurd h h6
    rw [if_neg h5, if_neg h5]
    intro h
    by_cases h6 : firstE (kids.map (bindF cols)) = 0
    · have h6' : ¬ (firstE (kids.map (bindF cols)) != 0) = true := by rw [h6]; simp
      rw [if_neg h6'] at h ⊢
      cases hty : (typedF k ((kids.map (bindF cols)).map (·.2.1))).2
      · rw [hty] at h; simp at h
      rw [hty] at h
      simp only [Bool.not_true, Bool.false_eq_true, ↓reduceIte] at h ⊢
      have hkb : 0 < k := by
        simp at h2 h4 h5
        have : (0 : Int) ≤ kidsB k := by omega
        unfold kidsB at this
        simp at this
        by_cases hk1 : (k = 1 ∨ k = 2)
        · omega
        · by_cases hk3 : (k = 3 ∨ k = 4 ∨ k = 18 ∨ k = 19)
          · omega
          · rw [if_neg hk1, if_neg hk3] at this
            split at this
            · omega
            · omega
      refine ⟨?_, by simpa [nodeE, Ex.K] using hkb⟩
      have hlen : ((kids.map (bindF cols)).map (·.1)).length = kids.length := by simp
      rw [show bindF [] (nodeE k ((kids.map (bindF cols)).map (·.1))) = bindTop [] k 0 0 ⟨#[]⟩ ⟨#[]⟩ ⟨#[]⟩ kids.length (((kids.map (bindF cols)).map (·.1)).map (bindF [])) by unfold nodeE; rw [bindF, bindsF_eq, hlen]]
      unfold bindTop
      have h3b : ¬ (k == 1 && okF 0 0 ⟨#[]⟩) = true := by simp only [Bool.not_eq_true] at h4; rw [h4]; simp
      rw [if_neg h1, if_neg h2, if_neg h3b, if_neg h4, if_neg h5]
      have e : ((kids.map (bindF cols)).map (·.1)).map (bindF []) = kids.map (fun x => bindF [] (bindF cols x).1) := by simp [Function.comp]
      rw [e]
      rcases firstE_twice (f := bindF cols) (g := bindF []) (h := fun x => bindF [] (bindF cols x).1) kids (fun x hx h0 => (hk x hx h0).1) h6 with ⟨h7, h8⟩ | ⟨h7, h8⟩
      · left
        rw [h7, h8]
        rw [if_neg h6', hty]
        exact ⟨by simp, by simp⟩
      · right
        rw [h7, h8]
        exact ⟨by simp, by simp⟩
    · rw [if_pos (by simpa using h6)] at h
      exact absurd h h6
theorem bind_twices (cols : List C3) : ∀ kids : List Ex, ∀ x ∈ kids, TwiceOK cols x
  | [], x, h => by cases h
  | y :: ys, x, h => by
    rcases List.mem_cons.1 h with e | h
    · rw [e]; exact bind_twice cols y
    · exact bind_twices cols ys x h
end
end Go.Proofs.Ytjlojkchgfeenaa
