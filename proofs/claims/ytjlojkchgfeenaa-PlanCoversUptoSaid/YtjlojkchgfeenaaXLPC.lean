/- Why a row that the chosen read does not have makes the condition FALSE: plain law. No condition. -/
import Derived.Test.YtjlojkchgfeenaaXPH
set_option maxRecDepth 20000
namespace Go.Proofs.Ytjlojkchgfeenaa
open Go Go.Vc
theorem seq_refl (s : ByteArray) : seq s s = true := by simp [seq]
theorem seq_eq {s t : ByteArray} (h : seq s t = true) : s = t := by
  have h' : s.toList = t.toList := by simpa [seq] using h
  rw [ByteArray.toList_eq, ByteArray.toList_eq] at h'
  cases s
  cases t
  congr
  exact Array.ext' h'
theorem ok_eq (k n : Int) (s : ByteArray) : ok1F k n s = okF k n s := by
  have hs : seq s ⟨#[]⟩ = true → (s.size : Int) ≤ 64 := fun h => by rw [seq_eq h]; decide
  unfold okF ok1F
  by_cases h0 : k = 0
  · subst h0
    cases h : seq s ⟨#[]⟩ <;> by_cases hn : n = 0 <;> simp_all
  · by_cases h1 : k = 1
    · subst h1
      cases h : seq s ⟨#[]⟩ <;> simp_all
    · by_cases h2 : k = 2
      · subst h2
        have hf : (n.fdiv 2 == 0) = (n == 0 || n == 1) := by
          rw [Int.fdiv_eq_ediv_of_nonneg _ (by omega)]
          by_cases h0 : n = 0
          · subst h0; rfl
          · by_cases h1 : n = 1
            · subst h1; rfl
            · have : n / 2 ≠ 0 := by omega
              rw [beq_eq_false_iff_ne.2 this, beq_eq_false_iff_ne.2 h0, beq_eq_false_iff_ne.2 h1]; rfl
        cases h : seq s ⟨#[]⟩ <;> by_cases hn : n = 0 <;> by_cases hn1 : n = 1 <;> simp_all
      · by_cases h3 : k = 3
        · subst h3
          by_cases hn : n = 0 <;> simp_all
        · have : (decide (k < 0) || decide (3 < k)) = true := by simp; omega
          simp [this, h0, h1, h2, h3]
theorem bytesLess_asymm : ∀ x y : List UInt8, Op.bytesLess x y = true → Op.bytesLess y x = false
  | _, [], h => by simp [Op.bytesLess] at h
  | [], _ :: _, _ => by simp [Op.bytesLess]
  | a :: x, b :: y, h => by
    simp only [Op.bytesLess, Bool.or_eq_true, decide_eq_true_eq, Bool.and_eq_true, beq_iff_eq] at h
    simp only [Op.bytesLess, Bool.or_eq_false_iff, decide_eq_false_iff_not, Bool.and_eq_false_iff, beq_eq_false_iff_ne]
    rcases h with h | ⟨rfl, h⟩
    · exact ⟨UInt8.lt_asymm h, Or.inl fun e => by subst e; exact absurd h (UInt8.lt_irrefl _)⟩
    · exact ⟨UInt8.lt_irrefl _, Or.inr (bytesLess_asymm x y h)⟩
theorem bytesLess_total : ∀ x y : List UInt8, Op.bytesLess x y = false → x ≠ y → Op.bytesLess y x = true
  | [], [], _, h => absurd rfl h
  | _ :: _, [], _, _ => by simp [Op.bytesLess]
  | [], _ :: _, h, _ => by simp [Op.bytesLess] at h
  | a :: x, b :: y, h, hn => by
    simp only [Op.bytesLess, Bool.or_eq_false_iff, decide_eq_false_iff_not, Bool.and_eq_false_iff, beq_eq_false_iff_ne] at h
    simp only [Op.bytesLess, Bool.or_eq_true, decide_eq_true_eq, Bool.and_eq_true, beq_iff_eq]
    by_cases he : a = b
    · subst he
      right
      exact ⟨rfl, bytesLess_total x y (by rcases h.2 with h | h; exact absurd rfl h; exact h) (fun e => hn (by rw [e]))⟩
    · left
      rcases UInt8.lt_or_lt_of_ne he with h1 | h1
      · exact absurd h1 h.1
      · exact h1
theorem seq_comm (s t : ByteArray) : seq s t = seq t s := by
  unfold seq
  exact Bool.eq_iff_iff.2 ⟨fun h => by simpa using (by simpa using h : s.toList = t.toList).symm, fun h => by simpa using (by simpa using h : t.toList = s.toList).symm⟩
theorem slt_flip {s t : ByteArray} (h : seq s t = false) : slt t s = !slt s t := by
  cases hl : slt s t
  · exact bytesLess_total _ _ hl (by simpa [seq] using h)
  · exact bytesLess_asymm _ _ hl
theorem cmpF_flip (a b : Int) : cmpF b a = - cmpF a b := by
  unfold cmpF
  by_cases h : a < b
  · simp [h, show ¬ b < a by omega]
  · by_cases h2 : b < a
    · simp [h, h2]
    · simp [h, h2]
theorem scmpF_flip (a b : ByteArray) : scmpF b a = - scmpF a b := by
  cases hq : seq a b
  · have hq' : seq b a = false := by rw [seq_comm]; exact hq
    have hf := slt_flip hq
    cases hl : slt a b <;> rw [hl] at hf <;> simp [scmpF, hq, hq', hl, hf]
  · have e := seq_eq hq
    subst e
    rw [scmp_self]
    rfl
theorem orL3 (a b c : Int) : orL [a, b, c] = if a ≠ 0 then a else if b ≠ 0 then b else c := by
  simp only [orL, bne_iff_ne]
  by_cases ha : a = 0
  · by_cases hb : b = 0
    · by_cases hc : c = 0
      · simp [ha, hb, hc]
      · simp [ha, hb, hc]
    · simp [ha, hb]
  · simp [ha]
theorem vcmp_flip (a b : V3) : vcmp b a = - vcmp a b := by
  unfold vcmp vcmpF
  rw [orL3, orL3, cmpF_flip a.k b.k, cmpF_flip a.n b.n, scmpF_flip a.s b.s]
  by_cases h1 : cmpF a.k b.k = 0
  · by_cases h2 : cmpF a.n b.n = 0
    · simp [h1, h2]
    · simp [h1, h2]
  · simp [h1]
theorem cmpF_le {a b : Int} (h : a ≤ b) : cmpF a b ≤ 0 := by
  unfold cmpF
  by_cases h1 : a < b
  · simp [h1]
  · simp [show ¬ b < a by omega, h1]
theorem cmpF_eq {a b : Int} (h : a = b) : cmpF a b = 0 := by rw [h]; exact cmpF_self b
theorem ffLess : ∀ (n : Nat) (l : List UInt8), l.length ≤ n → Op.bytesLess (List.replicate n 255) l = false
  | 0, [], _ => rfl
  | _ + 1, [], _ => rfl
  | 0, _ :: _, h => by simp at h
  | n + 1, b :: l, h => by
    have ih := ffLess n l (by simpa using h)
    rw [List.replicate_succ]
    simp only [Op.bytesLess, ih, Bool.and_false, Bool.or_false, decide_eq_false_iff_not]
    intro hl
    have h1 : b.toNat < 256 := b.toNat_lt
    have h2 : (255 : UInt8).toNat < b.toNat := UInt8.lt_iff_toNat_lt.1 hl
    have h3 : (255 : UInt8).toNat = 255 := rfl
    omega
theorem scmp_ff {s : ByteArray} (h : s.size ≤ 64) : scmpF s ff64 ≤ 0 := by
  have e : scmpF s ff64 = - scmpF ff64 s := scmpF_flip _ _
  have hl : slt ff64 s = false := by
    unfold slt
    rw [ByteArray.toList_eq, ByteArray.toList_eq]
    have : ff64.data.toList = List.replicate 64 255 := by rfl
    rw [this]
    exact ffLess 64 _ (by simpa using h)
  rw [e]
  unfold scmpF
  rw [hl]
  simp
  split <;> omega
theorem greatest_le {v : V3} {k : Int} (hk : v.k = k) (h0 : 1 ≤ k) (h : okR v = true) (hn : v.n ≤ 9223372036854775807) : vcmp v (greatF k) ≤ 0 := by
  subst hk
  unfold okR ok1F at h
  split at h
  · cases h
  rename_i h1
  simp only [Bool.or_eq_true, decide_eq_true_eq, Bool.and_eq_true, bne_iff_ne, beq_iff_eq, Bool.not_eq_true', not_or, not_and] at h1
  obtain ⟨⟨⟨⟨hk0, hk3⟩, hs⟩, _⟩, hn3⟩ := h1
  split at h
  · cases h
  rename_i h2
  simp only [Bool.and_eq_true, beq_iff_eq, bne_iff_ne, not_and, Decidable.not_not] at h2
  have hsz : v.s.size ≤ 64 := by have := of_decide_eq_true h; omega
  unfold greatF vcmp vcmpF
  have hse : v.k ≠ 3 → v.s = ⟨#[]⟩ := fun hh => seq_eq (by simpa using hs hh)
  by_cases e1 : v.k = 1
  · rw [if_pos (by simpa using e1)]
    simp only [orL3, cmpF_self]
    rw [hse (by omega), scmp_self]
    have := cmpF_le hn
    simp only [ne_eq, not_true, if_false]
    split <;> omega
  · rw [if_neg (by simpa using e1)]
    by_cases e2 : v.k = 2
    · rw [if_pos (by simpa using e2)]
      simp only [orL3, cmpF_self]
      rw [hse (by omega), scmp_self]
      have : v.n ≤ 1 := by
        by_cases hz : v.n = 0
        · omega
        · have := h2 ⟨e2, hz⟩; omega
      have := cmpF_le this
      simp only [ne_eq, not_true, if_false]
      split <;> omega
    · rw [if_neg (by simpa using e2)]
      have e3 : v.k = 3 := by omega
      simp only [orL3, cmpF_self]
      have hz : v.n = 0 := by
        by_cases hz : v.n = 0
        · exact hz
        · exact absurd hz (hn3 e3)
      rw [hz, cmpF_self]
      have := scmp_ff hsz
      simp only [ne_eq, not_true, if_false]
      omega
inductive WF : Ex → Prop
  | mk {k vk vn : Int} {vs tb nm : ByteArray} {sl : Int} {kids : List Ex} (h : k = 1 → kids = [] ∧ okF vk vn vs = true) (hk : ∀ x ∈ kids, WF x) : WF (.mk k vk vn vs tb nm sl kids)
theorem firstE_all' : ∀ rs : List BR, firstE rs = 0 → ∀ r ∈ rs, r.2.2 = 0
  | [], _, r, h => by simp at h
  | q :: rs, h, r, hr => by
    unfold firstE at h
    by_cases hq : q.2.2 = 0
    · rw [if_neg (by simp [hq])] at h
      rcases List.mem_cons.1 hr with rfl | hr
      · exact hq
      · exact firstE_all' rs h r hr
    · rw [if_pos (by simpa using hq)] at h
      exact absurd h hq
theorem bind_wf (cols : List C3) : ∀ x : Ex, (bindF cols x).2.2 = 0 → WF (bindF cols x).1
  | .mk k vk vn vs tb nm sl kids, h => by
    have ih : ∀ x ∈ kids, (bindF cols x).2.2 = 0 → WF (bindF cols x).1 := fun x hx => bind_wf cols x
    rw [bindF, bindsF_eq] at h ⊢
    unfold bindTop at h ⊢
    by_cases h1 : aggF k = true
    · rw [if_pos h1] at h; cases h
    rw [if_neg h1] at h ⊢
    by_cases h2 : ((kids.length : Int) != kidsB k) = true
    · rw [if_pos h2] at h; cases h
    rw [if_neg h2] at h ⊢
    by_cases h3 : (k == 1 && okF vk vn vs) = true
    · rw [if_pos h3] at h ⊢
      simp only [Bool.and_eq_true] at h3
      exact .mk (fun _ => ⟨rfl, h3.2⟩) (fun x hx => by simp at hx)
    rw [if_neg h3] at h ⊢
    by_cases h4 : (k == 1) = true
    · rw [if_pos h4] at h; cases h
    rw [if_neg h4] at h ⊢
    by_cases h5 : (k == 2) = true
    · rw [if_pos h5] at h ⊢
      split at h
      · rename_i h6; simp at h6 h; exact absurd h h6
      · rename_i h6
        rw [if_neg h6]
        exact .mk (fun e => by cases e) (fun x hx => by simp at hx)
    rw [if_neg h5] at h ⊢
    by_cases h6 : (firstE (kids.map (bindF cols)) != 0) = true
    · rw [if_pos h6] at h; simp at h6 h; exact absurd h h6
    rw [if_neg h6] at h ⊢
    split at h
    · cases h
    rename_i h7
    rw [if_neg h7]
    refine .mk (fun e => by simp [e] at h4) fun y hy => ?_
    simp only [List.map_map, List.mem_map, Function.comp] at hy
    obtain ⟨x, hx, rfl⟩ := hy
    exact ih x hx (firstE_all' _ (by simpa using h6) _ (List.mem_map_of_mem hx))
theorem firstX_wf : ∀ {x : Ex}, WF x → WF (firstX x)
  | .mk k vk vn vs tb nm sl [a, b], h => by
    unfold firstX
    split
    · cases h with
      | mk _ hk => exact firstX_wf (hk a (by simp))
    · exact h
  | .mk k vk vn vs tb nm sl [], h => h
  | .mk k vk vn vs tb nm sl [_], h => h
  | .mk k vk vn vs tb nm sl (_ :: _ :: _ :: _), h => h
abbrev falseV : V3 := ⟨2, 0, ⟨#[]⟩⟩
theorem first_false {vals : List V3} : ∀ {x : Ex}, findF vals (firstX x) 0 = (falseV, 0) → findF vals x 0 = (falseV, 0)
  | .mk k vk vn vs tb nm sl [a, b], h => by
    unfold firstX at h
    split at h
    · rename_i hk
      have ek : k = 16 := by simpa using hk
      subst ek
      have := first_false h
      rw [findF, this, if_neg (by decide)]
      unfold twoF
      rw [if_pos (by decide)]
      unfold logicF
      rw [if_neg (by decide), if_pos (by simp [veqV, veq, truthF, truthN, seq_refl])]
    · exact h
  | .mk k vk vn vs tb nm sl [], h => h
  | .mk k vk vn vs tb nm sl [_], h => h
  | .mk k vk vn vs tb nm sl (_ :: _ :: _ :: _), h => h
theorem lit_find {vals : List V3} {x : Ex} {v : V3} (hw : WF x) (h : litF x = (v, true)) : findF vals x 0 = (v, 0) := by
  unfold litF at h
  cases hw with
  | mk h1 hk =>
  rename_i k vk vn vs tb nm sl kids
  change (if (k == 1 && ((kids.length : Int) == 0)) = true then (⟨vk, vn, vs⟩, (vk != 0) && okF vk vn vs) else if (k == 3 && ((kids.length : Int) == 1)) = true then (⟨1, IntKind.i64.wrap (0 - (kids.getD 0 exD).VN), ⟨#[]⟩⟩, (((kids.getD 0 exD).K == 1) && ((kids.getD 0 exD).VK == 1)) && ((kids.getD 0 exD).VN != -9223372036854775808)) else (zero3, false)) = (v, true) at h
  by_cases hc : (k == 1 && ((kids.length : Int) == 0)) = true
  · rw [if_pos hc] at h
    simp only [Bool.and_eq_true, beq_iff_eq] at hc
    obtain ⟨rfl, hn⟩ := hc
    obtain ⟨rfl, ho⟩ := h1 rfl
    injection h with h2 h3
    subst h2
    rw [findF, if_neg (by decide)]
    unfold leafF
    rw [if_neg (by decide), if_pos (by simpa [okV] using ho)]
  · rw [if_neg hc] at h
    by_cases hc : (k == 3 && ((kids.length : Int) == 1)) = true
    · rw [if_pos hc] at h
      simp only [Bool.and_eq_true, beq_iff_eq] at hc
      obtain ⟨rfl, hn⟩ := hc
      match kids, hn with
      | [], hn => simp at hn
      | _ :: _ :: _, hn => simp at hn; omega
      | [c], _ =>
        injection h with h2 h3
        simp only [List.getD_cons_zero] at h2 h3
        simp only [Bool.and_eq_true, beq_iff_eq, bne_iff_ne] at h3
        obtain ⟨⟨h4, h5⟩, h6⟩ := h3
        have hc := hk c (by simp)
        cases hc with
        | mk g1 _ =>
        simp only [Ex.K, Ex.VK, Ex.VN] at h4 h5 h6 h2
        subst h4 h5
        obtain ⟨rfl, ho⟩ := g1 rfl
        rw [findF, if_neg (by decide), findF, if_neg (by decide)]
        unfold leafF
        rw [if_neg (by decide), if_pos (by simpa [okV] using ho)]
        unfold oneF
        simp only
        rw [if_neg (by decide), if_neg (by decide), if_neg (by decide), if_neg (by decide), if_neg (by decide), if_neg (by simpa using h6)]
        rw [h2]
    · rw [if_neg hc] at h
      cases h
theorem slot_find {vals : List V3} {x : Ex} (hk : x.K = 24) (hn : x.KS = []) (h0 : 0 ≤ x.SL) (h1 : x.SL < vals.length) (ho : okV (v3at vals x.SL) = true) : findF vals x 0 = (v3at vals x.SL, 0) := by
  cases x with
  | mk k vk vn vs tb nm sl kids =>
  simp only [Ex.K, Ex.KS, Ex.SL] at hk hn h0 h1 ho
  subst hk hn
  rw [findF, if_neg (by decide)]
  unfold leafF
  rw [if_neg (by decide), if_neg (by simp), if_pos (by simp [h0, h1, ho])]
  rfl
theorem ask_some {cols : List C4} {kind : Int} {a : Ex} {v : V3 × Bool} (h : (askF cols kind a v).2.1 ≠ 0) :
    askF cols kind a v = (a.SL, kind, v.1) ∧ v.2 = true ∧ a.K = 24 ∧ a.KS = [] ∧ 0 ≤ a.SL ∧ a.SL < cols.length ∧ (cols.getD a.SL.toNat c4D).ty = v.1.k := by
  unfold askF at h ⊢
  split at h
  · exact absurd rfl h
  rename_i hc
  rw [if_neg hc]
  simp only [Bool.or_eq_true, decide_eq_true_eq, bne_iff_ne, not_or, Bool.not_eq_true', Bool.not_eq_false] at hc
  obtain ⟨⟨⟨⟨⟨h1, h2⟩, h3⟩, h4⟩, h5⟩, h6⟩ := hc
  refine ⟨rfl, h1, Decidable.not_not.1 h2, ?_, by omega, by omega, Decidable.not_not.1 h6⟩
  have : a.KS.length = 0 := by omega
  exact List.length_eq_zero_iff.1 this
theorem turn_cases {k : Int} (h : turnF k ≠ 0) : k = 10 ∨ k = 12 ∨ k = 13 ∨ k = 14 ∨ k = 15 := by
  unfold turnF at h
  by_cases h1 : k = 10
  · exact .inl h1
  by_cases h2 : k = 12
  · exact .inr (.inl h2)
  by_cases h3 : k = 13
  · exact .inr (.inr (.inl h3))
  by_cases h4 : k = 14
  · exact .inr (.inr (.inr (.inl h4)))
  by_cases h5 : k = 15
  · exact .inr (.inr (.inr (.inr h5)))
  rw [if_neg h1, if_neg h2, if_neg h3, if_neg h4, if_neg h5] at h
  exact absurd rfl h
theorem ops_turn {k : Int} (h : turnF k ≠ 0) (c : Int) : opsF (turnF k) c = opsF k (-c) := by
  rcases turn_cases h with rfl | rfl | rfl | rfl | rfl
  · show (c == 0) = (-c == 0)
    exact Bool.eq_iff_iff.2 ⟨fun h => by simp at h ⊢; omega, fun h => by simp at h ⊢; omega⟩
  · show decide (0 < c) = decide (-c < 0)
    exact decide_eq_decide.2 ⟨fun _ => by omega, fun _ => by omega⟩
  · show decide (0 ≤ c) = decide (-c ≤ 0)
    exact decide_eq_decide.2 ⟨fun _ => by omega, fun _ => by omega⟩
  · show decide (c < 0) = decide (0 < -c)
    exact decide_eq_decide.2 ⟨fun _ => by omega, fun _ => by omega⟩
  · show decide (c ≤ 0) = decide (0 ≤ -c)
    exact decide_eq_decide.2 ⟨fun _ => by omega, fun _ => by omega⟩
theorem turn_turn {k : Int} (h : turnF k ≠ 0) : turnF (turnF k) ≠ 0 := by
  rcases turn_cases h with rfl | rfl | rfl | rfl | rfl <;> decide
theorem two_eval {k : Int} (hk : turnF k ≠ 0) {a b : V3} (ha : a.k ≠ 0) (hab : a.k = b.k) (f : Int → V3 × Int) (hf : f 0 = (b, 0)) : twoF k (a, 0) f = (truthF (opsF k (vcmp a b)), 0) := by
  have hr := turn_cases hk
  unfold twoF
  rw [if_neg (by simp; omega)]
  simp only [hf]
  unfold two2F
  rw [if_neg (by simp), if_neg (by simp; omega), if_neg (by simp [← hab, ha]), if_neg (by simp [hab])]
  rfl
structure Fits (cols : List C4) (vals : List V3) : Prop where
  ty : cols.all tyOk = true
  len : vals.length = cols.length
  ok : vals.all okR = true
  fit : ∀ i : Nat, i < vals.length → (vals.getD i zero3).k = 0 ∨ (vals.getD i zero3).k = (cols.getD i c4D).ty
  rng : ∀ v ∈ vals, v.n ≤ 9223372036854775807
theorem Fits.at {cols : List C4} {vals : List V3} (h : Fits cols vals) {i : Int} (h0 : 0 ≤ i) (h1 : i < cols.length) :
    okR (v3at vals i) = true ∧ (v3at vals i).n ≤ 9223372036854775807 ∧ ((v3at vals i).k = 0 ∨ (v3at vals i).k = (cols.getD i.toNat c4D).ty) ∧ 1 ≤ (cols.getD i.toNat c4D).ty := by
  have hl := h.len
  have hi : i.toNat < vals.length := by omega
  have hm : v3at vals i ∈ vals := by
    unfold v3at
    rw [List.getD_eq_getElem?_getD, List.getElem?_eq_getElem hi]
    exact List.getElem_mem hi
  refine ⟨List.all_eq_true.1 h.ok _ hm, h.rng _ hm, h.fit _ hi, ?_⟩
  have hj : i.toNat < cols.length := by omega
  have := List.all_eq_true.1 h.ty (cols.getD i.toNat c4D) (by rw [List.getD_eq_getElem?_getD, List.getElem?_eq_getElem hj]; exact List.getElem_mem hj)
  unfold tyOk at this
  simp at this
  simp
  omega
theorem quest_eval {cols : List C4} {vals : List V3} {y : Ex} (hw : WF y) (hF : Fits cols vals) (hq : (questF cols y).2.1 ≠ 0) :
    turnF (questF cols y).2.1 ≠ 0 ∧ 0 ≤ (questF cols y).1 ∧ (questF cols y).1 < cols.length ∧ (cols.getD (questF cols y).1.toNat c4D).ty = (questF cols y).2.2.k ∧
    ((v3at vals (questF cols y).1).k ≠ 0 → findF vals (firstX y) 0 = (truthF (opsF (questF cols y).2.1 (vcmp (v3at vals (questF cols y).1) (questF cols y).2.2)), 0)) := by
  have hw1 := firstX_wf hw
  unfold questF at hq ⊢
  generalize firstX y = z at hq hw1 ⊢
  by_cases h1 : ((turnF z.K == 0) || ((z.KS.length : Int) != 2)) = true
  · rw [if_pos h1] at hq; exact absurd rfl hq
  rw [if_neg h1] at hq ⊢
  simp only [Bool.or_eq_true, beq_iff_eq, bne_iff_ne, not_or, Decidable.not_not] at h1
  obtain ⟨hk, hl⟩ := h1
  cases z with
  | mk k vk vn vs tb nm sl kids =>
  match kids, hl with
  | [], hl => simp [Ex.KS] at hl
  | [_], hl => simp [Ex.KS] at hl
  | _ :: _ :: _ :: _, hl => simp [Ex.KS] at hl; omega
  | [a, b], _ =>
    replace hk : turnF k ≠ 0 := hk
    have hr := turn_cases hk
    cases hw1 with
    | mk _ hkid =>
    have ek : ((2 : Int) != kidsF k) = false := by rcases hr with rfl | rfl | rfl | rfl | rfl <;> rfl
    show turnF (if (a.K != 24) = true then askF cols (turnF k) b (litF a) else askF cols k a (litF b)).2.1 ≠ 0 ∧ _
    change (if (a.K != 24) = true then askF cols (turnF k) b (litF a) else askF cols k a (litF b)).2.1 ≠ 0 at hq
    change _ ∧ 0 ≤ (if (a.K != 24) = true then askF cols (turnF k) b (litF a) else askF cols k a (litF b)).1 ∧ (if (a.K != 24) = true then askF cols (turnF k) b (litF a) else askF cols k a (litF b)).1 < cols.length ∧ (cols.getD (if (a.K != 24) = true then askF cols (turnF k) b (litF a) else askF cols k a (litF b)).1.toNat c4D).ty = (if (a.K != 24) = true then askF cols (turnF k) b (litF a) else askF cols k a (litF b)).2.2.k ∧ ((v3at vals (if (a.K != 24) = true then askF cols (turnF k) b (litF a) else askF cols k a (litF b)).1).k ≠ 0 → findF vals (.mk k vk vn vs tb nm sl [a, b]) 0 = (truthF (opsF (if (a.K != 24) = true then askF cols (turnF k) b (litF a) else askF cols k a (litF b)).2.1 (vcmp (v3at vals (if (a.K != 24) = true then askF cols (turnF k) b (litF a) else askF cols k a (litF b)).1) (if (a.K != 24) = true then askF cols (turnF k) b (litF a) else askF cols k a (litF b)).2.2)), 0))
    by_cases ha : (a.K != 24) = true
    · rw [if_pos ha] at hq ⊢
      obtain ⟨e, g1, g2, g3, g4, g5, g6⟩ := ask_some hq
      rw [e]
      obtain ⟨o1, _, o3, o4⟩ := hF.at g4 g5
      refine ⟨turn_turn hk, g4, g5, g6, fun hn => ?_⟩
      have f1 := lit_find (vals := vals) (hkid a (by simp)) (v := (litF a).1) (by rw [← g1])
      have f2 := slot_find (vals := vals) g2 g3 g4 (by have := hF.len; omega) (by unfold okV; rw [← ok_eq]; exact o1)
      rw [findF, if_neg (by rw [ek]; simp), f1]
      have o5 : (litF a).1.k = (v3at vals b.SL).k := by rcases o3 with h | h; exact absurd h hn; rw [h, g6]
      rw [two_eval hk (by rw [o5]; exact hn) o5 _ f2]
      show _ = (truthF (opsF (turnF k) (vcmp (v3at vals b.SL) (litF a).1)), 0)
      rw [ops_turn hk, ← vcmp_flip]
    · rw [if_neg ha] at hq ⊢
      obtain ⟨e, g1, g2, g3, g4, g5, g6⟩ := ask_some hq
      rw [e]
      obtain ⟨o1, _, o3, o4⟩ := hF.at g4 g5
      refine ⟨hk, g4, g5, g6, fun hn => ?_⟩
      have f1 := lit_find (vals := vals) (hkid b (by simp)) (v := (litF b).1) (by rw [← g1])
      have f2 := slot_find (vals := vals) g2 g3 g4 (by have := hF.len; omega) (by unfold okV; rw [← ok_eq]; exact o1)
      rw [findF, if_neg (by rw [ek]; simp), f2]
      have o5 : (v3at vals a.SL).k = (litF b).1.k := by rcases o3 with h | h; exact absurd h hn; rw [h, g6]
      rw [two_eval hk hn o5 _ f1]
theorem idxG_spec (p : I4 → Bool) : ∀ (xs : List I4) (i : Int), 0 ≤ i → idxG p xs i = -1 ∨ (i ≤ idxG p xs i ∧ idxG p xs i < i + xs.length ∧ p (xs.getD (idxG p xs i - i).toNat i4D) = true)
  | [], i, _ => .inl rfl
  | x :: xs, i, h0 => by
    unfold idxG
    by_cases hp : p x = true
    · rw [if_pos hp]
      refine .inr ⟨by omega, by simp only [List.length_cons]; omega, ?_⟩
      rw [show (i - i).toNat = 0 by omega]
      exact hp
    · rw [if_neg hp]
      rcases idxG_spec p xs (i + 1) (by omega) with h | ⟨h1, h2, h3⟩
      · exact .inl h
      · refine .inr ⟨by omega, by simp only [List.length_cons]; omega, ?_⟩
        rw [show (idxG p xs (i + 1) - i).toNat = (idxG p xs (i + 1) - (i + 1)).toNat + 1 by omega]
        exact h3
theorem fin_spec {nm : ByteArray} {lo hi : V3} {col : Int} {ixs : List I4} (pm : Bool → Bool) {at_ : Int} (ha : at_ = idxG (atF pm col) ixs 0) :
    finCh nm lo hi col at_ = (allR nm, -1) ∨ (0 ≤ at_ ∧ at_ < ixs.length ∧ (ixs.getD at_.toNat i4D).col = col ∧ finCh nm lo hi col at_ = (⟨nm, col, lo, hi⟩, at_)) := by
  unfold finCh
  rcases idxG_spec (atF pm col) ixs 0 (Int.le_refl _) with h | ⟨h1, h2, h3⟩
  · rw [← ha] at h
    rw [if_pos (by omega)]
    exact .inl rfl
  · rw [← ha] at h1 h2 h3
    rw [if_neg (by omega)]
    refine .inr ⟨h1, by omega, ?_, rfl⟩
    unfold atF at h3
    simp only [Int.sub_zero, Bool.and_eq_true, beq_iff_eq] at h3
    exact h3.1
theorem choose_spec (y : Ex) (nm : ByteArray) (cols : List C4) (ixs : List I4) :
    chooseF [y] nm cols ixs = (allR nm, -1) ∨ ((questF cols y).2.1 ≠ 0 ∧ ∃ (lo hi : V3) (n : Int), 0 ≤ n ∧ n < ixs.length ∧ (ixs.getD n.toNat i4D).col = (questF cols y).1 ∧ chooseF [y] nm cols ixs = (⟨nm, (questF cols y).1, lo, hi⟩, n) ∧
      (((questF cols y).2.1 = 10 ∧ lo = (questF cols y).2.2 ∧ hi = (questF cols y).2.2) ∨ (((questF cols y).2.1 = 14 ∨ (questF cols y).2.1 = 15) ∧ lo = (questF cols y).2.2 ∧ hi = greatF (questF cols y).2.2.k) ∨
        ((questF cols y).2.1 ≠ 10 ∧ (questF cols y).2.1 ≠ 14 ∧ (questF cols y).2.1 ≠ 15 ∧ lo = zero3 ∧ hi = (questF cols y).2.2))) := by
  unfold chooseF
  rw [if_neg (by simp)]
  show chooseQ (questF cols y) nm ixs = _ ∨ _ ∧ ∃ lo hi n, _ ∧ _ ∧ _ ∧ chooseQ (questF cols y) nm ixs = _ ∧ _
  generalize questF cols y = q
  unfold chooseQ
  by_cases h0 : (q.2.1 == 0) = true
  · rw [if_pos h0]; exact .inl rfl
  rw [if_neg h0]
  have h0' : q.2.1 ≠ 0 := by simpa using h0
  by_cases h1 : (q.2.1 == 10) = true
  · rw [if_pos h1]
    have h1' : q.2.1 = 10 := by simpa using h1
    split
    · rcases fin_spec (nm := nm) (lo := q.2.2) (hi := q.2.2) (fun _ => true) (ixs := ixs) (col := q.1) rfl with h | ⟨g1, g2, g3, g4⟩
      · exact .inl h
      · exact .inr ⟨h0', _, _, _, g1, g2, g3, g4, .inl ⟨h1', rfl, rfl⟩⟩
    · rcases fin_spec (nm := nm) (lo := q.2.2) (hi := q.2.2) (fun b => b) (ixs := ixs) (col := q.1) rfl with h | ⟨g1, g2, g3, g4⟩
      · exact .inl h
      · exact .inr ⟨h0', _, _, _, g1, g2, g3, g4, .inl ⟨h1', rfl, rfl⟩⟩
  rw [if_neg h1]
  have h1' : q.2.1 ≠ 10 := by simpa using h1
  by_cases h2 : ((q.2.1 == 14) || (q.2.1 == 15)) = true
  · rw [if_pos h2]
    have h2' : q.2.1 = 14 ∨ q.2.1 = 15 := by simpa using h2
    rcases fin_spec (nm := nm) (lo := q.2.2) (hi := greatF q.2.2.k) (fun b => !b) (ixs := ixs) (col := q.1) rfl with h | ⟨g1, g2, g3, g4⟩
    · exact .inl h
    · exact .inr ⟨h0', _, _, _, g1, g2, g3, g4, .inr (.inl ⟨h2', rfl, rfl⟩)⟩
  rw [if_neg h2]
  have h2' : ¬ (q.2.1 = 14 ∨ q.2.1 = 15) := by simpa using h2
  rcases fin_spec (nm := nm) (lo := zero3) (hi := q.2.2) (fun b => !b) (ixs := ixs) (col := q.1) rfl with h | ⟨g1, g2, g3, g4⟩
  · exact .inl h
  · exact .inr ⟨h0', _, _, _, g1, g2, g3, g4, .inr (.inr ⟨h1', fun e => h2' (.inl e), fun e => h2' (.inr e), rfl, rfl⟩)⟩
theorem law_covers1 {y : Ex} {nm : ByteArray} {cols : List C4} {ixs : List I4} : (decide (0 ≤ (chooseF [y] nm cols ixs).2) || ((chooseF [y] nm cols ixs).1.col == -1)) = true := by
  rcases choose_spec y nm cols ixs with h | ⟨_, lo, hi, n, h0, _, _, h, _⟩
  · rw [h]; rfl
  · rw [h]; simp [h0]
theorem law_covers2 {y : Ex} {nm : ByteArray} {cols : List C4} {ixs : List I4} {vals : List V3} (hw : WF y) (hF : Fits cols vals) (hc : coversF (chooseF [y] nm cols ixs).1 vals = false) :
    0 ≤ (chooseF [y] nm cols ixs).2 ∧ (chooseF [y] nm cols ixs).2 < ixs.length ∧ (ixs.getD (chooseF [y] nm cols ixs).2.toNat i4D).col = (chooseF [y] nm cols ixs).1.col ∧ evalF vals y = (falseV, 0) := by
  rcases choose_spec y nm cols ixs with h | ⟨hq, lo, hi, n, h0, h1, h2, h, hk⟩
  · rw [h] at hc
    unfold allR at hc
    rw [cov_all] at hc
    cases hc
  rw [h] at hc ⊢
  refine ⟨h0, h1, h2, ?_⟩
  obtain ⟨ht, g1, g2, g3, g4⟩ := quest_eval hw hF hq
  have hl := hF.len
  obtain ⟨o1, o2, o3, o4⟩ := hF.at g1 g2
  unfold coversF at hc
  rw [if_neg (by simp; omega)] at hc
  simp only at hc
  generalize v3at vals (questF cols y).1 = rw_ at *
  simp only [Bool.or_eq_false_iff, beq_eq_false_iff_ne, Bool.and_eq_false_iff, decide_eq_false_iff_not] at hc
  obtain ⟨hn, hc⟩ := hc
  have e := g4 hn
  have ok : opsF (questF cols y).2.1 (vcmp rw_ (questF cols y).2.2) = false := by
    have hfl := vcmp_flip rw_ (questF cols y).2.2
    have hkk : rw_.k = (questF cols y).2.2.k := by rcases o3 with h | h; exact absurd h hn; rw [h, g3]
    generalize (questF cols y).2.2 = v at *
    generalize (questF cols y).2.1 = k at *
    rcases hk with ⟨hk, e1, e2⟩ | ⟨hk, e1, e2⟩ | ⟨k1, k2, k3, e1, e2⟩ <;> rw [e1, e2] at hc
    · subst hk
      show (vcmp rw_ v == 0) = false
      rw [beq_eq_false_iff_ne]
      intro e0
      rcases hc with hc | hc <;> omega
    · have hg := greatest_le hkk (by omega) o1 o2
      have : 0 < vcmp v rw_ := by rcases hc with hc | hc <;> omega
      rcases hk with rfl | rfl
      · show decide (0 < vcmp rw_ v) = false
        simp; omega
      · show decide (0 ≤ vcmp rw_ v) = false
        simp; omega
    · have hz := vcmp_least o1 hn
      have : 0 < vcmp rw_ v := by rcases hc with hc | hc <;> omega
      rcases turn_cases ht with rfl | rfl | rfl | rfl | rfl
      · exact absurd rfl k1
      · show decide (vcmp rw_ v < 0) = false
        simp; omega
      · show decide (vcmp rw_ v ≤ 0) = false
        simp; omega
      · exact absurd rfl k2
      · exact absurd rfl k3
  rw [ok] at e
  have := first_false (vals := vals) (x := y) e
  unfold evalF
  rw [this]
  rfl
end Go.Proofs.Ytjlojkchgfeenaa
