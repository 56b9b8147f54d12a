/- Values: order, keys; plain laws. No condition. -/
import Derived.Test.YtgpikmonklainaaXG4
import Derived.Lib.ItoaNum
set_option maxRecDepth 20000
namespace Go.Vl
open Go Go.Vc
abbrev bl (l : List UInt8) : ByteArray := ⟨l.toArray⟩
theorem bl_size (l : List UInt8) : (bl l).size = l.length := by show l.toArray.size = _; simp
theorem bl_list (l : List UInt8) : (bl l).data.toList = l := by simp
theorem bl_eq (s : ByteArray) : bl s.data.toList = s := by cases s; simp
theorem list_inj {a b : ByteArray} (h : a.data.toList = b.data.toList) : a = b := by rw [← bl_eq a, ← bl_eq b, h]
theorem len_sz (s : ByteArray) : s.data.toList.length = s.size := by simp
theorem app_list (a b : ByteArray) : (a ++ b).data.toList = a.data.toList ++ b.data.toList := by rw [ByteArray.data_append, Array.toList_append]
theorem seq_iff (s t : ByteArray) : seq s t = true ↔ s = t := by
  unfold seq
  rw [ByteArray.toList_eq, ByteArray.toList_eq, beq_iff_eq]
  exact ⟨list_inj, fun h => by rw [h]⟩
theorem seq_self (s : ByteArray) : seq s s = true := (seq_iff s s).2 rfl
theorem seq_lists (s t : ByteArray) : seq s t = (s.data.toList == t.data.toList) := by
  unfold seq
  rw [ByteArray.toList_eq, ByteArray.toList_eq]
theorem slt_lists (s t : ByteArray) : slt s t = Op.bytesLess s.data.toList t.data.toList := by
  unfold slt
  rw [ByteArray.toList_eq, ByteArray.toList_eq]
abbrev lss := Op.bytesLess
theorem lss_nn : lss [] [] = false := rfl
theorem lss_n (l : List UInt8) : lss l [] = false := by cases l <;> rfl
theorem lss_c (a b : UInt8) (x y : List UInt8) : lss (a :: x) (b :: y) = (decide (a < b) || (a == b && lss x y)) := by
  show Op.bytesLess _ _ = _
  rw [Op.bytesLess]
theorem lss_irrefl : ∀ x, lss x x = false
  | [] => rfl
  | a :: x => by rw [lss_c, lss_irrefl x]; simp
theorem lss_asym : ∀ x y, lss x y = true → lss y x = false
  | _, [], h => by rw [lss_n] at h; cases h
  | [], _ :: _, _ => lss_n _
  | a :: x, b :: y, h => by
    rw [lss_c] at h ⊢
    simp only [Bool.or_eq_true, decide_eq_true_eq, Bool.and_eq_true, beq_iff_eq] at h
    simp only [Bool.or_eq_false_iff, decide_eq_false_iff_not, Bool.and_eq_false_iff, beq_eq_false_iff_ne]
    rcases h with h | ⟨h1, h2⟩
    · exact ⟨fun h3 => absurd (UInt8.lt_trans h h3) (UInt8.lt_irrefl _), .inl fun e => by subst e; exact UInt8.lt_irrefl _ h⟩
    · subst h1
      exact ⟨UInt8.lt_irrefl _, .inr (lss_asym x y h2)⟩
theorem lss_total : ∀ x y, lss x y = false → lss y x = false → x = y
  | [], [], _, _ => rfl
  | [], _ :: _, h, _ => by cases h
  | _ :: _, [], _, h => by cases h
  | a :: x, b :: y, h, k => by
    rw [lss_c] at h k
    simp only [Bool.or_eq_false_iff, decide_eq_false_iff_not, Bool.and_eq_false_iff, beq_eq_false_iff_ne] at h k
    have e : a = b := UInt8.le_antisymm (UInt8.not_lt.1 k.1) (UInt8.not_lt.1 h.1)
    subst e
    rw [lss_total x y (h.2.resolve_left fun h => h rfl) (k.2.resolve_left fun h => h rfl)]
theorem lss_trans : ∀ x y z, lss x y = true → lss y z = true → lss x z = true
  | _, [], _, h, _ => by rw [lss_n] at h; cases h
  | _, _ :: _, [], _, h => by rw [lss_n] at h; cases h
  | [], _ :: _, _ :: _, _, _ => rfl
  | a :: x, b :: y, c :: z, h, k => by
    rw [lss_c] at h k ⊢
    simp only [Bool.or_eq_true, decide_eq_true_eq, Bool.and_eq_true, beq_iff_eq] at h k ⊢
    rcases h with h | ⟨rfl, h⟩
    · rcases k with k | ⟨rfl, k⟩
      · exact .inl (UInt8.lt_trans h k)
      · exact .inl h
    · rcases k with k | ⟨rfl, k⟩
      · exact .inl k
      · exact .inr ⟨rfl, lss_trans x y z h k⟩
theorem lss_app : ∀ (x y : List UInt8) (a b : List UInt8), x.length = y.length → lss (x ++ a) (y ++ b) = (lss x y || (x == y && lss a b))
  | [], [], a, b, _ => by simp [lss_nn]
  | [], _ :: _, _, _, h => by simp at h
  | _ :: _, [], _, _, h => by simp at h
  | c :: x, d :: y, a, b, h => by
    rw [List.cons_append, List.cons_append, lss_c, lss_c, lss_app x y a b (by simpa using h), List.cons_beq_cons]
    cases (c == d) <;> simp [Bool.or_assoc]
theorem v3_ext {a b : V3} (h1 : a.k = b.k) (h2 : a.n = b.n) (h3 : a.s = b.s) : a = b := by cases a; cases b; simp_all
def okV (v : V3) : Bool := if v.k == 0 then (v.n == 0) && seq v.s ⟨#[]⟩ else if v.k == 1 then seq v.s ⟨#[]⟩ else if v.k == 2 then (v.n.fdiv 2 == 0) && seq v.s ⟨#[]⟩ else ((v.k == 3) && (v.n == 0)) && decide ((v.s.size : Int) ≤ 64)
abbrev e0 : ByteArray := ⟨#[]⟩
inductive OkK (v : V3) : Prop
  | null (h : v = ⟨0, 0, e0⟩)
  | int (n : Int) (h : v = ⟨1, n, e0⟩)
  | bool (b : Bool) (h : v = ⟨2, if b then 1 else 0, e0⟩)
  | text (s : ByteArray) (hs : s.size ≤ 64) (h : v = ⟨3, 0, s⟩)
theorem ok_cases {v : V3} (h : okV v = true) : OkK v := by
  obtain ⟨k, n, s⟩ := v
  unfold okV at h
  dsimp only at h
  split at h
  · rename_i hk
    simp only [Bool.and_eq_true, beq_iff_eq, seq_iff] at h hk
    exact .null (by rw [hk, h.1, h.2])
  · split at h
    · rename_i hk
      simp only [beq_iff_eq, seq_iff] at h hk
      exact .int n (by rw [hk, h])
    · split at h
      · rename_i hk
        simp only [Bool.and_eq_true, beq_iff_eq, seq_iff] at h hk
        have hn : n = 0 ∨ n = 1 := by
          have := h.1
          rw [Int.fdiv_eq_ediv_of_nonneg _ (by omega)] at this
          omega
        rcases hn with e | e
        · exact .bool false (by rw [hk, h.2, e]; rfl)
        · exact .bool true (by rw [hk, h.2, e]; rfl)
      · simp only [Bool.and_eq_true, beq_iff_eq, decide_eq_true_eq] at h
        exact .text s (by omega) (by rw [h.1.1, h.1.2])
theorem ok_of {v : V3} (h : OkK v) : okV v = true := by
  cases h with
  | null h => subst h; unfold okV; simp [seq_self]
  | int n h => subst h; unfold okV; simp [seq_self]
  | bool b h => subst h; unfold okV; cases b <;> simp [seq_self] <;> decide
  | text s hs h => subst h; unfold okV; simp; omega
def cI (a b : Int) : Int := if decide (a < b) then -1 else if decide (b < a) then 1 else 0
def cS (s t : ByteArray) : Int := if slt s t then -1 else if !(slt s t || seq s t) then 1 else 0
def cmpV (a b : V3) : Int := if cI a.k b.k != 0 then cI a.k b.k else if cI a.n b.n != 0 then cI a.n b.n else cS a.s b.s
theorem cI_lt {a b : Int} (h : a < b) : cI a b = -1 := by unfold cI; rw [if_pos (decide_eq_true h)]
theorem cI_gt {a b : Int} (h : b < a) : cI a b = 1 := by unfold cI; rw [if_neg (by simp; omega), if_pos (decide_eq_true h)]
theorem cI_eq (a : Int) : cI a a = 0 := by unfold cI; simp
theorem cS_lt {s t : ByteArray} (h : lss s.data.toList t.data.toList = true) : cS s t = -1 := by unfold cS; rw [slt_lists, if_pos h]
theorem cS_gt {s t : ByteArray} (h : lss t.data.toList s.data.toList = true) : cS s t = 1 := by
  unfold cS
  have h1 := lss_asym _ _ h
  have h2 : seq s t = false := by
    cases e : seq s t
    · rfl
    · rw [(seq_iff s t).1 e, lss_irrefl] at h; cases h
  rw [slt_lists, show Op.bytesLess s.data.toList t.data.toList = false from h1, h2]
  rfl
theorem cS_eq (s : ByteArray) : cS s s = 0 := by
  unfold cS
  rw [slt_lists, show Op.bytesLess s.data.toList s.data.toList = false from lss_irrefl _, seq_self]
  rfl
theorem tri_S (s t : ByteArray) : lss s.data.toList t.data.toList = true ∨ s = t ∨ lss t.data.toList s.data.toList = true := by
  cases h : lss s.data.toList t.data.toList
  · cases k : lss t.data.toList s.data.toList
    · exact .inr (.inl (list_inj (lss_total _ _ h k)))
    · exact .inr (.inr rfl)
  · exact .inl rfl
def below (a b : V3) : Prop := a.k < b.k ∨ (a.k = b.k ∧ (a.n < b.n ∨ (a.n = b.n ∧ lss a.s.data.toList b.s.data.toList = true)))
theorem tri_V (a b : V3) : below a b ∨ a = b ∨ below b a := by
  unfold below
  rcases Int.lt_trichotomy a.k b.k with h | h | h
  · exact .inl (.inl h)
  · rcases Int.lt_trichotomy a.n b.n with k | k | k
    · exact .inl (.inr ⟨h, .inl k⟩)
    · rcases tri_S a.s b.s with l | l | l
      · exact .inl (.inr ⟨h, .inr ⟨k, l⟩⟩)
      · exact .inr (.inl (v3_ext h k l))
      · exact .inr (.inr (.inr ⟨h.symm, .inr ⟨k.symm, l⟩⟩))
    · exact .inr (.inr (.inr ⟨h.symm, .inl k⟩))
  · exact .inr (.inr (.inl h))
theorem below_trans {a b c : V3} (h : below a b) (k : below b c) : below a c := by
  unfold below at *
  rcases h with h | ⟨h, h'⟩
  · rcases k with k | ⟨k, _⟩
    · exact .inl (by omega)
    · exact .inl (by omega)
  · rcases k with k | ⟨k, k'⟩
    · exact .inl (by omega)
    · refine .inr ⟨by omega, ?_⟩
      rcases h' with h' | ⟨h', h2⟩
      · rcases k' with k' | ⟨k', _⟩
        · exact .inl (by omega)
        · exact .inl (by omega)
      · rcases k' with k' | ⟨k', k2⟩
        · exact .inl (by omega)
        · exact .inr ⟨by omega, lss_trans _ _ _ h2 k2⟩
theorem below_irrefl (a : V3) : ¬ below a a := by
  unfold below
  rw [lss_irrefl]
  rintro (h | ⟨_, h | ⟨_, h⟩⟩)
  · omega
  · omega
  · cases h
theorem cmp_lt {a b : V3} (h : below a b) : cmpV a b = -1 := by
  unfold cmpV
  rcases h with h | ⟨h, h2 | ⟨k, l⟩⟩
  · rw [cI_lt h]; rfl
  · rw [h, cI_eq, cI_lt h2]; rfl
  · rw [h, cI_eq, k, cI_eq, cS_lt l]; rfl
theorem cmp_gt {a b : V3} (h : below b a) : cmpV a b = 1 := by
  unfold cmpV
  rcases h with h | ⟨h, h2 | ⟨k, l⟩⟩
  · rw [cI_gt h]; rfl
  · rw [h, cI_eq, cI_gt h2]; rfl
  · rw [h, cI_eq, k, cI_eq, cS_gt l]; rfl
theorem cmp_eq (a : V3) : cmpV a a = 0 := by
  unfold cmpV
  rw [cI_eq, cI_eq, cS_eq]
  rfl
theorem cmp_neg (a b : V3) : cmpV b a = -cmpV a b := by
  rcases tri_V a b with h | h | h
  · rw [cmp_lt h, cmp_gt h]; rfl
  · rw [h, cmp_eq]; rfl
  · rw [cmp_lt h, cmp_gt h]
theorem cmp_zero (a b : V3) : cmpV a b = 0 ↔ a = b := by
  constructor
  · intro h
    rcases tri_V a b with k | k | k
    · rw [cmp_lt k] at h; cases h
    · exact k
    · rw [cmp_gt k] at h; cases h
  · intro h; rw [h, cmp_eq]
theorem cmp_le {a b : V3} : cmpV a b ≤ 0 ↔ below a b ∨ a = b := by
  constructor
  · intro h
    rcases tri_V a b with k | k | k
    · exact .inl k
    · exact .inr k
    · rw [cmp_gt k] at h; omega
  · rintro (h | h)
    · rw [cmp_lt h]; omega
    · rw [h, cmp_eq]; omega
theorem cmp_trans {a b c : V3} (h : cmpV a b ≤ 0) (k : cmpV b c ≤ 0) : cmpV a c ≤ 0 := by
  rw [cmp_le] at *
  rcases h with h | rfl
  · rcases k with k | rfl
    · exact .inl (below_trans h k)
    · exact .inl h
  · exact k
end Go.Vl
