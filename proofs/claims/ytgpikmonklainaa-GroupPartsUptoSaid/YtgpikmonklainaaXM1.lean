/- Order: heaps and sorted lists; plain laws. No condition. -/
import Derived.Test.YtgpikmonklainaaXG4
import Derived.Lib.ItoaNum
import Derived.Test.YtgpikmonklainaaXG5
namespace Go.Od
structure Ord {β : Type} (lt : β → β → Bool) (V : β → Prop) : Prop where
  irr : ∀ a, lt a a = false
  tr : ∀ a b c, lt a b = true → lt b c = true → lt a c = true
  tot : ∀ a b, V a → V b → lt a b = false → lt b a = false → a = b
section
variable {β : Type} {lt : β → β → Bool} {V : β → Prop}
theorem Ord.asym (h : Ord lt V) {a b : β} (hab : lt a b = true) : lt b a = false := by
  cases e : lt b a
  · rfl
  · rw [← h.irr a, h.tr a b a hab e]
theorem Ord.ntr (h : Ord lt V) {a b c : β} (va : V a) (vb : V b) (h1 : lt a b = false) (h2 : lt b c = false) : lt a c = false := by
  cases e : lt a c
  · rfl
  · cases e2 : lt b a
    · have := h.tot a b va vb h1 e2
      subst this
      rw [e] at h2; cases h2
    · rw [h.tr b a c e2 e] at h2; cases h2
theorem Ord.nlt (h : Ord lt V) {a b c : β} (va : V a) (vb : V b) (h1 : lt a b = false) (h2 : lt c b = true) : lt a c = false := h.ntr va vb h1 (h.asym h2)
def ins (lt : β → β → Bool) (x : β) : List β → List β
  | [] => [x]
  | y :: S => bif lt x y then x :: y :: S else y :: ins lt x S
def Srt (lt : β → β → Bool) (S : List β) : Prop := S.Pairwise fun a b => lt b a = false
theorem ins_perm (x : β) : ∀ S, (ins lt x S).Perm (x :: S)
  | [] => .refl _
  | y :: S => by
    unfold ins
    cases lt x y
    · exact ((ins_perm x S).cons y).trans (.swap _ _ _)
    · exact .refl _
theorem ins_srt (h : Ord lt V) {x : β} (vx : V x) : ∀ {S : List β}, (∀ y ∈ S, V y) → Srt lt S → Srt lt (ins lt x S)
  | [], _, _ => by simp [ins, Srt]
  | y :: S, hv, hs => by
    unfold ins
    have hs' := List.pairwise_cons.1 hs
    cases e : lt x y
    · refine List.pairwise_cons.2 ⟨fun z hz => ?_, ins_srt h vx (fun z hz => hv z (List.mem_cons_of_mem _ hz)) hs'.2⟩
      rcases List.mem_cons.1 ((ins_perm x S).mem_iff.1 hz) with rfl | hz
      · exact e
      · exact hs'.1 z hz
    · refine List.pairwise_cons.2 ⟨fun z hz => ?_, hs⟩
      rcases List.mem_cons.1 hz with rfl | hz
      · exact h.asym e
      · exact h.nlt (hv z (List.mem_cons_of_mem _ hz)) (hv y List.mem_cons_self) (hs'.1 z hz) e
theorem srt_uniq (h : Ord lt V) : ∀ {S T : List β}, (∀ y ∈ S, V y) → Srt lt S → Srt lt T → S.Perm T → S = T
  | [], T, _, _, _, hp => by rw [List.nil_perm.1 hp]
  | x :: S, [], _, _, _, hp => by have := List.perm_nil.1 hp; cases this
  | x :: S, y :: T, hv, hs, ht, hp => by
    have hs' := List.pairwise_cons.1 hs
    have ht' := List.pairwise_cons.1 ht
    have hxT : x ∈ y :: T := hp.mem_iff.1 List.mem_cons_self
    have hyS : y ∈ x :: S := hp.mem_iff.2 List.mem_cons_self
    have e : x = y := by
      refine h.tot x y (hv x List.mem_cons_self) (hv y hyS) ?_ ?_
      · rcases List.mem_cons.1 hxT with rfl | hx
        · exact h.irr _
        · exact ht'.1 x hx
      · rcases List.mem_cons.1 hyS with rfl | hy
        · exact h.irr _
        · exact hs'.1 y hy
    subst e
    rw [srt_uniq h (fun z hz => hv z (List.mem_cons_of_mem _ hz)) hs'.2 ht'.2 (List.perm_cons _ |>.1 hp)]
def srt (lt : β → β → Bool) (S : List β) : List β := S.foldr (ins lt) []
theorem srt_perm : ∀ S : List β, (srt lt S).Perm S
  | [] => .refl _
  | x :: S => (ins_perm x _).trans ((srt_perm S).cons x)
theorem srt_srt (h : Ord lt V) : ∀ {S : List β}, (∀ y ∈ S, V y) → Srt lt (srt lt S)
  | [], _ => .nil
  | x :: S, hv => ins_srt h (hv x List.mem_cons_self) (fun y hy => hv y (List.mem_cons_of_mem _ ((srt_perm S).mem_iff.1 hy))) (srt_srt h fun y hy => hv y (List.mem_cons_of_mem _ hy))
def sw (f : Nat → β) (i j : Nat) : Nat → β := fun k => if k = i then f j else if k = j then f i else f k
def HpX (lt : β → β → Bool) (f : Nat → β) (n : Nat) (X : Nat → Prop) : Prop := ∀ k, 0 < k → k < n → ¬ X k → lt (f ((k - 1) / 2)) (f k) = false
abbrev Hp (lt : β → β → Bool) (f : Nat → β) (n : Nat) : Prop := HpX lt f n fun _ => False
end
end Go.Od
namespace Go.Od
section
variable {α β : Type} (lt : β → β → Bool) (key : α → β) (d : α)
abbrev kt (l : List α) (k : Nat) : β := key (l.getD k d)
def swp (l : List α) (i j : Nat) : List α := (l.set i (l.getD j d)).set j (l.getD i d)
def up (l : List α) (j : Nat) : List α := if h : 0 < j ∧ lt (kt key d l ((j - 1) / 2)) (kt key d l j) = true then up (swp d l ((j - 1) / 2) j) ((j - 1) / 2) else l
termination_by j
decreasing_by omega
def big (l : List α) (i n : Nat) : Nat := if 2 * i + 2 < n ∧ lt (kt key d l (2 * i + 1)) (kt key d l (2 * i + 2)) = true then 2 * i + 2 else 2 * i + 1
def down (l : List α) (i n : Nat) : List α :=
  if h : 2 * i + 1 < n ∧ lt (kt key d l i) (kt key d l (big lt key d l i n)) = true then down (swp d l i (big lt key d l i n)) (big lt key d l i n) n else l
termination_by n - i
decreasing_by
  have : i < big lt key d l i n ∧ big lt key d l i n ≤ 2 * i + 2 := by unfold big; split <;> omega
  omega
def push (l : List α) (x : α) : List α := up lt key d (l ++ [x]) l.length
def popL (l : List α) : List α := down lt key d (swp d l 0 (l.length - 1)) 0 (l.length - 1)
def pop (l : List α) : List α := (popL lt key d l).take (l.length - 1)
def top (l : List α) : α := (popL lt key d l).getD (l.length - 1) d
end
section
variable {α β : Type} {lt : β → β → Bool} {V : β → Prop} {key : α → β} {d : α}
theorem getD_lt {l : List α} {k : Nat} (h : k < l.length) : l.getD k d = l[k] := by simp [h]
structure Hq (lt : β → β → Bool) (key : α → β) (d : α) (l : List α) (S : List β) : Prop where
  hp : Hp lt (kt key d l) l.length
  pm : (l.map key).Perm S
  st : Srt lt S
def cut (limit : Int) (S : List β) : List β := if limit < 0 then S else S.take limit.toNat
def step1 (lt : β → β → Bool) (key : α → β) (d : α) (limit : Int) (l : List α) (x : α) : List α :=
  if 0 ≤ limit ∧ limit < ((push lt key d l x).length : Int) then pop lt key d (push lt key d l x) else push lt key d l x
def heapOf (lt : β → β → Bool) (key : α → β) (d : α) (limit : Int) (xs : List α) : List α := xs.foldl (step1 lt key d limit) []
end
end Go.Od
set_option maxRecDepth 20000
namespace Go.Vl
open Go Go.Vc
abbrev bl (l : List UInt8) : ByteArray := ⟨l.toArray⟩
theorem bl_eq (s : ByteArray) : bl s.data.toList = s := by cases s; simp
theorem list_inj {a b : ByteArray} (h : a.data.toList = b.data.toList) : a = b := by rw [← bl_eq a, ← bl_eq b, h]
theorem seq_iff (s t : ByteArray) : seq s t = true ↔ s = t := by
  unfold seq
  rw [ByteArray.toList_eq, ByteArray.toList_eq, beq_iff_eq]
  exact ⟨list_inj, fun h => by rw [h]⟩
theorem seq_self (s : ByteArray) : seq s s = true := (seq_iff s s).2 rfl
theorem slt_lists (s t : ByteArray) : slt s t = Op.bytesLess s.data.toList t.data.toList := by
  unfold slt
  rw [ByteArray.toList_eq, ByteArray.toList_eq]
abbrev lss := Op.bytesLess
theorem lss_n (l : List UInt8) : lss l [] = false := by cases l <;> rfl
theorem lss_c (a b : UInt8) (x y : List UInt8) : lss (a :: x) (b :: y) = (decide (a < b) || (a == b && lss x y)) := by
  show Op.bytesLess _ _ = _
  rw [Op.bytesLess]
theorem lss_irrefl : ∀ x, lss x x = false
  | [] => rfl
  | a :: x => by rw [lss_c, lss_irrefl x]; simp
theorem lss_asym : ∀ x y, lss x y = true → lss y x = false
  | _, [], h => by rw [lss_n] at h; cases h
  | [], _ :: _, _ => lss_n _
  | a :: x, b :: y, h => by
    rw [lss_c] at h ⊢
    simp only [Bool.or_eq_true, decide_eq_true_eq, Bool.and_eq_true, beq_iff_eq] at h
    simp only [Bool.or_eq_false_iff, decide_eq_false_iff_not, Bool.and_eq_false_iff, beq_eq_false_iff_ne]
    rcases h with h | ⟨h1, h2⟩
    · exact ⟨fun h3 => absurd (UInt8.lt_trans h h3) (UInt8.lt_irrefl _), .inl fun e => by subst e; exact UInt8.lt_irrefl _ h⟩
    · subst h1
      exact ⟨UInt8.lt_irrefl _, .inr (lss_asym x y h2)⟩
theorem lss_total : ∀ x y, lss x y = false → lss y x = false → x = y
  | [], [], _, _ => rfl
  | [], _ :: _, h, _ => by cases h
  | _ :: _, [], _, h => by cases h
  | a :: x, b :: y, h, k => by
    rw [lss_c] at h k
    simp only [Bool.or_eq_false_iff, decide_eq_false_iff_not, Bool.and_eq_false_iff, beq_eq_false_iff_ne] at h k
    have e : a = b := UInt8.le_antisymm (UInt8.not_lt.1 k.1) (UInt8.not_lt.1 h.1)
    subst e
    rw [lss_total x y (h.2.resolve_left fun h => h rfl) (k.2.resolve_left fun h => h rfl)]
theorem lss_trans : ∀ x y z, lss x y = true → lss y z = true → lss x z = true
  | _, [], _, h, _ => by rw [lss_n] at h; cases h
  | _, _ :: _, [], _, h => by rw [lss_n] at h; cases h
  | [], _ :: _, _ :: _, _, _ => rfl
  | a :: x, b :: y, c :: z, h, k => by
    rw [lss_c] at h k ⊢
    simp only [Bool.or_eq_true, decide_eq_true_eq, Bool.and_eq_true, beq_iff_eq] at h k ⊢
    rcases h with h | ⟨rfl, h⟩
    · rcases k with k | ⟨rfl, k⟩
      · exact .inl (UInt8.lt_trans h k)
      · exact .inl h
    · rcases k with k | ⟨rfl, k⟩
      · exact .inl k
      · exact .inr ⟨rfl, lss_trans x y z h k⟩
theorem v3_ext {a b : V3} (h1 : a.k = b.k) (h2 : a.n = b.n) (h3 : a.s = b.s) : a = b := by cases a; cases b; simp_all
def okV (v : V3) : Bool := if v.k == 0 then (v.n == 0) && seq v.s ⟨#[]⟩ else if v.k == 1 then seq v.s ⟨#[]⟩ else if v.k == 2 then (v.n.fdiv 2 == 0) && seq v.s ⟨#[]⟩ else ((v.k == 3) && (v.n == 0)) && decide ((v.s.size : Int) ≤ 64)
abbrev e0 : ByteArray := ⟨#[]⟩
inductive OkK (v : V3) : Prop
  | null (h : v = ⟨0, 0, e0⟩)
  | int (n : Int) (h : v = ⟨1, n, e0⟩)
  | bool (b : Bool) (h : v = ⟨2, if b then 1 else 0, e0⟩)
  | text (s : ByteArray) (hs : s.size ≤ 64) (h : v = ⟨3, 0, s⟩)
def cI (a b : Int) : Int := if decide (a < b) then -1 else if decide (b < a) then 1 else 0
def cS (s t : ByteArray) : Int := if slt s t then -1 else if !(slt s t || seq s t) then 1 else 0
def cmpV (a b : V3) : Int := if cI a.k b.k != 0 then cI a.k b.k else if cI a.n b.n != 0 then cI a.n b.n else cS a.s b.s
theorem cI_lt {a b : Int} (h : a < b) : cI a b = -1 := by unfold cI; rw [if_pos (decide_eq_true h)]
theorem cI_gt {a b : Int} (h : b < a) : cI a b = 1 := by unfold cI; rw [if_neg (by simp; omega), if_pos (decide_eq_true h)]
theorem cI_eq (a : Int) : cI a a = 0 := by unfold cI; simp
theorem cS_lt {s t : ByteArray} (h : lss s.data.toList t.data.toList = true) : cS s t = -1 := by unfold cS; rw [slt_lists, if_pos h]
theorem cS_gt {s t : ByteArray} (h : lss t.data.toList s.data.toList = true) : cS s t = 1 := by
  unfold cS
  have h1 := lss_asym _ _ h
  have h2 : seq s t = false := by
    cases e : seq s t
    · rfl
    · rw [(seq_iff s t).1 e, lss_irrefl] at h; cases h
  rw [slt_lists, show Op.bytesLess s.data.toList t.data.toList = false from h1, h2]
  rfl
theorem cS_eq (s : ByteArray) : cS s s = 0 := by
  unfold cS
  rw [slt_lists, show Op.bytesLess s.data.toList s.data.toList = false from lss_irrefl _, seq_self]
  rfl
theorem tri_S (s t : ByteArray) : lss s.data.toList t.data.toList = true ∨ s = t ∨ lss t.data.toList s.data.toList = true := by
  cases h : lss s.data.toList t.data.toList
  · cases k : lss t.data.toList s.data.toList
    · exact .inr (.inl (list_inj (lss_total _ _ h k)))
    · exact .inr (.inr rfl)
  · exact .inl rfl
def below (a b : V3) : Prop := a.k < b.k ∨ (a.k = b.k ∧ (a.n < b.n ∨ (a.n = b.n ∧ lss a.s.data.toList b.s.data.toList = true)))
theorem tri_V (a b : V3) : below a b ∨ a = b ∨ below b a := by
  unfold below
  rcases Int.lt_trichotomy a.k b.k with h | h | h
  · exact .inl (.inl h)
  · rcases Int.lt_trichotomy a.n b.n with k | k | k
    · exact .inl (.inr ⟨h, .inl k⟩)
    · rcases tri_S a.s b.s with l | l | l
      · exact .inl (.inr ⟨h, .inr ⟨k, l⟩⟩)
      · exact .inr (.inl (v3_ext h k l))
      · exact .inr (.inr (.inr ⟨h.symm, .inr ⟨k.symm, l⟩⟩))
    · exact .inr (.inr (.inr ⟨h.symm, .inl k⟩))
  · exact .inr (.inr (.inl h))
theorem below_trans {a b c : V3} (h : below a b) (k : below b c) : below a c := by
  unfold below at *
  rcases h with h | ⟨h, h'⟩
  · rcases k with k | ⟨k, _⟩
    · exact .inl (by omega)
    · exact .inl (by omega)
  · rcases k with k | ⟨k, k'⟩
    · exact .inl (by omega)
    · refine .inr ⟨by omega, ?_⟩
      rcases h' with h' | ⟨h', h2⟩
      · rcases k' with k' | ⟨k', _⟩
        · exact .inl (by omega)
        · exact .inl (by omega)
      · rcases k' with k' | ⟨k', k2⟩
        · exact .inl (by omega)
        · exact .inr ⟨by omega, lss_trans _ _ _ h2 k2⟩
theorem cmp_lt {a b : V3} (h : below a b) : cmpV a b = -1 := by
  unfold cmpV
  rcases h with h | ⟨h, h2 | ⟨k, l⟩⟩
  · rw [cI_lt h]; rfl
  · rw [h, cI_eq, cI_lt h2]; rfl
  · rw [h, cI_eq, k, cI_eq, cS_lt l]; rfl
theorem cmp_gt {a b : V3} (h : below b a) : cmpV a b = 1 := by
  unfold cmpV
  rcases h with h | ⟨h, h2 | ⟨k, l⟩⟩
  · rw [cI_gt h]; rfl
  · rw [h, cI_eq, cI_gt h2]; rfl
  · rw [h, cI_eq, k, cI_eq, cS_gt l]; rfl
theorem cmp_eq (a : V3) : cmpV a a = 0 := by
  unfold cmpV
  rw [cI_eq, cI_eq, cS_eq]
  rfl
theorem cmp_neg (a b : V3) : cmpV b a = -cmpV a b := by
  rcases tri_V a b with h | h | h
  · rw [cmp_lt h, cmp_gt h]; rfl
  · rw [h, cmp_eq]; rfl
  · rw [cmp_lt h, cmp_gt h]
theorem cmp_zero (a b : V3) : cmpV a b = 0 ↔ a = b := by
  constructor
  · intro h
    rcases tri_V a b with k | k | k
    · rw [cmp_lt k] at h; cases h
    · exact k
    · rw [cmp_gt k] at h; cases h
  · intro h; rw [h, cmp_eq]
theorem cmp_le {a b : V3} : cmpV a b ≤ 0 ↔ below a b ∨ a = b := by
  constructor
  · intro h
    rcases tri_V a b with k | k | k
    · exact .inl k
    · exact .inr k
    · rw [cmp_gt k] at h; omega
  · rintro (h | h)
    · rw [cmp_lt h]; omega
    · rw [h, cmp_eq]; omega
theorem cmp_trans {a b c : V3} (h : cmpV a b ≤ 0) (k : cmpV b c ≤ 0) : cmpV a c ≤ 0 := by
  rw [cmp_le] at *
  rcases h with h | rfl
  · rcases k with k | rfl
    · exact .inl (below_trans h k)
    · exact .inl h
  · exact k
end Go.Vl
namespace Go.Od
open Go Go.Vc Go.Vl
structure TO {α : Type} (c : α → α → Int) : Prop where
  neg : ∀ a b, c b a = -c a b
  zero : ∀ a b, c a b = 0 ↔ a = b
  tr : ∀ a b d, c a b < 0 → c b d < 0 → c a d < 0
def lexC {α : Type} (c : α → α → Int) : List α → List α → Int
  | [], [] => 0
  | [], _ :: _ => -1
  | _ :: _, [] => 1
  | x :: a, y :: b => if c x y != 0 then c x y else lexC c a b
theorem lexC_c {α : Type} (c : α → α → Int) (x y : α) (a b : List α) : lexC c (x :: a) (y :: b) = if c x y != 0 then c x y else lexC c a b := rfl
theorem TO.lex {α : Type} {c : α → α → Int} (h : TO c) : TO (lexC c) := by
  have hn : ∀ a b, lexC c b a = -lexC c a b := by
    intro a
    induction a with
    | nil => intro b; cases b <;> rfl
    | cons x a ih =>
      intro b
      cases b with
      | nil => rfl
      | cons y b =>
        rw [lexC_c, lexC_c, h.neg x y, ih b]
        by_cases e : c x y = 0
        · simp [e]
        · have : ¬ -c x y = 0 := by omega
          simp [e, this]
  have hz : ∀ a b, lexC c a b = 0 ↔ a = b := by
    intro a
    induction a with
    | nil => intro b; cases b <;> simp [lexC]
    | cons x a ih =>
      intro b
      cases b with
      | nil => simp [lexC]
      | cons y b =>
        rw [lexC_c]
        by_cases e : c x y = 0
        · have := (h.zero x y).1 e
          subst this
          simp [e, ih]
        · have hne : x ≠ y := fun e2 => e ((h.zero x y).2 e2)
          simp [e, hne]
  refine ⟨hn, hz, ?_⟩
  intro a
  induction a with
  | nil =>
    intro b d h1 h2
    cases d with
    | nil =>
      cases b with
      | nil => exact h1
      | cons y b => simp [lexC] at h2
    | cons z d => simp [lexC]
  | cons x a ih =>
    intro b d h1 h2
    cases b with
    | nil => simp [lexC] at h1
    | cons y b =>
      cases d with
      | nil => simp [lexC] at h2
      | cons z d =>
        rw [lexC_c] at h1 h2 ⊢
        by_cases e1 : c x y = 0
        · have := (h.zero x y).1 e1
          subst this
          by_cases e2 : c x z = 0
          · rw [e1] at h1
            rw [e2] at h2 ⊢
            exact ih b d h1 h2
          · simpa [e2] using h2
        · have h1' : c x y < 0 := by simpa [e1] using h1
          have hxz : c x z < 0 := by
            by_cases e2 : c y z = 0
            · rw [← (h.zero y z).1 e2]; exact h1'
            · exact h.tr x y z h1' (by simpa [e2] using h2)
          have : ¬ c x z = 0 := by omega
          simpa [this] using hxz
theorem to_V : TO cmpV := ⟨cmp_neg, cmp_zero, fun a b d h1 h2 => by
  have h3 : cmpV a d ≤ 0 := cmp_trans (Int.le_of_lt h1) (Int.le_of_lt h2)
  by_cases e : cmpV a d = 0
  · have := (cmp_zero a d).1 e
    subst this
    have := cmp_neg a b
    omega
  · omega⟩
def rowsC : List V3 → List V3 → Int := lexC cmpV
def keysC : List Bool → List V3 → List V3 → Int
  | dn :: ds, x :: a, y :: b => if (bif dn then -cmpV x y else cmpV x y) != 0 then (bif dn then -cmpV x y else cmpV x y) else keysC ds a b
  | _, _, _ => 0
abbrev Ln := List V3 × List V3
def lineC (dn : List Bool) (a b : Ln) : Int := if keysC dn a.2 b.2 != 0 then keysC dn a.2 b.2 else rowsC a.1 b.1
def cmpS (p q : Bool × V3) : Int := if p.1 == q.1 then (bif p.1 then -cmpV p.2 q.2 else cmpV p.2 q.2) else if p.1 then 1 else -1
def kl (dn : List Bool) (a : Ln) : List (Bool × V3) := dn.zip a.2 ++ a.1.map fun v => (false, v)
def ltL (dn : List Bool) (a b : Ln) : Bool := decide (lexC cmpS (kl dn a) (kl dn b) < 0)
section
variable {β : Type} {lt : β → β → Bool} {V : β → Prop} {d : β}
def next (lt : β → β → Bool) (d : β) (xs : List β) (tk : List Bool) (best : Option Nat) (i : Nat) : Option Nat :=
  if tk.getD i false then best else match best with
    | none => some i
    | some j => if lt (xs.getD i d) (xs.getD j d) then some i else some j
def best (lt : β → β → Bool) (d : β) (xs : List β) (tk : List Bool) : Nat → Option Nat
  | 0 => none
  | i + 1 => next lt d xs tk (best lt d xs tk i) i
def rest : List β → List Bool → List β
  | x :: xs, b :: tk => bif b then rest xs tk else x :: rest xs tk
  | _, _ => []
end
end Go.Od
namespace Go.Od
open Go Go.Vc Go.Vl
structure LV where
  r : RV
  k : RV
def LV.c (p : LV) : List Value := [.slice p.r.a p.r.len p.r.cap, .slice p.k.a p.k.len p.k.cap]
abbrev LV.v (p : LV) : Value := .agg #[.slice p.r.a p.r.len p.r.cap, .slice p.k.a p.k.len p.k.cap]
abbrev LV.ln (p : LV) : Ln := (p.r.row, p.k.row)
def rv0 : RV := ⟨[], none, 0, 0⟩
def lv0 : LV := ⟨rv0, rv0⟩
def LVF (U : List LV) (w : World) : Prop := ∀ p ∈ U, p.r.ok w ∧ p.k.ok w
abbrev St := Option (Nat × List Value) × Nat
def QL (tq tl : TypeId) (qb : Nat) (dv : Value) (n : Nat) (z : St) : List Own := ⟨qb, tq, .is (.agg [sliceO z.1 n z.2, dv].toArray)⟩ :: ownO z.1 tl []
abbrev GL (ls : List LV) (z : St) : Prop := Grows LV.c 2 ls z.1 z.2
section
variable {P : Program} {L : List Own} {Φ : List (World → Prop)} {H : Know} {dst : Option Nat} {ty : TypeId} {pos : String} {after : Array Edge} {g : Option (Nat × Bool)}
end
end Go.Od
namespace Go.Od
open Go Go.Vc Go.Vl
section
variable {α β : Type} {lt : β → β → Bool} {V : β → Prop} {key : α → β} {d : α}
end
def topRows (limit : Int) (dn : List Bool) (ls : List Ln) : List (List V3) := (cut limit (srt (ltL dn) ls)).map Prod.fst
abbrev dup (ks : List (List V3)) : List Ln := ks.map fun k => (k, k)
end Go.Od
