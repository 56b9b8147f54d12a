/- Ssi: the transactions by the document, in plain words; what stays true of them. No condition. -/
import Derived.Test.YtggmifnkgcladaaXN7
import Derived.Test.YtggmifnkgcladaaXN5
import Derived.Test.YtggmifnkgcladaaXG6
namespace Go.Si
open Go Go.Vc Go.Proofs.Ytggmifnkgcladaa
def mtW (r : Rd) (w : Wr) : Bool := seq r.t w.t && ((match w.o with | some row => coversF r row | none => false) || (match w.n with | some row => coversF r row | none => false))
theorem mtA_abs (r : Rd) (w : WrA) : mtA r w = mtW r w.abs := by
  unfold mtA mtW WrA.abs rvO
  cases h1 : w.o.a <;> cases h2 : w.n.a <;> simp
structure AT where
  s : Int
  begun : Nat
  done : Nat
  reads : List Rd
  writes : List Wr
def RX.abs (x : RX) : AT := ⟨x.s, x.begun, x.done, x.reads, x.writes.map WrA.abs⟩
def a0 : AT := ⟨3, 0, 0, [], []⟩
def aAt (A : List AT) (i : Nat) : AT := A.getD i a0
theorem aAt_out {A : List AT} {i : Nat} (h : A.length ≤ i) : aAt A i = a0 := by
  unfold aAt
  rw [List.getD_eq_getElem?_getD, List.getElem?_eq_none h]; rfl
theorem aAt_lt {A : List AT} {i : Nat} (h : (aAt A i).s ≠ 3) : i < A.length := by
  rcases Nat.lt_or_ge i A.length with h1 | h1
  · exact h1
  · rw [aAt_out h1] at h; exact absurd rfl h
theorem aAt_set {A : List AT} {i j : Nat} {a : AT} (h : i < A.length) : aAt (A.set i a) j = if j = i then a else aAt A j := by
  unfold aAt
  rw [List.getD_eq_getElem?_getD, List.getD_eq_getElem?_getD, List.getElem?_set]
  by_cases e : j = i
  · subst e; simp [h]
  · rw [if_neg (fun e' => e e'.symm), if_neg e]
theorem aAt_snoc {A : List AT} {j : Nat} {a : AT} : aAt (A ++ [a]) j = if j = A.length then a else aAt A j := by
  unfold aAt
  rw [List.getD_eq_getElem?_getD, List.getD_eq_getElem?_getD]
  by_cases e : j = A.length
  · subst e; simp
  · rw [if_neg e]
    rcases Nat.lt_or_ge j A.length with h | h
    · rw [List.getElem?_append_left h]
    · rw [List.getElem?_eq_none (by simp; omega), List.getElem?_eq_none h]
def aheadA (a b : AT) : Bool := (a.s == 2) && decide (a.done < b.begun)
def hitA (x y : AT) : Bool := x.reads.any fun r => y.writes.any fun w => mtW r w
def offT (i k : Nat) (a b : AT) : Bool := (i == k) || (a.s == 3) || (b.s == 3) || aheadA a b || aheadA b a
def edA (A : List AT) (i k : Nat) : Bool := if offT i k (aAt A i) (aAt A k) then false else hitA (aAt A i) (aAt A k)
theorem edA_s {A : List AT} {i k : Nat} (h : edA A i k = true) : (aAt A i).s ≠ 3 ∧ (aAt A k).s ≠ 3 ∧ i ≠ k ∧ aheadA (aAt A i) (aAt A k) = false ∧ aheadA (aAt A k) (aAt A i) = false ∧ hitA (aAt A i) (aAt A k) = true := by
  unfold edA at h
  split at h
  · cases h
  · rename_i h1
    simp only [offT, Bool.or_eq_true, not_or, beq_iff_eq, Bool.not_eq_true] at h1
    exact ⟨h1.1.1.1.2, h1.1.1.2, h1.1.1.1.1, h1.1.2, h1.2, h⟩
theorem edA_congr {A B : List AT} {i k : Nat} (h1 : aAt B i = aAt A i) (h2 : aAt B k = aAt A k) : edA B i k = edA A i k := by
  unfold edA; rw [h1, h2]
def pvA (A : List AT) (i : Nat) : Bool := ((List.range A.length).any fun a => edA A a i) && ((List.range A.length).any fun a => edA A i a)
theorem pvA_iff {A : List AT} {i : Nat} : pvA A i = true ↔ (∃ a, edA A a i = true) ∧ (∃ a, edA A i a = true) := by
  unfold pvA
  rw [Bool.and_eq_true, List.any_eq_true, List.any_eq_true]
  constructor
  · rintro ⟨⟨a, _, h1⟩, b, _, h2⟩
    exact ⟨⟨a, h1⟩, b, h2⟩
  · rintro ⟨⟨a, h1⟩, b, h2⟩
    exact ⟨⟨a, List.mem_range.2 (aAt_lt (edA_s h1).1), h1⟩, b, List.mem_range.2 (aAt_lt (edA_s h2).2.1), h2⟩
theorem pvA_false {A : List AT} {i : Nat} : pvA A i = false ↔ ¬ ((∃ a, edA A a i = true) ∧ (∃ a, edA A i a = true)) := by
  rw [← pvA_iff]; simp
def jA (A : List AT) : Bool := (List.range A.length).any fun a => ((aAt A a).s == 2) && pvA A a
theorem jA_iff {A : List AT} : jA A = true ↔ ∃ a, (aAt A a).s = 2 ∧ pvA A a = true := by
  unfold jA
  rw [List.any_eq_true]
  constructor
  · rintro ⟨a, _, h⟩
    rw [Bool.and_eq_true, beq_iff_eq] at h
    exact ⟨a, h⟩
  · rintro ⟨a, h1, h2⟩
    exact ⟨a, List.mem_range.2 (aAt_lt (by rw [h1]; decide)), by rw [h1, h2]; rfl⟩
def cntA (A : List AT) (i : Nat) : Bool := ((aAt A i).s == 1) || (List.range A.length).any fun k => ((aAt A i).s == 2) && ((aAt A k).s == 1) && decide ((aAt A k).begun < (aAt A i).done)
theorem cntA_iff {A : List AT} {i : Nat} : cntA A i = true ↔ (aAt A i).s = 1 ∨ ((aAt A i).s = 2 ∧ ∃ k, (aAt A k).s = 1 ∧ (aAt A k).begun < (aAt A i).done) := by
  unfold cntA
  rw [Bool.or_eq_true, beq_iff_eq, List.any_eq_true]
  refine or_congr Iff.rfl ⟨?_, ?_⟩
  · rintro ⟨k, _, h⟩
    simp only [Bool.and_eq_true, beq_iff_eq, decide_eq_true_eq] at h
    exact ⟨h.1.1, k, h.1.2, h.2⟩
  · rintro ⟨h1, k, h2, h3⟩
    exact ⟨k, List.mem_range.2 (aAt_lt (by rw [h2]; decide)), by simp [h1, h2, h3]⟩
def keptA (A : List AT) : Nat := ((List.range A.length).map fun i => if cntA A i then (aAt A i).reads.length else 0).sum
def liveA (A : List AT) (k : Int) : Bool := decide (1 ≤ k) && decide (k ≤ (A.length : Nat)) && ((aAt A (k - 1).toNat).s == 1)
theorem liveA_iff {A : List AT} {k : Int} : liveA A k = true ↔ ∃ i : Nat, k = (i : Nat) + 1 ∧ (aAt A i).s = 1 := by
  unfold liveA
  simp only [Bool.and_eq_true, decide_eq_true_eq, beq_iff_eq]
  constructor
  · rintro ⟨⟨h1, h2⟩, h3⟩
    exact ⟨(k - 1).toNat, by omega, h3⟩
  · rintro ⟨i, rfl, h⟩
    have h1 := aAt_lt (A := A) (i := i) (by rw [h]; decide)
    have h2 : ((i : Nat) + 1 - 1 : Int).toNat = i := by omega
    rw [h2]
    exact ⟨⟨by omega, by omega⟩, h⟩
theorem liveA_i {A : List AT} {i : Nat} (h : (aAt A i).s = 1) : liveA A ((i + 1 : Nat) : Int) = true := liveA_iff.2 ⟨i, by omega, h⟩
def upA (A : List AT) (i : Nat) (f : AT → AT) : List AT := A.set i (f (aAt A i))
theorem upA_len (A : List AT) (i : Nat) (f : AT → AT) : (upA A i f).length = A.length := List.length_set
theorem upA_at {A : List AT} {i j : Nat} {f : AT → AT} (h : i < A.length) : aAt (upA A i f) j = if j = i then f (aAt A i) else aAt A j := aAt_set h
def a3 (a : AT) : AT := { a with s := 3 }
def aRd (r : Rd) (a : AT) : AT := { a with reads := kpL a.reads r }
def aWr (w : Wr) (a : AT) : AT := { a with writes := a.writes ++ [w] }
def aCm (d : Nat) (a : AT) : AT := { a with s := 2, done := d }
def aNew (d : Nat) : AT := ⟨1, d, 0, [], []⟩
def abA (A : List AT) (i : Nat) : List AT := upA A i a3
def jgA (A : List AT) (i : Nat) : List AT × Int := if jA A then (abA A i, 40) else (A, 0)
def readA (A : List AT) (k : Int) (r : Rd) : List AT × Int :=
  if liveA A k then (if 256 < keptA (upA A (k - 1).toNat (aRd r)) then (abA (upA A (k - 1).toNat (aRd r)) (k - 1).toNat, 22) else jgA (upA A (k - 1).toNat (aRd r)) (k - 1).toNat) else (A, 41)
def writeA (A : List AT) (k : Int) (w : Wr) : List AT × Int := if liveA A k then jgA (upA A (k - 1).toNat (aWr w)) (k - 1).toNat else (A, 41)
def commitA (A : List AT) (sp : Nat) (k : Int) : List AT × Nat × Int :=
  if liveA A k then (if pvA A (k - 1).toNat then (abA A (k - 1).toNat, sp, 40) else (upA A (k - 1).toNat (aCm (sp + 1)), sp + 1, 0)) else (A, sp, 41)
def abortA (A : List AT) (k : Int) : List AT × Int := if liveA A k then (abA A (k - 1).toNat, 0) else (A, 41)
def beginA (A : List AT) (sp : Nat) : List AT := A ++ [aNew (sp + 1)]
def pivA (A : List AT) (k : Int) : Bool := decide (1 ≤ k) && decide (k ≤ (A.length : Nat)) && pvA A (k - 1).toNat
structure AOk (A : List AT) (sp : Nat) : Prop where
  s : ∀ i, (aAt A i).s = 1 ∨ (aAt A i).s = 2 ∨ (aAt A i).s = 3
  b : ∀ i, i < A.length → 1 ≤ (aAt A i).begun ∧ (aAt A i).begun ≤ sp
  d0 : ∀ i, (aAt A i).s = 1 → (aAt A i).done = 0
  d : ∀ i, (aAt A i).s = 2 → (aAt A i).begun < (aAt A i).done ∧ (aAt A i).done ≤ sp
  ne : ∀ i j, (aAt A i).s = 2 → (aAt A i).done ≠ (aAt A j).begun
  np : ∀ i, (aAt A i).s = 2 → pvA A i = false
theorem AOk.b' {A : List AT} {sp : Nat} (h : AOk A sp) (i : Nat) : (aAt A i).begun ≤ sp := by
  rcases Nat.lt_or_ge i A.length with h1 | h1
  · exact (h.b i h1).2
  · rw [aAt_out h1]; exact Nat.zero_le _
theorem AOk.nil : AOk [] 0 := by
  have h : ∀ i, aAt [] i = a0 := fun i => aAt_out (Nat.zero_le _)
  refine ⟨fun i => ?_, fun i hi => absurd hi (Nat.not_lt_zero i), fun i h1 => ?_, fun i h1 => ?_, fun i j h1 => ?_, fun i h1 => ?_⟩
  · rw [h]; exact .inr (.inr rfl)
  all_goals rw [h] at h1; cases h1
theorem ed_new {A : List AT} {n i k : Nat} : edA (A ++ [aNew n]) i k = if i = A.length ∨ k = A.length then false else edA A i k := by
  unfold edA
  by_cases h1 : i = A.length
  · subst h1
    simp only [true_or, if_true]
    split
    · rfl
    · rw [aAt_snoc, if_pos rfl]; rfl
  · by_cases h2 : k = A.length
    · subst h2
      simp only [or_true, if_true]
      split
      · rfl
      · rw [aAt_snoc (j := A.length), if_pos rfl]
        simp [hitA, aNew]
    · simp only [h1, h2, or_self, if_false]
      rw [aAt_snoc, aAt_snoc, if_neg h1, if_neg h2]
theorem AOk.begin {A : List AT} {sp : Nat} (h : AOk A sp) : AOk (beginA A sp) (sp + 1) := by
  unfold beginA
  have hat : ∀ i, aAt (A ++ [aNew (sp + 1)]) i = if i = A.length then aNew (sp + 1) else aAt A i := fun i => aAt_snoc
  refine ⟨fun i => ?_, fun i hi => ?_, fun i h1 => ?_, fun i h1 => ?_, fun i j h1 => ?_, fun i h1 => ?_⟩
  · rw [hat]; split
    · exact .inl rfl
    · exact h.s i
  · rw [hat]; split
    · exact ⟨Nat.succ_le_succ (Nat.zero_le _), Nat.le_refl _⟩
    · rename_i hne
      rw [List.length_append, List.length_singleton] at hi
      have := h.b i (by omega)
      exact ⟨this.1, Nat.le_succ_of_le this.2⟩
  · rw [hat] at h1 ⊢; split
    · rfl
    · rename_i hne; rw [if_neg hne] at h1; exact h.d0 i h1
  · rw [hat] at h1 ⊢; split
    · rename_i he; rw [if_pos he] at h1; cases h1
    · rename_i hne; rw [if_neg hne] at h1
      have := h.d i h1
      exact ⟨this.1, Nat.le_succ_of_le this.2⟩
  · rw [hat] at h1
    rw [hat, hat]
    split at h1
    · cases h1
    · rename_i hne
      rw [if_neg hne]
      split
      · have := (h.d i h1).2
        show _ ≠ sp + 1
        omega
      · exact h.ne i j h1
  · rw [hat] at h1
    split at h1
    · cases h1
    · rename_i hne
      have := h.np i h1
      rw [pvA_false] at this ⊢
      rintro ⟨⟨a, h2⟩, b, h3⟩
      rw [ed_new] at h2 h3
      split at h2
      · cases h2
      split at h3
      · cases h3
      exact this ⟨⟨a, h2⟩, b, h3⟩
theorem np_drop {A B : List AT} {i : Nat} (h3 : (aAt B i).s = 3) (h : ∀ j, j ≠ i → aAt B j = aAt A j) {j : Nat} (hj : j ≠ i) (hn : pvA A j = false) : pvA B j = false := by
  have he : ∀ a b, edA B a b = true → edA A a b = true := fun a b hab => by
    have h4 := edA_s hab
    have ha : a ≠ i := fun e => h4.1 (e ▸ h3)
    have hb : b ≠ i := fun e => h4.2.1 (e ▸ h3)
    rw [← hab]
    exact (edA_congr (h a ha) (h b hb)).symm
  rw [pvA_false] at hn ⊢
  exact fun ⟨⟨a, h1⟩, b, h2⟩ => hn ⟨⟨a, he _ _ h1⟩, b, he _ _ h2⟩
theorem AOk.drop {A B : List AT} {sp i : Nat} (h : AOk A sp) (hi : (aAt A i).s = 1) (hl : B.length = A.length) (h3 : (aAt B i).s = 3) (hbb : (aAt B i).begun = (aAt A i).begun) (ho : ∀ j, j ≠ i → aAt B j = aAt A j) : AOk B sp := by
  refine ⟨fun j => ?_, fun j hj => ?_, fun j h1 => ?_, fun j h1 => ?_, fun j k h1 => ?_, fun j h1 => ?_⟩
  · by_cases e : j = i
    · subst e; exact .inr (.inr h3)
    · rw [ho j e]; exact h.s j
  · by_cases e : j = i
    · subst e; rw [hbb]; exact h.b j (by rw [← hl]; exact hj)
    · rw [ho j e]; exact h.b j (by rw [← hl]; exact hj)
  all_goals
    have e : j ≠ i := fun e => by subst e; rw [h3] at h1; cases h1
    rw [ho j e] at h1
  · rw [ho j e]; exact h.d0 j h1
  · rw [ho j e]; exact h.d j h1
  · rw [ho j e]
    by_cases e2 : k = i
    · subst e2; rw [hbb]; exact h.ne j k h1
    · rw [ho k e2]; exact h.ne j k h1
  · exact np_drop h3 ho e (h.np j h1)
theorem AOk.act {A B : List AT} {sp i : Nat} (h : AOk A sp) (hi : (aAt A i).s = 1) (hl : B.length = A.length) (h3 : (aAt B i).s = 1) (hbb : (aAt B i).begun = (aAt A i).begun) (hd : (aAt B i).done = (aAt A i).done) (ho : ∀ j, j ≠ i → aAt B j = aAt A j) (hj : jA B = false) : AOk B sp := by
  refine ⟨fun j => ?_, fun j hj => ?_, fun j h1 => ?_, fun j h1 => ?_, fun j k h1 => ?_, fun j h1 => ?_⟩
  · by_cases e : j = i
    · subst e; exact .inl h3
    · rw [ho j e]; exact h.s j
  · by_cases e : j = i
    · subst e; rw [hbb]; exact h.b j (by rw [← hl]; exact hj)
    · rw [ho j e]; exact h.b j (by rw [← hl]; exact hj)
  · by_cases e : j = i
    · subst e; rw [hd]; exact h.d0 j hi
    · rw [ho j e] at h1 ⊢; exact h.d0 j h1
  · have e : j ≠ i := fun e => by subst e; rw [h3] at h1; cases h1
    rw [ho j e] at h1 ⊢; exact h.d j h1
  · have e : j ≠ i := fun e => by subst e; rw [h3] at h1; cases h1
    rw [ho j e] at h1 ⊢
    by_cases e2 : k = i
    · subst e2; rw [hbb]; exact h.ne j k h1
    · rw [ho k e2]; exact h.ne j k h1
  · cases hp : pvA B j with
    | false => rfl
    | true => rw [jA_iff.2 ⟨j, h1, hp⟩] at hj; cases hj
theorem AOk.jg {A : List AT} {sp i : Nat} {f : AT → AT} (h : AOk A sp) (hi : (aAt A i).s = 1) (hf : ∀ a, (f a).s = a.s ∧ (f a).begun = a.begun ∧ (f a).done = a.done) : AOk (jgA (upA A i f) i).1 sp := by
  have hlt := aAt_lt (A := A) (i := i) (by rw [hi]; decide)
  have hlt' : i < (upA A i f).length := by rw [upA_len]; exact hlt
  unfold jgA
  split
  · refine h.drop hi (by rw [abA, upA_len, upA_len]) ?_ ?_ fun j hj => ?_
    · show (aAt (abA _ i) i).s = 3
      rw [abA, upA_at hlt', if_pos rfl]; rfl
    · show (aAt (abA _ i) i).begun = _
      rw [abA, upA_at hlt', if_pos rfl, upA_at hlt, if_pos rfl]; exact (hf _).2.1
    · show aAt (abA _ i) j = _
      rw [abA, upA_at hlt', if_neg hj, upA_at hlt, if_neg hj]
  · rename_i hj
    refine h.act hi (upA_len _ _ _) ?_ ?_ ?_ (fun j hj => ?_) (by simpa using hj)
    · rw [upA_at hlt, if_pos rfl, (hf _).1]; exact hi
    · rw [upA_at hlt, if_pos rfl, (hf _).2.1]
    · rw [upA_at hlt, if_pos rfl, (hf _).2.2]
    · rw [upA_at hlt, if_neg hj]
theorem AOk.ab {A : List AT} {sp i : Nat} {f : AT → AT} (h : AOk A sp) (hi : (aAt A i).s = 1) (hf : ∀ a, (f a).begun = a.begun) : AOk (abA (upA A i f) i) sp := by
  have hlt := aAt_lt (A := A) (i := i) (by rw [hi]; decide)
  have hlt' : i < (upA A i f).length := by rw [upA_len]; exact hlt
  refine h.drop hi (by rw [abA, upA_len, upA_len]) ?_ ?_ fun j hj => ?_
  · rw [abA, upA_at hlt', if_pos rfl]; rfl
  · rw [abA, upA_at hlt', if_pos rfl, upA_at hlt, if_pos rfl]; exact hf _
  · rw [abA, upA_at hlt', if_neg hj, upA_at hlt, if_neg hj]
theorem AOk.ab0 {A : List AT} {sp i : Nat} (h : AOk A sp) (hi : (aAt A i).s = 1) : AOk (abA A i) sp := by
  have hlt := aAt_lt (A := A) (i := i) (by rw [hi]; decide)
  refine h.drop hi (by rw [abA, upA_len]) ?_ ?_ fun j hj => ?_
  · rw [abA, upA_at hlt, if_pos rfl]; rfl
  · rw [abA, upA_at hlt, if_pos rfl]; rfl
  · rw [abA, upA_at hlt, if_neg hj]
theorem AOk.read {A : List AT} {sp : Nat} (h : AOk A sp) (k : Int) (r : Rd) : AOk (readA A k r).1 sp := by
  unfold readA
  split
  · rename_i hl
    obtain ⟨i, rfl, hi⟩ := liveA_iff.1 hl
    have h2 : ((i : Nat) + 1 - 1 : Int).toNat = i := by omega
    rw [h2]
    split
    · exact h.ab hi fun _ => rfl
    · exact h.jg hi fun _ => ⟨rfl, rfl, rfl⟩
  · exact h
theorem AOk.write {A : List AT} {sp : Nat} (h : AOk A sp) (k : Int) (w : Wr) : AOk (writeA A k w).1 sp := by
  unfold writeA
  split
  · rename_i hl
    obtain ⟨i, rfl, hi⟩ := liveA_iff.1 hl
    have h2 : ((i : Nat) + 1 - 1 : Int).toNat = i := by omega
    rw [h2]
    exact h.jg hi fun _ => ⟨rfl, rfl, rfl⟩
  · exact h
theorem AOk.abort {A : List AT} {sp : Nat} (h : AOk A sp) (k : Int) : AOk (abortA A k).1 sp := by
  unfold abortA
  split
  · rename_i hl
    obtain ⟨i, rfl, hi⟩ := liveA_iff.1 hl
    have h2 : ((i : Nat) + 1 - 1 : Int).toNat = i := by omega
    rw [h2]
    exact h.ab0 hi
  · exact h
theorem ed_commit {A : List AT} {sp i : Nat} (h : AOk A sp) (hi : (aAt A i).s = 1) (a b : Nat) : edA (upA A i (aCm (sp + 1))) a b = edA A a b := by
  have hlt := aAt_lt (A := A) (i := i) (by rw [hi]; decide)
  have h1 : ∀ j, (aAt (upA A i (aCm (sp + 1))) j).begun = (aAt A j).begun := fun j => by
    rw [upA_at hlt]; split
    · rename_i e; subst e; rfl
    · rfl
  have h2 : ∀ a b, aheadA (aAt (upA A i (aCm (sp + 1))) a) (aAt (upA A i (aCm (sp + 1))) b) = aheadA (aAt A a) (aAt A b) := fun a b => by
    unfold aheadA
    rw [h1 b, upA_at hlt]
    split
    · rename_i e; subst e
      have := h.b' b
      rw [hi]
      show (((2 : Int) == 2) && decide (sp + 1 < (aAt A b).begun)) = (((1 : Int) == 2) && _)
      rw [decide_eq_false (by omega)]; rfl
    · rfl
  have h3 : ∀ j, ((aAt (upA A i (aCm (sp + 1))) j).s == 3) = ((aAt A j).s == 3) := fun j => by
    rw [upA_at hlt]; split
    · rename_i e; subst e; rw [hi]; rfl
    · rfl
  have h4 : ∀ a b, hitA (aAt (upA A i (aCm (sp + 1))) a) (aAt (upA A i (aCm (sp + 1))) b) = hitA (aAt A a) (aAt A b) := fun a b => by
    unfold hitA
    rw [upA_at hlt, upA_at hlt]
    split <;> split <;> rename_i e1 e2 <;> first | (subst e1; subst e2; rfl) | (subst e1; rfl) | (subst e2; rfl) | rfl
  unfold edA offT
  rw [h2, h2, h3, h3, h4]
theorem pv_commit {A : List AT} {sp i : Nat} (h : AOk A sp) (hi : (aAt A i).s = 1) (j : Nat) : pvA (upA A i (aCm (sp + 1))) j = pvA A j := by
  unfold pvA
  rw [upA_len]
  simp only [ed_commit h hi]
theorem AOk.cm {A : List AT} {sp i : Nat} (h : AOk A sp) (hi : (aAt A i).s = 1) (hp : pvA A i = false) : AOk (upA A i (aCm (sp + 1))) (sp + 1) := by
  have hlt := aAt_lt (A := A) (i := i) (by rw [hi]; decide)
  have hat : ∀ j, aAt (upA A i (aCm (sp + 1))) j = if j = i then aCm (sp + 1) (aAt A i) else aAt A j := fun j => upA_at hlt
  refine ⟨fun j => ?_, fun j hj => ?_, fun j h1 => ?_, fun j h1 => ?_, fun j k h1 => ?_, fun j h1 => ?_⟩
  · rw [hat]; split
    · exact .inr (.inl rfl)
    · exact h.s j
  · rw [upA_len] at hj
    have := h.b j hj
    rw [hat]; split
    · rename_i e; subst e; exact ⟨this.1, Nat.le_succ_of_le this.2⟩
    · exact ⟨this.1, Nat.le_succ_of_le this.2⟩
  · rw [hat] at h1 ⊢; split
    · rename_i e; rw [if_pos e] at h1; cases h1
    · rename_i e; rw [if_neg e] at h1; exact h.d0 j h1
  · rw [hat] at h1 ⊢; split
    · exact ⟨Nat.lt_succ_of_le (h.b' i), Nat.le_refl _⟩
    · rename_i e; rw [if_neg e] at h1
      have := h.d j h1
      exact ⟨this.1, Nat.le_succ_of_le this.2⟩
  · have hk : (aAt (upA A i (aCm (sp + 1))) k).begun = (aAt A k).begun := by
      rw [hat]; split
      · rename_i e; subst e; rfl
      · rfl
    rw [hk]
    rw [hat] at h1 ⊢; split
    · have := h.b' k
      show sp + 1 ≠ _
      omega
    · rename_i e; rw [if_neg e] at h1; exact h.ne j k h1
  · rw [pv_commit h hi]
    rw [hat] at h1
    split at h1
    · rename_i e; subst e; exact hp
    · exact h.np j h1
theorem AOk.commit {A : List AT} {sp : Nat} (h : AOk A sp) (k : Int) : AOk (commitA A sp k).1 (commitA A sp k).2.1 := by
  unfold commitA
  split
  · rename_i hl
    obtain ⟨i, rfl, hi⟩ := liveA_iff.1 hl
    have h2 : ((i : Nat) + 1 - 1 : Int).toNat = i := by omega
    rw [h2]
    split
    · exact h.ab0 hi
    · rename_i hp
      exact h.cm hi (by simpa using hp)
  · exact h
end Go.Si
namespace Go.Si
open Go Go.Vc Go.Proofs.Ytggmifnkgcladaa
abbrev absL (xs : List RX) : List AT := xs.map RX.abs
theorem absL_at {xs : List RX} {i : Int} (h0 : 0 ≤ i) (h1 : i < xs.length) : aAt (absL xs) i.toNat = (rAt xs i).abs := by
  have h := rAt_get h0 h1
  unfold aAt
  rw [List.getD_eq_getElem?_getD, List.getElem?_map, h]; rfl
theorem absL_nat {xs : List RX} {i : Nat} (h1 : i < xs.length) : aAt (absL xs) i = (rAt xs (i : Nat)).abs := by
  have := absL_at (xs := xs) (i := (i : Nat)) (by omega) (by omega)
  rwa [Int.toNat_natCast] at this
theorem absL_set {xs : List RX} {i : Int} (h0 : 0 ≤ i) (h1 : i < xs.length) {v : RX} {f : AT → AT} (hv : v.abs = f (rAt xs i).abs) : absL (xs.set i.toNat v) = upA (absL xs) i.toNat f := by
  unfold upA absL
  rw [List.map_set, hv]
  congr 1
  rw [← absL_at h0 h1]
theorem hitE_abs (x y : RX) : hitE x y = hitA x.abs y.abs := by
  unfold hitE hitA
  show _ = x.reads.any fun r => (y.writes.map WrA.abs).any fun w => mtW r w
  congr 1
  funext r
  rw [List.any_map]
  congr 1
  funext w
  exact mtA_abs r w
theorem edR_abs {xs : List RX} {i k : Int} (h0 : 0 ≤ i) (h1 : i < xs.length) (h2 : 0 ≤ k) (h3 : k < xs.length) : edR xs i k = edA (absL xs) i.toNat k.toNat := by
  unfold edR edA offE offT
  rw [absL_at h0 h1, absL_at h2 h3, hitE_abs]
  have : (i == k) = (i.toNat == k.toNat) := by
    rw [Bool.eq_iff_iff, beq_iff_eq, beq_iff_eq]; omega
  rw [this]; rfl
theorem inP_abs {xs : List RX} {i : Int} (h0 : 0 ≤ i) (h1 : i < xs.length) : inP xs i xs.length = (List.range (absL xs).length).any fun a => edA (absL xs) a i.toNat := by
  unfold inP
  rw [List.length_map]
  rw [Bool.eq_iff_iff, List.any_eq_true, List.any_eq_true]
  refine exists_congr fun a => and_congr_right fun ha => ?_
  have := List.mem_range.1 ha
  rw [edR_abs (by omega) (by omega) h0 h1, Int.toNat_natCast]
theorem outP_abs {xs : List RX} {i : Int} (h0 : 0 ≤ i) (h1 : i < xs.length) : outP xs i xs.length = (List.range (absL xs).length).any fun a => edA (absL xs) i.toNat a := by
  unfold outP
  rw [List.length_map]
  rw [Bool.eq_iff_iff, List.any_eq_true, List.any_eq_true]
  refine exists_congr fun a => and_congr_right fun ha => ?_
  have := List.mem_range.1 ha
  rw [edR_abs h0 h1 (by omega) (by omega), Int.toNat_natCast]
theorem pvR_abs {xs : List RX} {i : Int} (h0 : 0 ≤ i) (h1 : i < xs.length) : pvR xs i = pvA (absL xs) i.toNat := by
  unfold pvR pvA
  rw [inP_abs h0 h1, outP_abs h0 h1]
theorem pivR_abs (xs : List RX) (k : Int) : pivR xs k = pivA (absL xs) k := by
  unfold pivR pivA
  rw [List.length_map]
  by_cases h1 : 1 ≤ k
  · by_cases h2 : k ≤ (xs.length : Nat)
    · rw [pvR_abs (by omega) (by omega)]
    · simp [h2]
  · simp [h1]
theorem beL_abs (xs : List RX) (sp : Nat) : absL (xs ++ [rx0 (sp + 1)]) = beginA (absL xs) sp := by
  unfold absL beginA
  rw [List.map_append]; rfl
theorem live_rng {xs : List RX} {k : Int} (h : liveA (absL xs) k = true) : 1 ≤ k ∧ k ≤ (xs.length : Nat) := by
  unfold liveA at h
  rw [List.length_map] at h
  simp only [Bool.and_eq_true, decide_eq_true_eq] at h
  exact h.1
theorem RWf.get {st : Option (Nat × List Value)} {cap : Nat} {xs : List RX} (h : RWf st cap xs) {k : Int} (h0 : 1 ≤ k) (h1 : k ≤ (xs.length : Nat)) : xs[(k - 1).toNat]? = some (rAt xs (k - 1)) := rAt_get (by omega) (by omega)
theorem RWf.begin {st : Option (Nat × List Value)} {cap : Nat} {xs : List RX} (h : RWf st cap xs) {n : Nat} {z : Option (Nat × List Value) × Nat} (hz : Grows RX.cells 5 (xs ++ [rx0 n]) z.1 z.2) : RWf z.1 z.2 (xs ++ [rx0 n]) :=
  ⟨hz, fun x hx => by
    rcases List.mem_append.1 hx with hx | hx
    · exact h.rs x hx
    · rw [List.mem_singleton.1 hx]; exact (rfl : ([] : List Rd) = []), fun x hx => by
    rcases List.mem_append.1 hx with hx | hx
    · exact h.ws x hx
    · rw [List.mem_singleton.1 hx]; exact (rfl : ([] : List WrA) = [])⟩
structure RRel (cap : Nat) (A : List AT) (st : Option (Nat × List Value)) (xs : List RX) : Prop where
  wf : RWf st cap xs
  ab : absL xs = A
end Go.Si
namespace Go.Si
open Go Go.Vc Go.Proofs.Ytggmifnkgcladaa
def TM.abs (y : TM) : AT := ⟨if y.done = 0 then 1 else 2, y.begun, y.done, y.reads, y.writes.map WrA.abs⟩
def Gone (A : List AT) (txs : List TM) (k : Nat) : Prop := (aAt A k).s = 2 ∧ ∀ y ∈ txs, y.n ≠ k + 1
structure SimW (A : List AT) (txs : List TM) : Prop where
  rng : ∀ y ∈ txs, 1 ≤ y.n ∧ y.n ≤ A.length
  f : ∀ y ∈ txs, aAt A (y.n - 1) = y.abs
  mem : ∀ i, cntA A i = true → ∃ y ∈ txs, y.n = i + 1
  ed : ∀ x ∈ txs, ∀ y ∈ txs, edP txs x.n y.n = edA A (x.n - 1) (y.n - 1)
  wi : ∀ y ∈ txs, (y.wi = true ↔ ∃ k, Gone A txs k ∧ edA A k (y.n - 1) = true)
  wo : ∀ y ∈ txs, (y.wo = true ↔ ∃ k, Gone A txs k ∧ edA A (y.n - 1) k = true)
structure Sim (A : List AT) (txs : List TM) : Prop extends SimW A txs where
  cnt : ∀ y ∈ txs, cntA A (y.n - 1) = true
theorem abs_s (y : TM) : y.abs.s = if y.done = 0 then 1 else 2 := rfl
theorem abs_act {y : TM} : y.abs.s = 1 ↔ y.done = 0 := by
  rw [abs_s]; split
  · simp [*]
  · simp [*]
theorem abs_com {y : TM} : y.abs.s = 2 ↔ y.done ≠ 0 := by
  rw [abs_s]; split
  · simp [*]
  · simp [*]
section
variable {A : List AT} {txs : List TM} {cl sp : Nat}
theorem SimW.act (h : SimW A txs) {i : Nat} (hi : (aAt A i).s = 1) : ∃ y ∈ txs, y.n = i + 1 ∧ y.done = 0 := by
  obtain ⟨y, hy, e⟩ := h.mem i (cntA_iff.2 (.inl hi))
  refine ⟨y, hy, e, ?_⟩
  have := h.f y hy
  rw [e, Nat.add_sub_cancel] at this
  rw [this] at hi
  exact abs_act.1 hi
theorem SimW.s1 (h : SimW A txs) {y : TM} (hy : y ∈ txs) (hd : y.done = 0) : (aAt A (y.n - 1)).s = 1 := by
  rw [h.f y hy]; exact abs_act.2 hd
theorem SimW.idx (h : SimW A txs) {y : TM} (hy : y ∈ txs) : y.n = (y.n - 1) + 1 := by
  have := h.rng y hy; omega
theorem SimW.inj (h : SimW A txs) {x y : TM} (hx : x ∈ txs) (hy : y ∈ txs) (e : x.n - 1 = y.n - 1) : x.n = y.n := by
  have := h.rng x hx
  have := h.rng y hy
  omega
theorem SimW.cntM (h : SimW A txs) {x : TM} (hx : x ∈ txs) : cntM txs x = cntA A (x.n - 1) := by
  rw [Bool.eq_iff_iff, cntA_iff, h.f x hx, Go.Si.cntM, List.any_eq_true]
  constructor
  · rintro ⟨y, hy, hp⟩
    rw [Bool.or_eq_true, Bool.and_eq_true, beq_iff_eq, beq_iff_eq, decide_eq_true_eq] at hp
    by_cases hd : x.done = 0
    · exact .inl (abs_act.2 hd)
    · refine .inr ⟨abs_com.2 hd, y.n - 1, ?_, ?_⟩
      · exact h.s1 hy (by omega)
      · rw [h.f y hy]; show y.begun < x.done; omega
  · rintro (h1 | ⟨h1, k, h2, h3⟩)
    · refine ⟨x, hx, ?_⟩
      rw [abs_act.1 h1]; rfl
    · obtain ⟨y, hy, e, hd⟩ := h.act h2
      refine ⟨y, hy, ?_⟩
      have := h.f y hy
      rw [e, Nat.add_sub_cancel] at this
      rw [this] at h3
      have h4 : y.begun < x.done := h3
      rw [hd, Bool.or_eq_true, Bool.and_eq_true, decide_eq_true_eq]
      exact .inr ⟨rfl, by omega⟩
theorem ex_key {l : MEs} (h : 0 < l.length) : ∃ k, mHas k l = true := by
  cases l with
  | nil => cases h
  | cons e l => exact ⟨e.1, by simp [mHas]⟩
theorem key_len {l : MEs} {k : Int} (h : mHas k l = true) : 0 < l.length := by
  cases l with
  | nil => cases h
  | cons e l => exact Nat.succ_pos _
theorem SimW.inn (h : SimW A txs) (hW : Wf cl txs) (hs : ∀ i, (aAt A i).s = 1 ∨ (aAt A i).s = 2 ∨ (aAt A i).s = 3) {y : TM} (hy : y ∈ txs) : (y.wi || decide (0 < y.inn.length)) = true ↔ ∃ a, edA A a (y.n - 1) = true := by
  rw [Bool.or_eq_true, decide_eq_true_eq, h.wi y hy]
  constructor
  · rintro (⟨k, _, hk⟩ | hl)
    · exact ⟨k, hk⟩
    · obtain ⟨k, hk⟩ := ex_key hl
      obtain ⟨z, hz, hzk, _⟩ := hW.cin y hy k hk
      rw [← hzk, ← hW.dual z hz y hy, ← edP_mem hW hz, h.ed z hz y hy] at hk
      exact ⟨_, hk⟩
  · rintro ⟨a, ha⟩
    have hcase : (∃ z ∈ txs, z.n = a + 1) ∨ Gone A txs a := by
      rcases hs a with h1 | h1 | h1
      · obtain ⟨z, hz, e, _⟩ := h.act h1; exact .inl ⟨z, hz, e⟩
      · by_cases hz : ∃ z ∈ txs, z.n = a + 1
        · exact .inl hz
        · exact .inr ⟨h1, fun z hz' e => hz ⟨z, hz', e⟩⟩
      · exact absurd h1 (edA_s ha).1
    rcases hcase with ⟨z, hz, e⟩ | hg
    · refine .inr (key_len (k := z.n) ?_)
      rw [← hW.dual z hz y hy, ← edP_mem hW hz, h.ed z hz y hy, e]; exact ha
    · exact .inl ⟨a, hg, ha⟩
theorem SimW.out (h : SimW A txs) (hW : Wf cl txs) (hs : ∀ i, (aAt A i).s = 1 ∨ (aAt A i).s = 2 ∨ (aAt A i).s = 3) {y : TM} (hy : y ∈ txs) : (y.wo || decide (0 < y.out.length)) = true ↔ ∃ a, edA A (y.n - 1) a = true := by
  rw [Bool.or_eq_true, decide_eq_true_eq, h.wo y hy]
  constructor
  · rintro (⟨k, _, hk⟩ | hl)
    · exact ⟨k, hk⟩
    · obtain ⟨k, hk⟩ := ex_key hl
      obtain ⟨z, hz, hzk, _⟩ := hW.cou y hy k hk
      rw [← hzk, ← edP_mem hW hy, h.ed y hy z hz] at hk
      exact ⟨_, hk⟩
  · rintro ⟨a, ha⟩
    have hcase : (∃ z ∈ txs, z.n = a + 1) ∨ Gone A txs a := by
      rcases hs a with h1 | h1 | h1
      · obtain ⟨z, hz, e, _⟩ := h.act h1; exact .inl ⟨z, hz, e⟩
      · by_cases hz : ∃ z ∈ txs, z.n = a + 1
        · exact .inl hz
        · exact .inr ⟨h1, fun z hz' e => hz ⟨z, hz', e⟩⟩
      · exact absurd h1 (edA_s ha).2.1
    rcases hcase with ⟨z, hz, e⟩ | hg
    · refine .inr (key_len (k := z.n) ?_)
      rw [← edP_mem hW hy, h.ed y hy z hz, e]; exact ha
    · exact .inl ⟨a, hg, ha⟩
theorem SimW.pv (h : SimW A txs) (hW : Wf cl txs) (hs : ∀ i, (aAt A i).s = 1 ∨ (aAt A i).s = 2 ∨ (aAt A i).s = 3) {y : TM} (hy : y ∈ txs) : pvM y = pvA A (y.n - 1) := by
  rw [Bool.eq_iff_iff, pvA_iff, pvM, Bool.and_eq_true, h.inn hW hs hy, h.out hW hs hy]
theorem SimW.jd (h : SimW A txs) (hW : Wf cl txs) (hs : ∀ i, (aAt A i).s = 1 ∨ (aAt A i).s = 2 ∨ (aAt A i).s = 3) (hg : ∀ k, Gone A txs k → pvA A k = false) : jdM txs = jA A := by
  rw [Bool.eq_iff_iff, jA_iff, jdM, List.any_eq_true]
  constructor
  · rintro ⟨y, hy, hp⟩
    rw [jd1, Bool.and_eq_true, decide_eq_true_eq, h.pv hW hs hy] at hp
    refine ⟨y.n - 1, ?_, hp.2⟩
    rw [h.f y hy]; exact abs_com.2 (by omega)
  · rintro ⟨a, h1, h2⟩
    by_cases hz : ∃ z ∈ txs, z.n = a + 1
    · obtain ⟨z, hz, e⟩ := hz
      refine ⟨z, hz, ?_⟩
      have hf := h.f z hz
      rw [e, Nat.add_sub_cancel] at hf
      rw [hf] at h1
      have := abs_com.1 h1
      rw [jd1, Bool.and_eq_true, decide_eq_true_eq, h.pv hW hs hz, e, Nat.add_sub_cancel]
      exact ⟨by omega, h2⟩
    · rw [hg a ⟨h1, fun z hz' e => hz ⟨z, hz', e⟩⟩] at h2; cases h2
theorem sum_ite {p : Nat → Bool} {f : Nat → Nat} : ∀ l : List Nat, (l.map fun i => if p i then f i else 0).sum = ((l.filter p).map f).sum
  | [] => rfl
  | i :: l => by
    rw [List.map_cons, List.sum_cons, sum_ite l, List.filter_cons]
    split
    · rw [List.map_cons, List.sum_cons]
    · rw [Nat.zero_add]
theorem perm_sum {l l' : List Nat} (h : l.Perm l') : l.sum = l'.sum := by
  induction h with
  | nil => rfl
  | cons x _ ih => rw [List.sum_cons, List.sum_cons, ih]
  | swap x y l => simp only [List.sum_cons]; omega
  | trans _ _ ih1 ih2 => exact ih1.trans ih2
theorem Sim.kept (h : Sim A txs) (hW : Wf cl txs) : keptM txs = keptA A := by
  unfold keptM keptA
  rw [sum_ite]
  have h1 : txs.map rlen = (txs.map fun y => y.n - 1).map fun i => (aAt A i).reads.length := by
    rw [List.map_map]
    refine List.map_congr_left fun y hy => ?_
    show y.reads.length = (aAt A (y.n - 1)).reads.length
    rw [h.f y hy]; rfl
  rw [h1]
  refine perm_sum (List.Perm.map _ ?_)
  have hn : (txs.map fun y => y.n - 1).Nodup := by
    have h2 := hW.n
    have h3 := h.toSimW
    rw [List.nodup_iff_pairwise_ne, List.pairwise_map] at h2 ⊢
    exact List.Pairwise.imp_of_mem (fun {a b} ha hb hne e => hne (h3.inj ha hb e)) h2
  refine (List.perm_ext_iff_of_nodup hn (List.filter_sublist.nodup List.nodup_range)).2 fun i => ?_
  rw [List.mem_map, List.mem_filter, List.mem_range]
  constructor
  · rintro ⟨y, hy, rfl⟩
    have := h.rng y hy
    exact ⟨by omega, h.cnt y hy⟩
  · rintro ⟨_, hc⟩
    obtain ⟨y, hy, e⟩ := h.mem i hc
    exact ⟨y, hy, by omega⟩
theorem cnt_drop {i j : Nat} (hlt : i < A.length) (h : cntA (abA A i) j = true) : j ≠ i ∧ cntA A j = true := by
  have hat : ∀ k, aAt (abA A i) k = if k = i then a3 (aAt A i) else aAt A k := fun k => upA_at hlt
  rw [cntA_iff, hat] at h
  have hj : j ≠ i := fun e => by
    rw [if_pos e] at h
    rcases h with h | h
    · cases h
    · cases h.1
  rw [if_neg hj] at h
  refine ⟨hj, cntA_iff.2 ?_⟩
  rcases h with h | ⟨h1, k, h2, h3⟩
  · exact .inl h
  · rw [hat] at h2 h3
    by_cases hk : k = i
    · rw [if_pos hk] at h2; cases h2
    · rw [if_neg hk] at h2 h3
      exact .inr ⟨h1, k, h2, h3⟩
theorem SimW.drop (h : SimW A txs) (hW : Wf cl txs) {x : TM} (hx : x ∈ txs) (hd : x.done = 0) : SimW (abA A (x.n - 1)) (fgM false [x.n] txs) := by
  have hlt : x.n - 1 < A.length := by have := h.rng x hx; omega
  have hat : ∀ k, aAt (abA A (x.n - 1)) k = if k = x.n - 1 then a3 (aAt A (x.n - 1)) else aAt A k := fun k => upA_at hlt
  have hs1 := h.s1 hx hd
  have hne : ∀ {k : TM}, k ∈ txs → k.n ∉ [x.n] → k.n - 1 ≠ x.n - 1 := fun hk hn e => hn (by rw [h.inj hk hx e]; exact List.mem_singleton_self _)
  have hed : ∀ {a b : Nat}, a ≠ x.n - 1 → b ≠ x.n - 1 → edA (abA A (x.n - 1)) a b = edA A a b := fun ha hb => edA_congr (by rw [hat, if_neg ha]) (by rw [hat, if_neg hb])
  have hgone : ∀ k, Gone (abA A (x.n - 1)) (fgM false [x.n] txs) k ↔ Gone A txs k := fun k => by
    unfold Gone
    rw [hat]
    by_cases hk : k = x.n - 1
    · rw [if_pos hk, hk]
      constructor
      · rintro ⟨h1, _⟩; cases h1
      · rintro ⟨h1, _⟩; rw [hs1] at h1; cases h1
    · rw [if_neg hk]
      refine and_congr_right fun _ => ⟨fun h1 y hy e => ?_, fun h1 z hz e => ?_⟩
      · refine h1 (cutT false [x.n] y) (mem_fg hy fun hm => hk ?_) e
        have := List.mem_singleton.1 hm
        omega
      · obtain ⟨y, hy, _, rfl⟩ := fg_mem hz
        exact h1 y hy e
  have hW' := hW.fg false [x.n]
  refine ⟨fun z hz => ?_, fun z hz => ?_, fun i hc => ?_, fun z hz z' hz' => ?_, fun z hz => ?_, fun z hz => ?_⟩
  · obtain ⟨k, hk, _, rfl⟩ := fg_mem hz
    rw [abA, upA_len]; exact h.rng k hk
  · obtain ⟨k, hk, hkn, rfl⟩ := fg_mem hz
    rw [hat, cutT_n, if_neg (hne hk hkn), h.f k hk]; rfl
  · obtain ⟨hj, hc⟩ := cnt_drop hlt hc
    obtain ⟨y, hy, e⟩ := h.mem i hc
    refine ⟨cutT false [x.n] y, mem_fg hy fun hm => hj ?_, e⟩
    have := List.mem_singleton.1 hm
    omega
  · rw [edP_mem hW' hz]
    obtain ⟨k, hk, hkn, rfl⟩ := fg_mem hz
    obtain ⟨k', hk', hkn', rfl⟩ := fg_mem hz'
    rw [has_cut, cutT_n, cutT_n, any_num, ← edP_mem hW hk, h.ed k hk k' hk', hed (hne hk hkn) (hne hk' hkn')]
    have : [x.n].contains k'.n = false := by simpa using hkn'
    rw [this]; simp
  · obtain ⟨k, hk, hkn, rfl⟩ := fg_mem hz
    have : (cutT false [x.n] k).wi = k.wi := by simp [cutT]
    rw [this, h.wi k hk, cutT_n]
    refine exists_congr fun g => ?_
    rw [hgone]
    refine and_congr_right fun hg => ?_
    rw [hed (fun e => ?_) (hne hk hkn)]
    rw [e] at hg; have h9 := hg.1; rw [hs1] at h9; cases h9
  · obtain ⟨k, hk, hkn, rfl⟩ := fg_mem hz
    have : (cutT false [x.n] k).wo = k.wo := by simp [cutT]
    rw [this, h.wo k hk, cutT_n]
    refine exists_congr fun g => ?_
    rw [hgone]
    refine and_congr_right fun hg => ?_
    rw [hed (hne hk hkn) (fun e => ?_)]
    rw [e] at hg; have h9 := hg.1; rw [hs1] at h9; cases h9
theorem mem_gone {n : Nat} : n ∈ goneM txs ↔ ∃ x ∈ txs, x.n = n ∧ Go.Si.cntM txs x = false := by
  unfold goneM
  rw [List.mem_map]
  constructor
  · rintro ⟨x, hx, rfl⟩
    have := List.mem_filter.1 hx
    exact ⟨x, this.1, rfl, by simpa using this.2⟩
  · rintro ⟨x, hx, rfl, hc⟩
    exact ⟨x, List.mem_filter.2 ⟨hx, by simp [hc]⟩, rfl⟩
theorem SimW.forget (h : SimW A txs) (hW : Wf cl txs) : Sim A (fgM true (goneM txs) txs) := by
  have hW' := hW.fg true (goneM txs)
  have hin : ∀ {k : TM}, k ∈ txs → k.n ∉ goneM txs → cntA A (k.n - 1) = true := fun {k} hk hn => by
    rw [← h.cntM hk]
    cases hc : Go.Si.cntM txs k with
    | true => rfl
    | false => exact absurd (mem_gone.2 ⟨k, hk, rfl, hc⟩) hn
  have hnot : ∀ {k : TM}, k ∈ txs → cntA A (k.n - 1) = true → k.n ∉ goneM txs := fun {k} hk hc hn => by
    obtain ⟨x, hx, e, hcx⟩ := mem_gone.1 hn
    have := n_inj hW hx hk e
    subst this
    rw [h.cntM hx, hc] at hcx; cases hcx
  have hgone : ∀ k, Gone A (fgM true (goneM txs) txs) k ↔ Gone A txs k ∨ ∃ x ∈ txs, x.n = k + 1 ∧ x.n ∈ goneM txs := fun k => by
    constructor
    · rintro ⟨h1, h2⟩
      by_cases hz : ∃ z ∈ txs, z.n = k + 1
      · obtain ⟨z, hz, e⟩ := hz
        refine .inr ⟨z, hz, e, Classical.byContradiction fun hn => h2 _ (mem_fg hz hn) ?_⟩
        exact e
      · exact .inl ⟨h1, fun z hz' e => hz ⟨z, hz', e⟩⟩
    · rintro (⟨h1, h2⟩ | ⟨x, hx, e, hm⟩)
      · refine ⟨h1, fun z hz e => ?_⟩
        obtain ⟨y, hy, _, rfl⟩ := fg_mem hz
        exact h2 y hy e
      · refine ⟨?_, fun z hz e' => ?_⟩
        · obtain ⟨x', hx', ee, hcx⟩ := mem_gone.1 hm
          have := n_inj hW hx' hx ee
          subst this
          rw [h.cntM hx'] at hcx
          have hf := h.f x' hx'
          rw [e, Nat.add_sub_cancel] at hf hcx
          rw [hf]
          refine abs_com.2 fun h0 => ?_
          rw [cntA_iff.2 (.inl (by rw [hf]; exact abs_act.2 h0))] at hcx; cases hcx
        · obtain ⟨y, hy, hyn, rfl⟩ := fg_mem hz
          have e'' : y.n = k + 1 := e'
          exact hyn (by rw [e'', ← e]; exact hm)
  refine ⟨⟨fun z hz => ?_, fun z hz => ?_, fun i hc => ?_, fun z hz z' hz' => ?_, fun z hz => ?_, fun z hz => ?_⟩, fun z hz => ?_⟩
  · obtain ⟨k, hk, _, rfl⟩ := fg_mem hz
    exact h.rng k hk
  · obtain ⟨k, hk, hkn, rfl⟩ := fg_mem hz
    exact h.f k hk
  · obtain ⟨y, hy, e⟩ := h.mem i hc
    exact ⟨cutT true _ y, mem_fg hy (hnot hy (by rw [e, Nat.add_sub_cancel]; exact hc)), e⟩
  · rw [edP_mem hW' hz]
    obtain ⟨k, hk, hkn, rfl⟩ := fg_mem hz
    obtain ⟨k', hk', hkn', rfl⟩ := fg_mem hz'
    rw [has_cut, cutT_n, cutT_n, any_num, ← edP_mem hW hk, h.ed k hk k' hk']
    have : (goneM txs).contains k'.n = false := by simpa using hkn'
    rw [this]; simp
  · obtain ⟨k, hk, hkn, rfl⟩ := fg_mem hz
    have : (cutT true (goneM txs) k).wi = (k.wi || (goneM txs).any fun d => mHas d k.inn) := by simp [cutT]
    rw [this, Bool.or_eq_true, h.wi k hk, cutT_n, List.any_eq_true]
    constructor
    · rintro (⟨g, hg, he⟩ | ⟨d, hd, he⟩)
      · exact ⟨g, (hgone g).2 (.inl hg), he⟩
      · obtain ⟨x, hx, rfl, hcx⟩ := mem_gone.1 hd
        refine ⟨x.n - 1, (hgone _).2 (.inr ⟨x, hx, h.idx hx, hd⟩), ?_⟩
        rw [← hW.dual x hx k hk, ← edP_mem hW hx, h.ed x hx k hk] at he
        exact he
    · rintro ⟨g, hg, he⟩
      rcases (hgone g).1 hg with hg | ⟨x, hx, e, hm⟩
      · exact .inl ⟨g, hg, he⟩
      · refine .inr ⟨x.n, hm, ?_⟩
        rw [← hW.dual x hx k hk, ← edP_mem hW hx, h.ed x hx k hk, e]; exact he
  · obtain ⟨k, hk, hkn, rfl⟩ := fg_mem hz
    have : (cutT true (goneM txs) k).wo = (k.wo || (goneM txs).any fun d => mHas d k.out) := by simp [cutT]
    rw [this, Bool.or_eq_true, h.wo k hk, cutT_n, List.any_eq_true]
    constructor
    · rintro (⟨g, hg, he⟩ | ⟨d, hd, he⟩)
      · exact ⟨g, (hgone g).2 (.inl hg), he⟩
      · obtain ⟨x, hx, rfl, hcx⟩ := mem_gone.1 hd
        refine ⟨x.n - 1, (hgone _).2 (.inr ⟨x, hx, h.idx hx, hd⟩), ?_⟩
        rw [← edP_mem hW hk, h.ed k hk x hx] at he
        exact he
    · rintro ⟨g, hg, he⟩
      rcases (hgone g).1 hg with hg | ⟨x, hx, e, hm⟩
      · exact .inl ⟨g, hg, he⟩
      · refine .inr ⟨x.n, hm, ?_⟩
        rw [← edP_mem hW hk, h.ed k hk x hx, e]; exact he
  · obtain ⟨k, hk, hkn, rfl⟩ := fg_mem hz
    exact hin (k := k) hk hkn
end
end Go.Si
namespace Go.Si
open Go Go.Vc Go.Proofs.Ytggmifnkgcladaa
section
variable {A B : List AT} {txs cur : List TM} {cl sp : Nat}
theorem ab_sim (h : SimW A txs) (hW : Wf cl txs) {x : TM} (hx : x ∈ txs) (hd : x.done = 0) : Sim (abA A (x.n - 1)) (ab1 x.n txs) := (h.drop hW hx hd).forget (hW.fg false [x.n])
theorem ab_wf (hW : Wf cl txs) (n : Nat) : Wf cl (ab1 n txs) := (hW.fg false [n]).fg true _
theorem live_some {k : Int} {x : TM} (h : liveM k txs = some x) : x ∈ txs ∧ (x.n : Int) = k ∧ x.done = 0 := by
  unfold liveM at h
  cases ha : actM k txs with
  | none => rw [ha] at h; cases h
  | some y =>
    rw [ha] at h
    simp only at h
    split at h
    · cases h
    · injection h with h
      subst h
      have := act_mem ha
      exact ⟨this.1, this.2, by omega⟩
theorem live_of (hW : Wf cl txs) {x : TM} (hx : x ∈ txs) (hd : x.done = 0) : liveM ((x.n : Nat) : Int) txs = some x := by
  unfold liveM actM
  rw [if_neg (by omega), Int.toNat_natCast, get_of_mem hW.n hx]
  simp [hd]
theorem live_iff (h : SimW A txs) (hW : Wf cl txs) (k : Int) : (liveM k txs).isSome = liveA A k := by
  cases hl : liveM k txs with
  | some x =>
    obtain ⟨hx, hk, hd⟩ := live_some hl
    have h1 := h.s1 hx hd
    have h2 := h.rng x hx
    have := liveA_i h1
    rw [show ((x.n - 1 + 1 : Nat) : Int) = k by omega] at this
    rw [this]; rfl
  | none =>
    cases ha : liveA A k with
    | false => rfl
    | true =>
      obtain ⟨i, rfl, hi⟩ := liveA_iff.1 ha
      obtain ⟨y, hy, e, hd⟩ := h.act hi
      have := live_of hW hy hd
      rw [e] at this
      have e2 : ((i + 1 : Nat) : Int) = (i : Nat) + 1 := by omega
      rw [e2, hl] at this; cases this
theorem live_lt {k : Int} (h : SimW A txs) {x : TM} (hl : liveM k txs = some x) : (k - 1).toNat = x.n - 1 := by
  obtain ⟨hx, hk, hd⟩ := live_some hl
  have := h.rng x hx
  omega
theorem abM_sim (h : SimW A txs) (hW : Wf cl txs) {k : Int} {x : TM} (hl : liveM k txs = some x) : Sim (abA A (k - 1).toNat) (abM k txs) ∧ Wf cl (abM k txs) := by
  obtain ⟨hx, hk, hd⟩ := live_some hl
  rw [live_lt h hl]
  unfold abM
  rw [hl]
  exact ⟨ab_sim h hW hx hd, ab_wf hW _⟩
theorem abort_sim (h : Sim A txs) (hW : Wf cl txs) (k : Int) : Sim (abortA A k).1 (abM k txs) ∧ Wf cl (abM k txs) ∧ liveE k txs = (abortA A k).2 := by
  unfold abortA liveE
  rw [← live_iff h.toSimW hW]
  cases hl : liveM k txs with
  | none =>
    unfold abM
    rw [hl]
    exact ⟨h, hW, rfl⟩
  | some x =>
    obtain ⟨h1, h2⟩ := abM_sim h.toSimW hW hl
    exact ⟨h1, h2, rfl⟩
theorem cnt_commit {i j : Nat} (hi : (aAt A i).s = 1) (h : cntA (upA A i (aCm (sp + 1))) j = true) : cntA A j = true := by
  have hlt := aAt_lt (A := A) (i := i) (by rw [hi]; decide)
  have hat : ∀ k, aAt (upA A i (aCm (sp + 1))) k = if k = i then aCm (sp + 1) (aAt A i) else aAt A k := fun k => upA_at hlt
  by_cases hj : j = i
  · subst hj; exact cntA_iff.2 (.inl hi)
  · rw [cntA_iff, hat, if_neg hj] at h
    refine cntA_iff.2 ?_
    rcases h with h | ⟨h1, k, h2, h3⟩
    · exact .inl h
    · rw [hat] at h2 h3
      by_cases hk : k = i
      · rw [if_pos hk] at h2; cases h2
      · rw [if_neg hk] at h2 h3; exact .inr ⟨h1, k, h2, h3⟩
theorem mem_set {k : Nat} {f : TM → TM} {z : TM} (h : z ∈ setTx k f txs) : ∃ y ∈ txs, z = if y.n = k then f y else y := by
  unfold setTx at h
  obtain ⟨y, hy, rfl⟩ := List.mem_map.1 h
  exact ⟨y, hy, rfl⟩
theorem set_mem {k : Nat} {f : TM → TM} {y : TM} (h : y ∈ txs) : (if y.n = k then f y else y) ∈ setTx k f txs := List.mem_map.2 ⟨y, h, rfl⟩
theorem SimW.commit (h : SimW A txs) (hW : Wf cl txs) (hok : AOk A sp) {x : TM} (hx : x ∈ txs) (hd : x.done = 0) : SimW (upA A (x.n - 1) (aCm (sp + 1))) (setTx x.n (setDone (sp + 1)) txs) := by
  have hi := h.s1 hx hd
  have hlt := aAt_lt (A := A) (i := x.n - 1) (by rw [hi]; decide)
  have hat : ∀ k, aAt (upA A (x.n - 1) (aCm (sp + 1))) k = if k = x.n - 1 then aCm (sp + 1) (aAt A (x.n - 1)) else aAt A k := fun k => upA_at hlt
  have hn : ∀ y : TM, (if y.n = x.n then setDone (sp + 1) y else y).n = y.n := fun y => by split <;> rfl
  have hgone : ∀ k, Gone (upA A (x.n - 1) (aCm (sp + 1))) (setTx x.n (setDone (sp + 1)) txs) k ↔ Gone A txs k := fun k => by
    unfold Gone
    by_cases hk : k = x.n - 1
    · constructor
      · rintro ⟨_, h2⟩
        exact absurd (show _ = k + 1 by rw [hn]; have := h.rng x hx; omega) (h2 _ (set_mem hx))
      · rintro ⟨h1, _⟩; rw [hk, hi] at h1; cases h1
    · rw [hat, if_neg hk]
      refine and_congr_right fun _ => ⟨fun h1 y hy e => h1 _ (set_mem hy) (by rw [hn]; exact e), fun h1 z hz e => ?_⟩
      obtain ⟨y, hy, rfl⟩ := mem_set hz
      rw [hn] at e
      exact h1 y hy e
  have hW' := hW.set x.n (sp + 1)
  refine ⟨fun z hz => ?_, fun z hz => ?_, fun i hc => ?_, fun z hz z' hz' => ?_, fun z hz => ?_, fun z hz => ?_⟩
  · obtain ⟨y, hy, rfl⟩ := mem_set hz
    rw [hn, upA_len]; exact h.rng y hy
  · obtain ⟨y, hy, rfl⟩ := mem_set hz
    rw [hn, hat]
    by_cases e : y.n = x.n
    · have := n_inj hW hy hx e
      subst this
      rw [if_pos rfl, if_pos rfl, h.f y hy]
      rfl
    · rw [if_neg (fun e' => e (h.inj hy hx e')), if_neg e, h.f y hy]
  · obtain ⟨y, hy, e⟩ := h.mem i (cnt_commit hi hc)
    exact ⟨_, set_mem hy, by rw [hn]; exact e⟩
  · rw [edP_mem hW' hz]
    obtain ⟨y, hy, rfl⟩ := mem_set hz
    obtain ⟨y', hy', rfl⟩ := mem_set hz'
    have : (if y.n = x.n then setDone (sp + 1) y else y).out = y.out := by split <;> rfl
    rw [this, hn, hn, ← edP_mem hW hy, h.ed y hy y' hy', ed_commit hok hi]
  · obtain ⟨y, hy, rfl⟩ := mem_set hz
    have : (if y.n = x.n then setDone (sp + 1) y else y).wi = y.wi := by split <;> rfl
    rw [this, hn, h.wi y hy]
    exact exists_congr fun g => by rw [hgone, ed_commit hok hi]
  · obtain ⟨y, hy, rfl⟩ := mem_set hz
    have : (if y.n = x.n then setDone (sp + 1) y else y).wo = y.wo := by split <;> rfl
    rw [this, hn, h.wo y hy]
    exact exists_congr fun g => by rw [hgone, ed_commit hok hi]
theorem commit_sim (h : Sim A txs) (hW : Wf cl txs) (hok : AOk A sp) (k : Int) : Sim (commitA A sp k).1 (cmZ k sp txs).2.1 ∧ Wf cl (cmZ k sp txs).2.1 ∧ (cmZ k sp txs).1 = (commitA A sp k).2.1 ∧ (cmZ k sp txs).2.2 = (commitA A sp k).2.2 := by
  unfold commitA cmZ
  rw [← live_iff h.toSimW hW]
  cases hl : liveM k txs with
  | none => exact ⟨h, hW, rfl, rfl⟩
  | some x =>
    obtain ⟨hx, hk, hd⟩ := live_some hl
    have hlt := live_lt h.toSimW hl
    simp only [Option.isSome_some, if_true]
    rw [h.toSimW.pv hW hok.s hx, ← hlt]
    split
    · obtain ⟨h1, h2⟩ := abM_sim h.toSimW hW hl
      exact ⟨h1, h2, rfl, rfl⟩
    · have h1 := h.toSimW.commit hW hok hx hd
      rw [← hlt] at h1
      have hW' := hW.set x.n (sp + 1)
      exact ⟨h1.forget hW', hW'.fg _ _, rfl, rfl⟩
theorem cnt_begin (hok : AOk A sp) {i : Nat} (hi : i ≠ A.length) : cntA (beginA A sp) i = cntA A i := by
  have hat : ∀ j, aAt (beginA A sp) j = if j = A.length then aNew (sp + 1) else aAt A j := fun j => aAt_snoc
  rw [Bool.eq_iff_iff, cntA_iff, cntA_iff, hat, if_neg hi]
  refine or_congr Iff.rfl (and_congr_right fun h1 => ⟨fun ⟨k, h2, h3⟩ => ?_, fun ⟨k, h2, h3⟩ => ⟨k, ?_⟩⟩)
  · rw [hat] at h2 h3
    by_cases hk : k = A.length
    · rw [if_pos hk] at h3
      have := (hok.d i h1).2
      have h4 : sp + 1 < (aAt A i).done := h3
      omega
    · rw [if_neg hk] at h2 h3; exact ⟨k, h2, h3⟩
  · have := aAt_lt (A := A) (i := k) (by rw [h2]; decide)
    rw [hat, if_neg (by omega)]
    exact ⟨h2, h3⟩
theorem Wf.begin (hW : Wf cl txs) {nx : Nat} (hn : ∀ y ∈ txs, y.n ≤ nx) (z : Nat × Nat × Nat) : Wf (cl + 1) (txs ++ [beM nx sp cl z]) := by
  refine ⟨?_, ?_, fun y hy => ?_, fun y hy => ?_, fun y hy => ?_, fun y hy k hk => ?_, fun y hy k hk => ?_, fun x hx y hy => ?_, fun y hy => ?_, fun y hy => ?_⟩
  · rw [List.map_append, List.nodup_append]
    refine ⟨hW.n, by simp, fun a ha b hb e => ?_⟩
    obtain ⟨y, hy, rfl⟩ := List.mem_map.1 ha
    simp only [List.map_cons, List.map_nil, List.mem_singleton] at hb
    have := hn y hy
    rw [hb] at e
    have e' : y.n = nx + 1 := e
    omega
  · rw [List.map_append, List.nodup_append]
    refine ⟨hW.st, by simp, fun a ha b hb e => ?_⟩
    obtain ⟨y, hy, rfl⟩ := List.mem_map.1 ha
    simp only [List.map_cons, List.map_nil, List.mem_singleton] at hb
    have := hW.lt y hy
    rw [hb] at e
    have e' : y.st = cl := e
    omega
  all_goals
    first
      | (rcases List.mem_append.1 hy with hy | hy)
      | skip
  · exact Nat.lt_succ_of_lt (hW.lt y hy)
  · rw [List.mem_singleton.1 hy]; exact Nat.lt_succ_self _
  · exact hW.inn y hy
  · rw [List.mem_singleton.1 hy]; exact EOk.nil
  · exact hW.out y hy
  · rw [List.mem_singleton.1 hy]; exact EOk.nil
  · obtain ⟨w, hw, e⟩ := hW.cin y hy k hk
    exact ⟨w, List.mem_append_left _ hw, e⟩
  · rw [List.mem_singleton.1 hy] at hk; cases hk
  · obtain ⟨w, hw, e⟩ := hW.cou y hy k hk
    exact ⟨w, List.mem_append_left _ hw, e⟩
  · rw [List.mem_singleton.1 hy] at hk; cases hk
  · rcases List.mem_append.1 hx with hx | hx
    · exact hW.dual x hx y hy
    · rw [List.mem_singleton.1 hx]
      show false = mHas ((nx + 1 : Nat) : Int) y.inn
      symm
      cases hm : mHas ((nx + 1 : Nat) : Int) y.inn with
      | false => rfl
      | true =>
        obtain ⟨w, hw, e, _⟩ := hW.cin y hy _ hm
        have := hn w hw
        omega
  · rw [List.mem_singleton.1 hy]
    show mHas ((nx + 1 : Nat) : Int) x.out = false
    rcases List.mem_append.1 hx with hx | hx
    · cases hm : mHas ((nx + 1 : Nat) : Int) x.out with
      | false => rfl
      | true =>
        obtain ⟨w, hw, e, _⟩ := hW.cou x hx _ hm
        have := hn w hw
        omega
    · rw [List.mem_singleton.1 hx]; rfl
  · exact hW.rs y hy
  · rw [List.mem_singleton.1 hy]; exact (rfl : ([] : List Rd) = [])
  · exact hW.ws y hy
  · rw [List.mem_singleton.1 hy]; exact (rfl : ([] : List WrA) = [])
theorem begin_sim (h : Sim A txs) (hW : Wf cl txs) (hok : AOk A sp) (z : Nat × Nat × Nat) : Sim (beginA A sp) (txs ++ [beM A.length sp cl z]) := by
  have hat : ∀ j, aAt (beginA A sp) j = if j = A.length then aNew (sp + 1) else aAt A j := fun j => aAt_snoc
  have hW' := hW.begin (sp := sp) (fun y hy => (h.rng y hy).2) z
  have hlen : (beginA A sp).length = A.length + 1 := by simp [beginA]
  have hne : ∀ {y : TM}, y ∈ txs → y.n - 1 ≠ A.length := fun hy => by have := h.rng _ hy; omega
  have hgone : ∀ k, Gone (beginA A sp) (txs ++ [beM A.length sp cl z]) k ↔ Gone A txs k := fun k => by
    unfold Gone
    rw [hat]
    by_cases hk : k = A.length
    · rw [if_pos hk, hk, aAt_out (Nat.le_refl _)]
      constructor
      · rintro ⟨h1, _⟩; cases h1
      · rintro ⟨h1, _⟩; cases h1
    · rw [if_neg hk]
      refine and_congr_right fun _ => ⟨fun h1 y hy => h1 y (List.mem_append_left _ hy), fun h1 y hy e => ?_⟩
      rcases List.mem_append.1 hy with hy | hy
      · exact h1 y hy e
      · rw [List.mem_singleton.1 hy] at e
        have e' : A.length + 1 = k + 1 := e
        omega
  refine ⟨⟨fun y hy => ?_, fun y hy => ?_, fun i hc => ?_, fun x hx y hy => ?_, fun y hy => ?_, fun y hy => ?_⟩, fun y hy => ?_⟩
  · rw [hlen]
    rcases List.mem_append.1 hy with hy | hy
    · have := h.rng y hy; omega
    · rw [List.mem_singleton.1 hy]
      show 1 ≤ A.length + 1 ∧ A.length + 1 ≤ _
      omega
  · rcases List.mem_append.1 hy with hy | hy
    · rw [hat, if_neg (hne hy)]; exact h.f y hy
    · rw [List.mem_singleton.1 hy, hat]
      show (if A.length + 1 - 1 = A.length then _ else _) = _
      rw [if_pos (by omega)]; rfl
  · by_cases hi : i = A.length
    · exact ⟨_, List.mem_append_right _ (List.mem_singleton_self _), by rw [hi]; rfl⟩
    · rw [cnt_begin hok hi] at hc
      obtain ⟨y, hy, e⟩ := h.mem i hc
      exact ⟨y, List.mem_append_left _ hy, e⟩
  · unfold beginA
    rw [edP_mem hW' hx, ed_new]
    rcases List.mem_append.1 hx with hx | hx
    · rcases List.mem_append.1 hy with hy | hy
      · rw [if_neg (not_or.2 ⟨hne hx, hne hy⟩), ← edP_mem hW hx, h.ed x hx y hy]
      · rw [List.mem_singleton.1 hy, if_pos (.inr (show A.length + 1 - 1 = A.length by omega))]
        cases hm : mHas (((beM A.length sp cl z).n : Nat) : Int) x.out with
        | false => rfl
        | true =>
          obtain ⟨w, hw, e, _⟩ := hW.cou x hx _ hm
          have := (h.rng w hw).2
          have e' : (w.n : Int) = ((A.length + 1 : Nat) : Int) := e
          omega
    · rw [List.mem_singleton.1 hx, if_pos (.inl (show A.length + 1 - 1 = A.length by omega))]; rfl
  · rcases List.mem_append.1 hy with hy | hy
    · rw [h.wi y hy]
      refine exists_congr fun k => ?_
      rw [hgone]
      refine and_congr_right fun hg => ?_
      unfold beginA
      rw [ed_new, if_neg (not_or.2 ⟨fun e => ?_, hne hy⟩)]
      rw [e] at hg; have := hg.1; rw [aAt_out (Nat.le_refl _)] at this; cases this
    · rw [List.mem_singleton.1 hy]
      refine ⟨fun e => (by cases e), fun ⟨k, _, he⟩ => ?_⟩
      unfold beginA at he
      rw [ed_new, if_pos (.inr (show A.length + 1 - 1 = A.length by omega))] at he; cases he
  · rcases List.mem_append.1 hy with hy | hy
    · rw [h.wo y hy]
      refine exists_congr fun k => ?_
      rw [hgone]
      refine and_congr_right fun hg => ?_
      unfold beginA
      rw [ed_new, if_neg (not_or.2 ⟨hne hy, fun e => ?_⟩)]
      rw [e] at hg; have := hg.1; rw [aAt_out (Nat.le_refl _)] at this; cases this
    · rw [List.mem_singleton.1 hy]
      refine ⟨fun e => (by cases e), fun ⟨k, _, he⟩ => ?_⟩
      unfold beginA at he
      rw [ed_new, if_pos (.inl (show A.length + 1 - 1 = A.length by omega))] at he; cases he
  · rcases List.mem_append.1 hy with hy | hy
    · rw [cnt_begin hok (hne hy)]; exact h.cnt y hy
    · rw [List.mem_singleton.1 hy]
      refine cntA_iff.2 (.inl ?_)
      show (aAt (beginA A sp) (A.length + 1 - 1)).s = 1
      rw [hat, if_pos (by omega)]; rfl
theorem piv_sim (h : Sim A txs) (hW : Wf cl txs) (hok : AOk A sp) (k : Int) : pivE k txs = pivA A k := by
  unfold pivE pivA
  cases ha : actM k txs with
  | some x =>
    obtain ⟨hx, hk⟩ := act_mem ha
    have := h.rng x hx
    simp only
    rw [h.toSimW.pv hW hok.s hx, decide_eq_true (by omega : 1 ≤ k), decide_eq_true (by omega : k ≤ (A.length : Nat)), show (k - 1).toNat = x.n - 1 by omega]; rfl
  | none =>
    simp only
    symm
    by_cases h1 : 1 ≤ k
    · by_cases h2 : k ≤ (A.length : Nat)
      · rw [decide_eq_true h1, decide_eq_true h2, Bool.and_self, Bool.true_and]
        have hno : ∀ y ∈ txs, y.n ≠ (k - 1).toNat + 1 := fun y hy e => by
          have := get_of_mem hW.n hy
          unfold actM at ha
          rw [if_neg (by omega), show k.toNat = y.n by omega, this] at ha; cases ha
        cases hp : pvA A (k - 1).toNat with
        | false => rfl
        | true =>
          rcases hok.s (k - 1).toNat with h3 | h3 | h3
          · obtain ⟨y, hy, e, _⟩ := h.toSimW.act h3
            exact absurd e (hno y hy)
          · rw [hok.np _ h3] at hp; cases hp
          · obtain ⟨⟨a, h4⟩, _⟩ := pvA_iff.1 hp
            exact absurd h3 (edA_s h4).2.1
      · rw [decide_eq_false h2]; simp
    · rw [decide_eq_false h1]; rfl
end
end Go.Si
namespace Go.Si
open Go Go.Vc Go.Vl Go.Proofs.Ytggmifnkgcladaa
theorem cov_all1 {r : Rd} (h : r.col = -1) (vals : List V3) : coversF r vals = true := cov_all (by rw [h]; rfl) vals
theorem mt_all {r k : Rd} {w : Wr} (hs : sameT r k = true) (h : mtW k w = true) : mtW (allR r) w = true := by
  unfold mtW at h ⊢
  rw [Bool.and_eq_true, Bool.or_eq_true] at h
  have e1 := (seq_iff _ _).1 h.1
  have e2 := (seq_iff _ _).1 hs
  rw [Bool.and_eq_true, Bool.or_eq_true]
  refine ⟨(seq_iff _ _).2 (by show r.t = w.t; rw [← e2]; exact e1), ?_⟩
  rcases h.2 with h2 | h2
  · left
    cases ho : w.o with
    | none => rw [ho] at h2; cases h2
    | some row => exact cov_all1 rfl row
  · right
    cases ho : w.n with
    | none => rw [ho] at h2; cases h2
    | some row => exact cov_all1 rfl row
theorem any_kp (l : List Rd) (r : Rd) (w : Wr) : (kpL l r).any (fun k => mtW k w) = (l.any (fun k => mtW k w) || mtW (kpR l r) w) := by
  unfold kpL kpR
  cases hf : l.find? (kpHit r) with
  | some k =>
    simp only
    have hk := List.mem_of_find?_eq_some hf
    cases hm : mtW k w with
    | false => rw [Bool.or_false]
    | true => rw [Bool.or_true]; exact List.any_eq_true.2 ⟨k, hk, hm⟩
  | none =>
    simp only
    split
    · rw [List.any_append, List.any_cons, List.any_nil, Bool.or_false]
      cases hm : mtW (allR r) w with
      | true => simp
      | false =>
        rw [Bool.or_false, Bool.or_false, Bool.eq_iff_iff, List.any_eq_true, List.any_eq_true]
        constructor
        · rintro ⟨k, hk, h⟩; exact ⟨k, (List.mem_filter.1 hk).1, h⟩
        · rintro ⟨k, hk, h⟩
          refine ⟨k, List.mem_filter.2 ⟨hk, ?_⟩, h⟩
          cases hs : sameT r k with
          | false => rfl
          | true => rw [mt_all hs h] at hm; cases hm
    · rw [List.any_append, List.any_cons, List.any_nil, Bool.or_false]
theorem hit_rd (r : Rd) (a b : AT) : hitA (aRd r a) b = (hitA a b || b.writes.any (mtW (kpR a.reads r))) := by
  unfold hitA
  rw [Bool.eq_iff_iff, Bool.or_eq_true, List.any_eq_true, List.any_eq_true, List.any_eq_true]
  constructor
  · rintro ⟨k, hk, h⟩
    obtain ⟨w, hw, hm⟩ := List.any_eq_true.1 h
    have this : (kpL a.reads r).any (fun k => mtW k w) = true := List.any_eq_true.2 ⟨k, hk, hm⟩
    rw [any_kp, Bool.or_eq_true] at this
    rcases this with h1 | h1
    · obtain ⟨k', hk', hm'⟩ := List.any_eq_true.1 h1
      exact .inl ⟨k', hk', List.any_eq_true.2 ⟨w, hw, hm'⟩⟩
    · exact .inr ⟨w, hw, h1⟩
  · rintro (⟨k, hk, h⟩ | ⟨w, hw, h⟩)
    · obtain ⟨w, hw, hm⟩ := List.any_eq_true.1 h
      have this : (kpL a.reads r).any (fun k => mtW k w) = true := by
        rw [any_kp, show a.reads.any (fun k => mtW k w) = true from List.any_eq_true.2 ⟨k, hk, hm⟩, Bool.true_or]
      obtain ⟨k', hk', hm'⟩ := List.any_eq_true.1 this
      exact ⟨k', hk', List.any_eq_true.2 ⟨w, hw, hm'⟩⟩
    · have := any_kp a.reads r w
      rw [h, Bool.or_true] at this
      obtain ⟨k', hk', hm'⟩ := List.any_eq_true.1 this
      exact ⟨k', hk', List.any_eq_true.2 ⟨w, hw, hm'⟩⟩
theorem hit_wr (w : Wr) (a b : AT) : hitA a (aWr w b) = (hitA a b || a.reads.any fun r => mtW r w) := by
  unfold hitA
  show (a.reads.any fun r => (b.writes ++ [w]).any fun w => mtW r w) = _
  rw [Bool.eq_iff_iff, Bool.or_eq_true, List.any_eq_true, List.any_eq_true, List.any_eq_true]
  constructor
  · rintro ⟨k, hk, h⟩
    rw [List.any_append, Bool.or_eq_true, List.any_cons, List.any_nil, Bool.or_false] at h
    rcases h with h | h
    · exact .inl ⟨k, hk, h⟩
    · exact .inr ⟨k, hk, h⟩
  · rintro (⟨k, hk, h⟩ | ⟨k, hk, h⟩)
    · exact ⟨k, hk, by rw [List.any_append, h, Bool.true_or]⟩
    · exact ⟨k, hk, by rw [List.any_append, List.any_cons, h, Bool.true_or, Bool.or_true]⟩
section
variable {A B : List AT} {txs cur : List TM} {cl sp : Nat}
structure Same (A B : List AT) : Prop where
  len : B.length = A.length
  s : ∀ i, (aAt B i).s = (aAt A i).s
  b : ∀ i, (aAt B i).begun = (aAt A i).begun
  d : ∀ i, (aAt B i).done = (aAt A i).done
theorem Same.off (h : Same A B) (i k : Nat) : offT i k (aAt B i) (aAt B k) = offT i k (aAt A i) (aAt A k) := by
  unfold offT aheadA
  rw [h.s, h.s, h.b, h.b, h.d, h.d]
theorem Same.up {i : Nat} {f : AT → AT} (hi : i < A.length) (hf : ∀ a, (f a).s = a.s ∧ (f a).begun = a.begun ∧ (f a).done = a.done) : Same A (upA A i f) := by
  refine ⟨upA_len _ _ _, fun j => ?_, fun j => ?_, fun j => ?_⟩ <;> rw [upA_at hi] <;> split <;> rename_i e <;> first | (subst e; first | exact (hf _).1 | exact (hf _).2.1 | exact (hf _).2.2) | rfl
theorem Same.cnt (h : Same A B) (i : Nat) : cntA B i = cntA A i := by
  unfold cntA
  simp only [h.len, h.s, h.b, h.d]
theorem gone_off (h : SimW A txs) (hok : AOk A sp) (hs : Same A B) {i k : Nat} (hg : Gone A txs k) (hi : (aAt A i).s = 1) : edA B k i = false ∧ edA B i k = false := by
  have h1 : (aAt A k).done < (aAt A i).begun := by
    have h2 := hok.ne k i hg.1
    rcases Nat.lt_or_ge (aAt A i).begun (aAt A k).done with h3 | h3
    · obtain ⟨y, hy, e⟩ := h.mem k (cntA_iff.2 (.inr ⟨hg.1, i, hi, h3⟩))
      exact absurd e (hg.2 y hy)
    · omega
  have h4 : aheadA (aAt A k) (aAt A i) = true := by
    unfold aheadA
    rw [hg.1, decide_eq_true h1]; rfl
  constructor
  · unfold edA
    rw [hs.off, if_pos]
    unfold offT
    rw [h4]; simp
  · unfold edA
    rw [hs.off, if_pos]
    unfold offT
    rw [h4]; simp
theorem SimW.up (h : SimW A txs) (hok : AOk A sp) (hs : Same A B) {i : Nat} (hi : (aAt A i).s = 1) (ho : ∀ j, j ≠ i → aAt B j = aAt A j)
    (hc : ∀ z ∈ cur, ∃ y ∈ txs, z.n = y.n ∧ z.wi = y.wi ∧ z.wo = y.wo ∧ aAt B (y.n - 1) = z.abs) (hc' : ∀ y ∈ txs, ∃ z ∈ cur, z.n = y.n)
    (hed : ∀ x ∈ txs, ∀ y ∈ txs, edP cur x.n y.n = edA B (x.n - 1) (y.n - 1)) (hgo : ∀ k j, Gone A txs k → edA B k j = edA A k j ∧ edA B j k = edA A j k) : SimW B cur ∧ ∀ k, Gone B cur k ↔ Gone A txs k := by
  have hgone : ∀ k, Gone B cur k ↔ Gone A txs k := fun k => by
    unfold Gone
    rw [hs.s]
    refine and_congr_right fun _ => ⟨fun h1 y hy e => ?_, fun h1 z hz e => ?_⟩
    · obtain ⟨z, hz, e'⟩ := hc' y hy
      exact h1 z hz (e'.trans e)
    · obtain ⟨y, hy, e', _⟩ := hc z hz
      exact h1 y hy (e'.symm.trans e)
  refine ⟨⟨fun z hz => ?_, fun z hz => ?_, fun j hj => ?_, fun z hz z' hz' => ?_, fun z hz => ?_, fun z hz => ?_⟩, hgone⟩
  · obtain ⟨y, hy, e, _⟩ := hc z hz
    rw [e, hs.len]; exact h.rng y hy
  · obtain ⟨y, hy, e, _, _, e2⟩ := hc z hz
    rw [e]; exact e2
  · rw [hs.cnt] at hj
    obtain ⟨y, hy, e⟩ := h.mem j hj
    obtain ⟨z, hz, e'⟩ := hc' y hy
    exact ⟨z, hz, e'.trans e⟩
  · obtain ⟨y, hy, e, _⟩ := hc z hz
    obtain ⟨y', hy', e', _⟩ := hc z' hz'
    rw [e, e']; exact hed y hy y' hy'
  · obtain ⟨y, hy, e, ew, _⟩ := hc z hz
    rw [ew, e, h.wi y hy]
    refine exists_congr fun k => ?_
    rw [hgone]
    exact and_congr_right fun hg => by rw [(hgo k _ hg).1]
  · obtain ⟨y, hy, e, _, ew, _⟩ := hc z hz
    rw [ew, e, h.wo y hy]
    refine exists_congr fun k => ?_
    rw [hgone]
    exact and_congr_right fun hg => by rw [(hgo k _ hg).2]
theorem np_gone (hok : AOk A sp) {k : Nat} (hg : (aAt A k).s = 2) (hgo : ∀ j, edA B k j = edA A k j ∧ edA B j k = edA A j k) : pvA B k = false := by
  have h1 := hok.np k hg
  rw [pvA_false] at h1 ⊢
  rintro ⟨⟨a, h2⟩, b, h3⟩
  exact h1 ⟨⟨a, by rw [← (hgo a).2]; exact h2⟩, b, by rw [← (hgo b).1]; exact h3⟩
theorem jg_sim (h : Sim B cur) (hW : Wf cl cur) (hs : ∀ i, (aAt B i).s = 1 ∨ (aAt B i).s = 2 ∨ (aAt B i).s = 3) (hg : ∀ k, Gone B cur k → pvA B k = false) {k : Int} {x : TM} (hl : liveM k cur = some x) : Sim (jgA B (k - 1).toNat).1 (jgT k cur) ∧ Wf cl (jgT k cur) ∧ jgE cur = (jgA B (k - 1).toNat).2 := by
  unfold jgA jgT jgE
  rw [h.toSimW.jd hW hs hg]
  split
  · obtain ⟨h1, h2⟩ := abM_sim h.toSimW hW hl
    exact ⟨h1, h2, rfl⟩
  · exact ⟨h, hW, rfl⟩
theorem oth_off (h : SimW A txs) (hok : AOk A sp) {x y : TM} (hx : x ∈ txs) (hy : y ∈ txs) (hd : x.done = 0) : offT (x.n - 1) (y.n - 1) (aAt A (x.n - 1)) (aAt A (y.n - 1)) = !othM x y := by
  have hs1 := h.s1 hx hd
  have hfx := h.f x hx
  have hfy := h.f y hy
  have hne : ((x.n - 1) == (y.n - 1)) = ((y.n : Int) == (x.n : Int)) := by
    rw [Bool.eq_iff_iff, beq_iff_eq, beq_iff_eq]
    have := h.rng x hx; have := h.rng y hy
    omega
  have h3x : ((aAt A (x.n - 1)).s == 3) = false := by rw [hs1]; rfl
  have h3y : ((aAt A (y.n - 1)).s == 3) = false := by rw [hfy, abs_s]; split <;> rfl
  have ha1 : aheadA (aAt A (x.n - 1)) (aAt A (y.n - 1)) = false := by unfold aheadA; rw [hs1]; rfl
  have ha2 : aheadA (aAt A (y.n - 1)) (aAt A (x.n - 1)) = !(((y.done : Int) == 0) || decide ((x.begun : Int) < (y.done : Int))) := by
    unfold aheadA
    by_cases h0 : y.done = 0
    · have : ((aAt A (y.n - 1)).s == 2) = false := by rw [hfy, abs_s, if_pos h0]; rfl
      rw [this, h0]; rfl
    · have h2 : (aAt A (y.n - 1)).s = 2 := by rw [hfy]; exact abs_com.2 h0
      have hn := hok.ne (y.n - 1) (x.n - 1) h2
      rw [h2]
      rw [hfy, hfx] at hn ⊢
      have hn' : y.done ≠ x.begun := hn
      have e1 : ((y.done : Int) == 0) = false := by
        have : (y.done : Int) ≠ 0 := by omega
        simpa using this
      rw [e1]
      show (((2 : Int) == 2) && decide (y.done < x.begun)) = !(false || decide ((x.begun : Int) < (y.done : Int)))
      rw [Bool.false_or, Bool.eq_iff_iff]
      simp only [beq_self_eq_true, Bool.true_and, decide_eq_true_eq, Bool.not_eq_true', decide_eq_false_iff_not]
      omega
  unfold offT
  rw [hne, h3x, h3y, ha1, ha2, othM]
  simp [bne]
theorem core_wi {a b : TM} (h : coreT a = coreT b) : a.wi = b.wi := core_f TM.wi (fun _ => rfl) h
theorem core_wo {a b : TM} (h : coreT a = coreT b) : a.wo = b.wo := core_f TM.wo (fun _ => rfl) h
theorem core_abs {a b : TM} (h : coreT a = coreT b) : a.abs = b.abs := core_f TM.abs (fun _ => rfl) h
theorem edP_set (hW : Wf cl txs) {k : Nat} {g : TM → TM} (hg : ∀ z, (g z).n = z.n ∧ (g z).out = z.out) (a b : Nat) : edP (setTx k g txs) a b = edP txs a b := by
  unfold edP setTx
  rw [List.any_map]
  congr 1
  funext z
  show (decide ((if z.n = k then g z else z).n = a) && mHas (b : Int) (if z.n = k then g z else z).out) = _
  split
  · rw [(hg z).1, (hg z).2]
  · rfl
theorem live_cur {k : Int} {x : TM} (hl : liveM k txs = some x) (hWc : Wf cl cur) {z : TM} (hz : z ∈ cur) (hn : z.n = x.n) (hd : z.done = 0) : liveM k cur = some z := by
  obtain ⟨_, hk, _⟩ := live_some hl
  rw [← hk, ← hn]
  exact live_of hWc hz hd
theorem ed_rd_ne {i a b : Nat} {r : Rd} (hi : i < A.length) (ha : a ≠ i) : edA (upA A i (aRd r)) a b = edA A a b := by
  have hs := Same.up (A := A) (f := aRd r) hi (fun _ => ⟨rfl, rfl, rfl⟩)
  unfold edA
  rw [hs.off]
  congr 1
  unfold hitA
  rw [upA_at hi, if_neg ha, upA_at hi]
  split
  · rename_i e; subst e; rfl
  · rfl
theorem ed_wr_ne {i a b : Nat} {w : Wr} (hi : i < A.length) (hb : b ≠ i) : edA (upA A i (aWr w)) a b = edA A a b := by
  have hs := Same.up (A := A) (f := aWr w) hi (fun _ => ⟨rfl, rfl, rfl⟩)
  unfold edA
  rw [hs.off]
  congr 1
  unfold hitA
  rw [upA_at (j := b) hi, if_neg hb, upA_at hi]
  split
  · rename_i e; subst e; rfl
  · rfl
theorem read_up (h : Sim A txs) (hW : Wf cl txs) (hok : AOk A sp) {x : TM} (hx : x ∈ txs) (hd : x.done = 0) {r : Rd} {st : Option (Nat × List Value) × Nat} {ks : List Nat}
    (hI : IE cl (setTx x.n (setRd st (kpL x.reads r)) txs) (pR x.n (kpR x.reads r) (setTx x.n (setRd st (kpL x.reads r)) txs)) ks cur)
    (hks : ∀ y ∈ setTx x.n (setRd st (kpL x.reads r)) txs, othM x y = true ↔ y.n ∈ ks) (hW1 : Wf cl (setTx x.n (setRd st (kpL x.reads r)) txs)) :
    Sim (upA A (x.n - 1) (aRd r)) cur ∧ (∀ k, Gone (upA A (x.n - 1) (aRd r)) cur k → pvA (upA A (x.n - 1) (aRd r)) k = false) ∧ ∃ z ∈ cur, z.n = x.n ∧ z.done = 0 := by
  have hi := h.toSimW.s1 hx hd
  have hlt := aAt_lt (A := A) (i := x.n - 1) (by rw [hi]; decide)
  have hs := Same.up (A := A) (f := aRd r) hlt (fun _ => ⟨rfl, rfl, rfl⟩)
  have hat : ∀ k, aAt (upA A (x.n - 1) (aRd r)) k = if k = x.n - 1 then aRd r (aAt A (x.n - 1)) else aAt A k := fun k => upA_at hlt
  have hn : ∀ y : TM, (if y.n = x.n then setRd st (kpL x.reads r) y else y).n = y.n := fun y => by split <;> rfl
  have hfind : ∀ z ∈ cur, ∃ y ∈ txs, coreT z = coreT (if y.n = x.n then setRd st (kpL x.reads r) y else y) := fun z hz => by
    obtain ⟨y, hy, e⟩ := core_mem hI.core hz
    obtain ⟨y', hy', rfl⟩ := mem_set hy
    exact ⟨y', hy', e⟩
  have hback : ∀ y ∈ txs, ∃ z ∈ cur, coreT z = coreT (if y.n = x.n then setRd st (kpL x.reads r) y else y) := fun y hy => core_find hI.core (set_mem hy)
  have hgo : ∀ k j, Gone A txs k → edA (upA A (x.n - 1) (aRd r)) k j = edA A k j ∧ edA (upA A (x.n - 1) (aRd r)) j k = edA A j k := fun k j hg => by
    have hk : k ≠ x.n - 1 := fun e => by rw [e] at hg; have := hg.1; rw [hi] at this; cases this
    refine ⟨ed_rd_ne hlt hk, ?_⟩
    by_cases hj : j = x.n - 1
    · subst hj
      rw [(gone_off h.toSimW hok hs hg hi).2, (gone_off h.toSimW hok ⟨rfl, fun _ => rfl, fun _ => rfl, fun _ => rfl⟩ hg hi).2]
    · exact ed_rd_ne hlt hj
  have hup := h.toSimW.up (B := upA A (x.n - 1) (aRd r)) (cur := cur) hok hs hi (fun j hj => by rw [hat, if_neg hj]) ?_ ?_ ?_ hgo
  · refine ⟨⟨hup.1, fun z hz => ?_⟩, fun k hg => np_gone hok ((hup.2 k).1 hg).1 fun j => hgo k j ((hup.2 k).1 hg), ?_⟩
    · obtain ⟨y, hy, e⟩ := hfind z hz
      rw [hs.cnt, core_n e, hn]; exact h.cnt y hy
    · obtain ⟨z, hz, e⟩ := hback x hx
      rw [if_pos rfl] at e
      exact ⟨z, hz, (core_n e).trans rfl, (core_done e).trans hd⟩
  · intro z hz
    obtain ⟨y, hy, e⟩ := hfind z hz
    refine ⟨y, hy, (core_n e).trans (hn y), (core_wi e).trans ?_, (core_wo e).trans ?_, ?_⟩
    · split <;> rfl
    · split <;> rfl
    · rw [core_abs e, hat]
      by_cases hy' : y.n = x.n
      · have := n_inj hW hy hx hy'
        subst this
        rw [if_pos rfl, if_pos rfl, h.f y hy]; rfl
      · rw [if_neg (fun e' => hy' (h.toSimW.inj hy hx e')), if_neg hy', h.f y hy]
  · intro y hy
    obtain ⟨z, hz, e⟩ := hback y hy
    exact ⟨z, hz, (core_n e).trans (hn y)⟩
  · intro a ha b hb
    rw [hI.ed, edP_set (g := setRd st (kpL x.reads r)) hW (fun z => ⟨rfl, rfl⟩), h.ed a ha b hb]
    unfold pR
    by_cases hax : a.n = x.n
    · have := n_inj hW ha hx hax
      subst this
      rw [decide_eq_true rfl, Bool.true_and]
      have hcon : ks.contains b.n = othM a b := by
        have := hks _ (set_mem (k := a.n) (f := setRd st (kpL a.reads r)) hb)
        rw [hn] at this
        have e2 : othM a (if b.n = a.n then setRd st (kpL a.reads r) b else b) = othM a b := by split <;> rfl
        rw [e2] at this
        rw [Bool.eq_iff_iff, this]; simp
      have hoff := oth_off h.toSimW hok ha hb hd
      rw [hcon]
      unfold edA
      rw [hs.off, hoff]
      cases ho : othM a b with
      | false => simp
      | true =>
        simp only [Bool.not_true, Bool.false_eq_true, if_false, Bool.true_and]
        have hne : b.n ≠ a.n := fun e => by
          unfold othM at ho
          rw [e] at ho
          simp at ho
        have h1 := hitR_mem hW1 (set_mem (k := a.n) (f := setRd st (kpL a.reads r)) hb) (kpR a.reads r)
        rw [hn, if_neg hne] at h1
        rw [h1, hat, if_pos rfl, hat, if_neg (fun e' => hne (h.toSimW.inj hb ha e')), hit_rd, h.f b hb, h.f a ha]
        show _ = (_ || (b.writes.map WrA.abs).any (mtW (kpR a.reads r)))
        rw [List.any_map]
        congr 2
        funext w
        exact mtA_abs _ w
    · rw [decide_eq_false hax, Bool.false_and, Bool.or_false, ed_rd_ne hlt (fun e' => hax (h.toSimW.inj ha hx e'))]
theorem read_sim (h : Sim A txs) (hW : Wf cl txs) (hok : AOk A sp) {k : Int} {r : Rd} {z : List TM × Int} (hz : RdZ cl txs k r z) : Sim (readA A k r).1 z.1 ∧ Wf cl z.1 ∧ z.2 = (readA A k r).2 := by
  unfold RdZ at hz
  unfold readA
  rw [← live_iff h.toSimW hW]
  cases hl : liveM k txs with
  | none =>
    rw [hl] at hz
    have hz' : z = (txs, 41) := hz
    subst hz'
    exact ⟨h, hW, rfl⟩
  | some x =>
    rw [hl] at hz
    obtain ⟨st, ks, cur, hG, hI, hks, rfl⟩ := (hz : ∃ (st : Option (Nat × List Value) × Nat) (ks : List Nat) (cur : List TM), _)
    obtain ⟨hx, hk, hd⟩ := live_some hl
    have hlt := live_lt h.toSimW hl
    obtain ⟨h1, h2, q, hq, hqn, hqd⟩ := read_up h hW hok hx hd hI hks (hW.rd hx hG)
    have hs1 : ∀ i, (aAt (upA A (x.n - 1) (aRd r)) i).s = 1 ∨ (aAt (upA A (x.n - 1) (aRd r)) i).s = 2 ∨ (aAt (upA A (x.n - 1) (aRd r)) i).s = 3 := fun i => by
      rw [(Same.up (A := A) (f := aRd r) (by have := h.rng x hx; omega) (fun _ => ⟨rfl, rfl, rfl⟩)).s]; exact hok.s i
    have hlc := live_cur hl hI.wf hq hqn hqd
    simp only [Option.isSome_some, if_true]
    rw [hlt, ← h1.kept hI.wf]
    split
    · obtain ⟨h3, h4⟩ := abM_sim h1.toSimW hI.wf hlc
      rw [hlt] at h3
      exact ⟨h3, h4, rfl⟩
    · have := jg_sim h1 hI.wf hs1 h2 hlc
      rw [hlt] at this
      exact this
theorem cpy_abs {w v : WrA} (h : Cpy w v) : v.abs = w.abs := by
  obtain ⟨h1, h2, h3, h4, h5⟩ := h
  unfold WrA.abs rvO
  rw [h1, h2, h3, h4, h5]
theorem write_up (h : Sim A txs) (hW : Wf cl txs) (hok : AOk A sp) {x : TM} (hx : x ∈ txs) (hd : x.done = 0) {w : WrA} {st : Option (Nat × List Value) × Nat} {ks : List Nat}
    (hI : IE cl (setTx x.n (setWr st (x.writes ++ [w])) txs) (pW x.n w (setTx x.n (setWr st (x.writes ++ [w])) txs)) ks cur)
    (hks : ∀ y ∈ setTx x.n (setWr st (x.writes ++ [w])) txs, othM x y = true ↔ y.n ∈ ks) (hW1 : Wf cl (setTx x.n (setWr st (x.writes ++ [w])) txs)) :
    Sim (upA A (x.n - 1) (aWr w.abs)) cur ∧ (∀ k, Gone (upA A (x.n - 1) (aWr w.abs)) cur k → pvA (upA A (x.n - 1) (aWr w.abs)) k = false) ∧ ∃ z ∈ cur, z.n = x.n ∧ z.done = 0 := by
  have hi := h.toSimW.s1 hx hd
  have hlt := aAt_lt (A := A) (i := x.n - 1) (by rw [hi]; decide)
  have hs := Same.up (A := A) (f := aWr w.abs) hlt (fun _ => ⟨rfl, rfl, rfl⟩)
  have hat : ∀ k, aAt (upA A (x.n - 1) (aWr w.abs)) k = if k = x.n - 1 then aWr w.abs (aAt A (x.n - 1)) else aAt A k := fun k => upA_at hlt
  have hn : ∀ y : TM, (if y.n = x.n then setWr st (x.writes ++ [w]) y else y).n = y.n := fun y => by split <;> rfl
  have hfind : ∀ z ∈ cur, ∃ y ∈ txs, coreT z = coreT (if y.n = x.n then setWr st (x.writes ++ [w]) y else y) := fun z hz => by
    obtain ⟨y, hy, e⟩ := core_mem hI.core hz
    obtain ⟨y', hy', rfl⟩ := mem_set hy
    exact ⟨y', hy', e⟩
  have hback : ∀ y ∈ txs, ∃ z ∈ cur, coreT z = coreT (if y.n = x.n then setWr st (x.writes ++ [w]) y else y) := fun y hy => core_find hI.core (set_mem hy)
  have hgo : ∀ k j, Gone A txs k → edA (upA A (x.n - 1) (aWr w.abs)) k j = edA A k j ∧ edA (upA A (x.n - 1) (aWr w.abs)) j k = edA A j k := fun k j hg => by
    have hk : k ≠ x.n - 1 := fun e => by rw [e] at hg; have := hg.1; rw [hi] at this; cases this
    refine ⟨?_, ed_wr_ne hlt hk⟩
    by_cases hj : j = x.n - 1
    · subst hj
      rw [(gone_off h.toSimW hok hs hg hi).1, (gone_off h.toSimW hok ⟨rfl, fun _ => rfl, fun _ => rfl, fun _ => rfl⟩ hg hi).1]
    · exact ed_wr_ne hlt hj
  have hup := h.toSimW.up (B := upA A (x.n - 1) (aWr w.abs)) (cur := cur) hok hs hi (fun j hj => by rw [hat, if_neg hj]) ?_ ?_ ?_ hgo
  · refine ⟨⟨hup.1, fun z hz => ?_⟩, fun k hg => np_gone hok ((hup.2 k).1 hg).1 fun j => hgo k j ((hup.2 k).1 hg), ?_⟩
    · obtain ⟨y, hy, e⟩ := hfind z hz
      rw [hs.cnt, core_n e, hn]; exact h.cnt y hy
    · obtain ⟨z, hz, e⟩ := hback x hx
      rw [if_pos rfl] at e
      exact ⟨z, hz, (core_n e).trans rfl, (core_done e).trans hd⟩
  · intro z hz
    obtain ⟨y, hy, e⟩ := hfind z hz
    refine ⟨y, hy, (core_n e).trans (hn y), (core_wi e).trans ?_, (core_wo e).trans ?_, ?_⟩
    · split <;> rfl
    · split <;> rfl
    · rw [core_abs e, hat]
      by_cases hy' : y.n = x.n
      · have := n_inj hW hy hx hy'
        subst this
        rw [if_pos rfl, if_pos rfl, h.f y hy]
        show AT.mk _ _ _ _ (y.writes.map WrA.abs ++ [w.abs]) = AT.mk _ _ _ _ ((y.writes ++ [w]).map WrA.abs)
        rw [List.map_append]; rfl
      · rw [if_neg (fun e' => hy' (h.toSimW.inj hy hx e')), if_neg hy', h.f y hy]
  · intro y hy
    obtain ⟨z, hz, e⟩ := hback y hy
    exact ⟨z, hz, (core_n e).trans (hn y)⟩
  · intro a ha b hb
    rw [hI.ed, edP_set (g := setWr st (x.writes ++ [w])) hW (fun z => ⟨rfl, rfl⟩), h.ed a ha b hb]
    unfold pW
    by_cases hbx : b.n = x.n
    · have := n_inj hW hb hx hbx
      subst this
      rw [decide_eq_true rfl, Bool.true_and]
      have hcon : ks.contains a.n = othM b a := by
        have := hks _ (set_mem (k := b.n) (f := setWr st (b.writes ++ [w])) ha)
        rw [hn] at this
        have e2 : othM b (if a.n = b.n then setWr st (b.writes ++ [w]) a else a) = othM b a := by split <;> rfl
        rw [e2] at this
        rw [Bool.eq_iff_iff, this]; simp
      have hoff := oth_off h.toSimW hok hb ha hd
      have hcomm : offT (a.n - 1) (b.n - 1) (aAt A (a.n - 1)) (aAt A (b.n - 1)) = offT (b.n - 1) (a.n - 1) (aAt A (b.n - 1)) (aAt A (a.n - 1)) := by
        unfold offT
        have e1 : ((a.n - 1) == (b.n - 1)) = ((b.n - 1) == (a.n - 1)) := by rw [Bool.eq_iff_iff, beq_iff_eq, beq_iff_eq]; exact eq_comm
        rw [e1]
        generalize ((b.n - 1) == (a.n - 1)) = p1
        generalize ((aAt A (a.n - 1)).s == 3) = p2
        generalize ((aAt A (b.n - 1)).s == 3) = p3
        generalize aheadA (aAt A (a.n - 1)) (aAt A (b.n - 1)) = p4
        generalize aheadA (aAt A (b.n - 1)) (aAt A (a.n - 1)) = p5
        cases p1 <;> cases p2 <;> cases p3 <;> cases p4 <;> cases p5 <;> rfl
      rw [hcon]
      unfold edA
      rw [hs.off, hcomm, hoff]
      cases ho : othM b a with
      | false => simp
      | true =>
        simp only [Bool.not_true, Bool.false_eq_true, if_false, Bool.true_and]
        have hne : a.n ≠ b.n := fun e => by
          unfold othM at ho
          rw [e] at ho
          simp at ho
        have h1 := hitW_mem hW1 (set_mem (k := b.n) (f := setWr st (b.writes ++ [w])) ha) w
        rw [hn, if_neg hne] at h1
        rw [h1, hat, if_neg (fun e' => hne (h.toSimW.inj ha hb e')), hat, if_pos rfl, hit_wr, h.f b hb, h.f a ha]
        congr 2
        funext r
        exact mtA_abs r w
    · rw [decide_eq_false hbx, Bool.false_and, Bool.or_false, ed_wr_ne hlt (fun e' => hbx (h.toSimW.inj hb hx e'))]
theorem write_sim (h : Sim A txs) (hW : Wf cl txs) (hok : AOk A sp) {k : Int} {w : WrA} {z : List TM × Int × WrA} (hz : WrZ cl txs k w z) : Sim (writeA A k w.abs).1 z.1 ∧ Wf cl z.1 ∧ z.2.1 = (writeA A k w.abs).2 := by
  unfold WrZ at hz
  unfold writeA
  rw [← live_iff h.toSimW hW]
  cases hl : liveM k txs with
  | none =>
    rw [hl] at hz
    obtain ⟨h1, h2⟩ := (hz : z.1 = txs ∧ z.2.1 = 41)
    rw [h1, h2]
    exact ⟨h, hW, rfl⟩
  | some x =>
    rw [hl] at hz
    obtain ⟨st, ks, cur, hcp, hG, hI, hks, e1, e2⟩ := (hz : ∃ (st : Option (Nat × List Value) × Nat) (ks : List Nat) (cur : List TM), _)
    obtain ⟨hx, hk, hd⟩ := live_some hl
    have hlt := live_lt h.toSimW hl
    obtain ⟨h1, h2, q, hq, hqn, hqd⟩ := write_up h hW hok hx hd hI hks (hW.wr hG)
    have hs1 : ∀ i, (aAt (upA A (x.n - 1) (aWr z.2.2.abs)) i).s = 1 ∨ (aAt (upA A (x.n - 1) (aWr z.2.2.abs)) i).s = 2 ∨ (aAt (upA A (x.n - 1) (aWr z.2.2.abs)) i).s = 3 := fun i => by
      rw [(Same.up (A := A) (f := aWr z.2.2.abs) (by have := h.rng x hx; omega) (fun _ => ⟨rfl, rfl, rfl⟩)).s]; exact hok.s i
    have hlc := live_cur hl hI.wf hq hqn hqd
    simp only [Option.isSome_some, if_true]
    have := jg_sim h1 hI.wf hs1 h2 hlc
    rw [cpy_abs hcp] at this
    rw [e1, e2, hlt]
    rw [hlt] at this
    exact this
end
end Go.Si
namespace Go.Si
open Go Go.Vc Go.Vl Go.Proofs.Ytggmifnkgcladaa
section
variable {A B : List AT} {n sp : Nat}
def NoE (A : List AT) : Prop := ∀ i k, edA A i k = false
def NoW (A : List AT) : Prop := ∀ i, (aAt A i).writes = []
def NoR (A : List AT) : Prop := ∀ i, (aAt A i).reads = []
def ActA (A : List AT) (m : Nat) : Prop := A.length = m ∧ ∀ i, i < m → (aAt A i).s = 1
end
structure Bd (A : List AT) (m n : Nat) : Prop where
  len : A.length ≤ m
  r : ∀ i, (aAt A i).reads.length ≤ n
  w : ∀ i, (aAt A i).writes.length ≤ n
theorem Bd.nil : Bd [] 0 0 := by
  have h : ∀ i, aAt [] i = a0 := fun i => aAt_out (Nat.zero_le _)
  exact ⟨Nat.le_refl _, fun i => by rw [h]; exact Nat.le_refl _, fun i => by rw [h]; exact Nat.le_refl _⟩
theorem Bd.mono {A : List AT} {m n m' n' : Nat} (h : Bd A m n) (h1 : m ≤ m') (h2 : n ≤ n') : Bd A m' n' := ⟨Nat.le_trans h.len h1, fun i => Nat.le_trans (h.r i) h2, fun i => Nat.le_trans (h.w i) h2⟩
theorem Bd.up {A : List AT} {m n n' : Nat} (h : Bd A m n) (hn : n ≤ n') {i : Nat} {f : AT → AT} (hr : (f (aAt A i)).reads.length ≤ n') (hw : (f (aAt A i)).writes.length ≤ n') : Bd (upA A i f) m n' := by
  rcases Nat.lt_or_ge i A.length with hi | hi
  · refine ⟨by rw [upA_len]; exact h.len, fun j => ?_, fun j => ?_⟩
    · rw [upA_at hi]; split
      · exact hr
      · exact Nat.le_trans (h.r j) hn
    · rw [upA_at hi]; split
      · exact hw
      · exact Nat.le_trans (h.w j) hn
  · have : upA A i f = A := List.set_eq_of_length_le hi
    rw [this]; exact h.mono (Nat.le_refl _) hn
theorem Bd.ab {A : List AT} {m n : Nat} (h : Bd A m n) (i : Nat) : Bd (abA A i) m n := h.up (Nat.le_refl _) (h.r i) (h.w i)
theorem Bd.jg {A : List AT} {m n : Nat} (h : Bd A m n) (i : Nat) : Bd (jgA A i).1 m n := by
  unfold jgA; split
  · exact h.ab i
  · exact h
theorem Bd.read {A : List AT} {m n : Nat} (h : Bd A m n) (k : Int) (r : Rd) : Bd (readA A k r).1 m (n + 1) := by
  unfold readA
  split
  · have h1 : Bd (upA A (k - 1).toNat (aRd r)) m (n + 1) := h.up (Nat.le_succ n) (by have := kpL_len (aAt A (k - 1).toNat).reads r; have := h.r (k - 1).toNat; show (kpL _ _).length ≤ _; omega) (Nat.le_succ_of_le (h.w _))
    split
    · exact h1.ab _
    · exact h1.jg _
  · exact h.mono (Nat.le_refl _) (Nat.le_succ n)
theorem Bd.write {A : List AT} {m n : Nat} (h : Bd A m n) (k : Int) (w : Wr) : Bd (writeA A k w).1 m (n + 1) := by
  unfold writeA
  split
  · have h1 : Bd (upA A (k - 1).toNat (aWr w)) m (n + 1) := h.up (Nat.le_succ n) (Nat.le_succ_of_le (h.r _)) (by show (_ ++ [w]).length ≤ _; rw [List.length_append]; have := h.w (k - 1).toNat; simp only [List.length_cons, List.length_nil]; omega)
    exact h1.jg _
  · exact h.mono (Nat.le_refl _) (Nat.le_succ n)
theorem Bd.commit {A : List AT} {m n : Nat} (h : Bd A m n) (sp : Nat) (k : Int) : Bd (commitA A sp k).1 m n := by
  unfold commitA
  split
  · split
    · exact h.ab _
    · exact h.up (Nat.le_refl _) (h.r _) (h.w _)
  · exact h
theorem Bd.abort {A : List AT} {m n : Nat} (h : Bd A m n) (k : Int) : Bd (abortA A k).1 m n := by
  unfold abortA
  split
  · exact h.ab _
  · exact h
theorem Bd.begin {A : List AT} {m n : Nat} (h : Bd A m n) (sp : Nat) : Bd (beginA A sp) (m + 1) n := by
  refine ⟨by unfold beginA; rw [List.length_append]; exact Nat.succ_le_succ h.len, fun i => ?_, fun i => ?_⟩
  · show (aAt (A ++ [aNew (sp + 1)]) i).reads.length ≤ n
    rw [aAt_snoc]; split
    · exact Nat.zero_le _
    · exact h.r i
  · show (aAt (A ++ [aNew (sp + 1)]) i).writes.length ≤ n
    rw [aAt_snoc]; split
    · exact Nat.zero_le _
    · exact h.w i
theorem sum_le {f : Nat → Nat} {n : Nat} (h : ∀ i, f i ≤ n) : ∀ l : List Nat, (l.map f).sum ≤ l.length * n
  | [] => Nat.zero_le _
  | i :: l => by
    rw [List.map_cons, List.sum_cons, List.length_cons, Nat.succ_mul]
    have := sum_le h l
    have := h i
    omega
theorem kept_le {A : List AT} {m n : Nat} (h : Bd A m n) : keptA A ≤ m * n := by
  unfold keptA
  refine Nat.le_trans (sum_le (n := n) (fun i => ?_) _) ?_
  · split
    · exact h.r i
    · exact Nat.zero_le _
  · rw [List.length_range]
    exact Nat.mul_le_mul_right n h.len
structure RdI (A : List AT) (wr : Bool) (i : Nat) : Prop where
  act : ActA A 6
  no : if wr then NoR A else NoW A
  kp : keptA A ≤ i
  bd : Bd A 6 i
structure CmI (A : List AT) (m t : Nat) : Prop where
  len : A.length = m
  c : ∀ i, i < t → (aAt A i).s = 2
  a : ∀ i, t ≤ i → i < m → (aAt A i).s = 1
  no : NoE A
end Go.Si
set_option maxRecDepth 20000
namespace Go.Proofs.Ytggmifnkgcladaa
open Go Go.Vc
open Go.Vl Go.Si
theorem c_slices_Clone_sl_api_Value_api_ValueF (s : RV) (hl : s.row.length ≤ 1048576) : CallL Try.prog f_slices_Clone_sl_api_Value_api_Value [] [s.ok] [.is s.v] (fun _ : Unit => True) (fun _ => []) (fun _ => .rep (ClR s.a.isSome s.row)) :=
CallL.of (fn := Try.f40) Try.func40 (n := 8) rfl rfl rfl (fun _ _ => by kernel_rfl) fun E W hb0 => by
  refine J.know (s.row.length = s.len ∧ (s.a = none → s.row = [])) (fun E w hG _ => by
    have h := hG s.ok List.mem_cons_self w (.refl _ _)
    refine ⟨h.2.1, fun hn => ?_⟩
    by_cases h0 : s.len = 0
    · exact List.eq_nil_of_length_eq_zero (h.2.1.trans h0)
    · obtain ⟨b, o, e, _⟩ := h.2.2 h0
      rw [hn] at e; cases e) (fun hkn => ?_)
  obtain ⟨hlen, hnil⟩ := hkn
  obtain ⟨row, a, len, cap⟩ := s
  try dsimp only at hlen hnil hl
  subst hlen
  repeat refine J.seq ?_
  refine J.plain ?_
  refine JO.t (ob_assign rfl) rfl ?_
  refine JO.nil ?_
  repeat (first | refine JX.next ?_ | refine JX.normal_block ?_)
  refine J.sel [0] (.cons rfl .nil) ?_
  repeat refine J.seq ?_
  refine J.plain ?_
  refine JO.t (ob_move rfl) rfl ?_
  refine JO.t (ob_nilS un_sl_api_Value rfl rfl) rfl ?_
  refine JO.nil ?_
  repeat (first | refine JX.next ?_ | refine JX.normal_block ?_)
  refine J.sel [0, 4] (.cons rfl (.cons rfl .nil)) ?_
  repeat refine J.seq ?_
  refine J.cond rfl (fun ht4 => ?_) (fun ht4 => ?_)
  ·
    try simp only [decide_eq_true_eq, decide_eq_false_iff_not] at ht4
    repeat refine J.seq ?_
    refine J.plain ?_
    refine JO.t (ob_assign rfl) rfl ?_
    refine JO.nil ?_
    repeat (first | refine JX.next ?_ | refine JX.normal_block ?_)
    refine J.sel [2] (.cons rfl .nil) ?_
    repeat refine J.seq ?_
    refine J.ret ?_
    repeat (first | refine JX.ret_pass ?_ | refine JX.ret_block ?_)
    have hn : a = none := by simpa using ht4
    have hr := hnil hn
    subst hn
    subst hr
    exact JX.retL1 (Lr := []) (L1 := fun _ : Unit => []) (R := fun _ => .rep (ClR false [])) rfl () trivial (.refl _) rfl rfl hb0 rfl Sub.clN
  ·
    try simp only [decide_eq_true_eq, decide_eq_false_iff_not] at ht4
    refine J.skip ?_
    repeat (first | refine JX.next ?_ | refine JX.normal_block ?_)
    refine J.fact (RowG V3.cells 3 row a row.length) (fun E w hG _ w1 hk => (hG _ List.mem_cons_self w1 hk).2) ?_
    repeat refine J.seq ?_
    refine J.plain ?_
    refine JO.buildOwn0 sl_sl_api_Value rfl (fun b5 => ?_)
    refine JO.t (ob_move rfl) rfl ?_
    refine JO.apSL (row) ap_sl_api_Value .here (xs := []) (en := V3.cells) ⟨rfl, Nat.le_refl _, rfl⟩ rfl rfl (src_slF (a := a) (len := row.length) v3_len (by decide) v3_one un_sl_api_Value (by repeat (first | exact List.mem_cons_self | apply List.mem_cons_of_mem))) (by simp; omega) (by simp; omega) rfl (fun p1 cp1 hG1 => ?_)
    try dsimp only
    rw [List.nil_append] at hG1 ⊢
    refine JO.t (ob_assign rfl) rfl ?_
    refine JO.nil ?_
    repeat (first | refine JX.next ?_ | refine JX.normal_block ?_)
    refine J.sel [2] (.cons rfl .nil) ?_
    repeat refine J.seq ?_
    refine J.freezeOM (L' := []) v3_len hG1 (e := ty_api_Value) .here (fun q h => by cases h) rfl rfl ?_
    refine J.ret ?_
    repeat (first | refine JX.ret_pass ?_ | refine JX.ret_block ?_)
    obtain ⟨q, rfl⟩ : ∃ q, a = some q := by
      cases a with
      | none => cases ht4
      | some q => exact ⟨q, rfl⟩
    exact JX.retL1 (Lr := []) (L1 := fun _ : Unit => []) (R := fun _ => .rep (ClR true row)) rfl () trivial (.refl _) rfl rfl hb0 rfl (Sub.clR hG1 (by repeat (first | exact List.mem_cons_self | apply List.mem_cons_of_mem)))
end Go.Proofs.Ytggmifnkgcladaa
namespace Go.Proofs.Ytggmifnkgcladaa
open Go Go.Vc Go.Si Go.Vl
structure SS where
  nx : Nat
  sp : Nat
  cl : Nat
  txs : List TM
def SS.L (q : SS) (b ba : Nat) : List Own := SL b ba q.nx q.sp q.cl q.txs
structure SRel (q : SS) (A : List AT) (n : Nat) (U : List WrA) : Prop where
  wf : Wf q.cl q.txs
  sim : Sim A q.txs
  nx : q.nx = A.length
  sp : q.sp = n
  ok : AOk A n
  us : ∀ y ∈ q.txs, ∀ w ∈ y.writes, w ∈ U
structure RS where
  sp : Nat
  st : Option (Nat × List Value)
  cap : Nat
  xs : List RX
def RS.L (q : RS) (b : Nat) : List Own := RL b q.sp q.st q.cap q.xs
structure RRl (q : RS) (A : List AT) (n : Nat) (U : List WrA) : Prop where
  sp : q.sp = n
  wf : RWf q.st q.cap q.xs
  ab : absL q.xs = A
  us : ∀ x ∈ q.xs, ∀ w ∈ x.writes, w ∈ U
structure Rm (A : List AT) : Prop where
  bd : Bd A 1048576 1048575
theorem _root_.Go.Si.Bd.rm {A : List AT} {m n : Nat} (h : Bd A m n) (h1 : m ≤ 1048576) (h2 : n ≤ 1048575) : Rm A := ⟨h.mono h1 h2⟩
theorem Rm.kept {A : List AT} (h : Rm A) : keptA A ≤ 1152921504606846976 := Nat.le_trans (kept_le h.bd) (by decide)
section
variable {q : SS} {A A' : List AT} {n : Nat} {e : Int} {U : List WrA}
theorem SRel.rd (h : SRel q A n U) {y : TM} (hy : y ∈ q.txs) : y.reads = (aAt A (y.n - 1)).reads := by rw [h.sim.f y hy]; rfl
theorem SRel.wr (h : SRel q A n U) {y : TM} (hy : y ∈ q.txs) : y.writes.length = (aAt A (y.n - 1)).writes.length := by rw [h.sim.f y hy]; exact (List.length_map _).symm
theorem SRel.wl (h : SRel q A n U) (hR : Rm A) {y : TM} (hy : y ∈ q.txs) : y.writes.length < 1048576 := by
  rw [h.wr hy]; exact Nat.lt_succ_of_le (hR.bd.w _)
theorem SRel.rl (h : SRel q A n U) (hR : Rm A) {y : TM} (hy : y ∈ q.txs) : y.reads.length < 1048576 := by
  rw [h.rd hy]; exact Nat.lt_succ_of_le (hR.bd.r _)
theorem us_fg {txs : List TM} {U : List WrA} (h : ∀ y ∈ txs, ∀ w ∈ y.writes, w ∈ U) (b : Bool) (D : List Nat) : ∀ y ∈ fgM b D txs, ∀ w ∈ y.writes, w ∈ U := fun z hz => by
  obtain ⟨k, hk, _, rfl⟩ := fg_mem hz
  exact h k hk
theorem us_ab {txs : List TM} {U : List WrA} (h : ∀ y ∈ txs, ∀ w ∈ y.writes, w ∈ U) (k : Int) : ∀ y ∈ abM k txs, ∀ w ∈ y.writes, w ∈ U := by
  unfold abM
  split
  · exact h
  · exact us_fg (us_fg h _ _) _ _
theorem us_jg {txs : List TM} {U : List WrA} (h : ∀ y ∈ txs, ∀ w ∈ y.writes, w ∈ U) (k : Int) : ∀ y ∈ jgT k txs, ∀ w ∈ y.writes, w ∈ U := by
  unfold jgT
  split
  · exact us_ab h k
  · exact h
theorem us_cm {txs : List TM} {U : List WrA} (h : ∀ y ∈ txs, ∀ w ∈ y.writes, w ∈ U) (k : Int) (sp : Nat) : ∀ y ∈ (cmZ k sp txs).2.1, ∀ w ∈ y.writes, w ∈ U := by
  unfold cmZ
  split
  · exact h
  · split
    · exact us_ab h k
    · refine us_fg (fun y hy => ?_) _ _
      obtain ⟨z, hz, rfl⟩ := mem_set hy
      split
      · exact h z hz
      · exact h z hz
theorem us_core {txs cur : List TM} {U : List WrA} (hc : cur.map coreT = txs.map coreT) (h : ∀ y ∈ txs, ∀ w ∈ y.writes, w ∈ U) : ∀ y ∈ cur, ∀ w ∈ y.writes, w ∈ U := fun y hy => by
  obtain ⟨z, hz, e⟩ := core_mem hc hy
  rw [core_writes e]; exact h z hz
theorem us_rd {cl : Nat} {txs : List TM} {k : Int} {r : Rd} {z : List TM × Int} (h : ∀ y ∈ txs, ∀ w ∈ y.writes, w ∈ U) (hz : RdZ cl txs k r z) : ∀ y ∈ z.1, ∀ w ∈ y.writes, w ∈ U := by
  unfold RdZ at hz
  split at hz
  · subst hz; exact h
  · obtain ⟨st, ks, cur, _, hI, _, rfl⟩ := hz
    have h1 := us_core (U := U) hI.core (fun y hy => by
      obtain ⟨z, hz, rfl⟩ := mem_set hy
      split
      · exact h z hz
      · exact h z hz)
    split
    · exact us_ab h1 _
    · exact us_jg h1 _
theorem us_wr {cl : Nat} {txs : List TM} {k : Int} {w : WrA} {z : List TM × Int × WrA} (h : ∀ y ∈ txs, ∀ w ∈ y.writes, w ∈ U) (hz : WrZ cl txs k w z) : ∀ y ∈ z.1, ∀ w ∈ y.writes, w ∈ z.2.2 :: U := by
  unfold WrZ at hz
  split at hz
  · rw [hz.1]; exact fun y hy w hw => List.mem_cons_of_mem _ (h y hy w hw)
  · rename_i x hl
    obtain ⟨st, ks, cur, _, _, hI, _, e, _⟩ := hz
    have hx := (live_some hl).1
    rw [e]
    refine us_jg (us_core (U := z.2.2 :: U) hI.core (fun y hy => ?_)) _
    obtain ⟨v, hv, rfl⟩ := mem_set hy
    split
    · show ∀ u ∈ x.writes ++ [z.2.2], u ∈ z.2.2 :: U
      intro u hu
      rcases List.mem_append.1 hu with hu | hu
      · exact List.mem_cons_of_mem _ (h x hx u hu)
      · rw [List.mem_singleton.1 hu]; exact List.mem_cons_self
    · exact fun u hu => List.mem_cons_of_mem _ (h v hv u hu)
variable {b ba : Nat}
theorem k_New : CallL Try.prog f_ssi_New [] [] [] (fun _ : Nat × Nat => True) (fun z => (SS.mk 0 0 0 []).L z.1 z.2) (fun z => .is (.pointer (some ⟨z.1, 0, none⟩))) := c_ssi_New
theorem SRel.new : SRel ⟨0, 0, 0, []⟩ [] 0 [] :=
  ⟨⟨List.nodup_nil, List.nodup_nil, fun _ h => (by cases h), fun _ h => (by cases h), fun _ h => (by cases h), fun _ h => (by cases h), fun _ h => (by cases h), fun _ h => (by cases h), fun _ h => (by cases h), fun _ h => (by cases h)⟩,
   ⟨⟨fun _ h => (by cases h), fun _ h => (by cases h), fun i h => (by
      rcases cntA_iff.1 h with h | h
      · rw [aAt_out (Nat.zero_le _)] at h; cases h
      · have := h.1; rw [aAt_out (Nat.zero_le _)] at this; cases this), fun _ h => (by cases h), fun _ h => (by cases h), fun _ h => (by cases h)⟩, fun _ h => (by cases h)⟩, rfl, rfl, AOk.nil, fun _ h => (by cases h)⟩
theorem k_Begin (h : SRel q A n U) (hR : Rm A) (hsp : n < 4611686018427387904) : CallL Try.prog f_p_ssi_Set_Begin (q.L b ba) [] [.is (.pointer (some ⟨b, 0, none⟩))] (fun z : SS => SRel z (beginA A n) (n + 1) U) (fun z => z.L b ba) (fun _ => .is (.int .i64 ((A.length + 1 : Nat) : Int))) := by
  have hlen := hR.bd.len
  have hs := h.sp
  have hc := c_p_ssi_Set_Begin b ba q.nx q.sp q.cl q.txs (fun y hy => by rw [h.nx]; exact (h.sim.rng y hy).2) (by rw [h.nx]; omega) (by omega)
  refine hc.map (fun z => ⟨q.nx + 1, q.sp + 1, q.cl + 1, q.txs ++ [beM q.nx q.sp q.cl z]⟩) (fun z _ => ⟨?_, ?_, ?_, ?_, h.ok.begin, ?_⟩) (fun _ _ => rfl) (fun _ _ => by rw [h.nx])
  · exact h.wf.begin (fun y hy => by rw [h.nx]; exact (h.sim.rng y hy).2) z
  · rw [h.nx, hs]; exact begin_sim h.sim h.wf h.ok z
  · show q.nx + 1 = (A ++ [_]).length
    rw [List.length_append, h.nx]; rfl
  · show q.sp + 1 = n + 1
    rw [hs]
  · intro y hy
    rcases List.mem_append.1 hy with hy | hy
    · exact h.us y hy
    · rw [List.mem_singleton.1 hy]; exact fun w hw => (by cases hw)
theorem k_Read (h : SRel q A n U) (hR : Rm A) (k : Int) (r : Rd) (he : readA A k r = (A', e)) : CallL Try.prog f_p_ssi_Set_Read (q.L b ba) [WrF U] [.is (.pointer (some ⟨b, 0, none⟩)), .is (.int .i64 k), .is (rdA r)] (fun z : SS => SRel z A' n U) (fun z => z.L b ba) (fun _ => .is (.int .i64 e)) := by
  have he1 : A' = (readA A k r).1 := by rw [he]
  have he2 : e = (readA A k r).2 := by rw [he]
  rw [he1, he2]
  have hc := c_p_ssi_Set_Read b ba q.nx q.sp q.cl q.txs h.wf k r U h.us (fun y hy => by have := h.wl hR hy; omega) (fun y hy => h.rl hR hy) (by rw [h.sim.kept h.wf]; exact hR.kept)
  have hl : (readA A k r).1.length = A.length := by
    unfold readA jgA abA; (repeat' split) <;> simp only [upA_len]
  refine hc.map (fun z => ⟨q.nx, q.sp, q.cl, z.1⟩) (fun z hz => ⟨?_, ?_, ?_, h.sp, h.ok.read k r, ?_⟩) (fun _ _ => rfl) (fun z hz => ?_)
  · exact (read_sim h.sim h.wf h.ok hz).2.1
  · exact (read_sim h.sim h.wf h.ok hz).1
  · rw [hl]; exact h.nx
  · exact us_rd h.us hz
  · rw [(read_sim h.sim h.wf h.ok hz).2.2]
def WrR' (e : Int) (x : WrA) (v : Value) (w : World) : Prop := v = .int .i64 e ∧ WrF [x] w
theorem k_WriteG (h : SRel q A n U) (hR : Rm A) (k : Int) (w : WrA) (RR : List Own) (hRR : AllOb RR) (Φc : List (World → Prop)) (hco : CallL Try.prog f_slices_Clone_sl_api_Value_api_Value RR Φc [.is w.o.v] (fun _ : Unit => True) (fun _ => RR) (fun _ => .rep (ClR w.o.a.isSome w.o.row))) (hcn : CallL Try.prog f_slices_Clone_sl_api_Value_api_Value RR Φc [.is w.n.v] (fun _ : Unit => True) (fun _ => RR) (fun _ => .rep (ClR w.n.a.isSome w.n.row))) (he : writeA A k w.abs = (A', e)) :
    CallL Try.prog f_p_ssi_Set_Write (q.L b ba ++ RR) (WrF U :: Φc) [.is (.pointer (some ⟨b, 0, none⟩)), .is (.int .i64 k), .is (wrV w)] (fun z : SS × WrA => SRel z.1 A' n (z.2 :: U)) (fun z => z.1.L b ba ++ RR) (fun z => .rep (WrR' e z.2)) := by
  have he1 : A' = (writeA A k w.abs).1 := by rw [he]
  have he2 : e = (writeA A k w.abs).2 := by rw [he]
  rw [he1, he2]
  have hc := c_p_ssi_Set_WriteG b ba q.nx q.sp q.cl q.txs h.wf k w RR hRR Φc hco hcn U (fun y hy => h.wl hR hy) (fun y hy => by have := h.rl hR hy; omega)
  have hl : (writeA A k w.abs).1.length = A.length := by
    unfold writeA jgA abA; (repeat' split) <;> simp only [upA_len]
  refine hc.map (fun z => (⟨q.nx, q.sp, q.cl, z.1⟩, z.2.2)) (fun z hz => ⟨?_, ?_, ?_, h.sp, h.ok.write k _, ?_⟩) (fun _ _ => rfl) (fun z hz => ?_)
  · exact (write_sim h.sim h.wf h.ok hz).2.1
  · exact (write_sim h.sim h.wf h.ok hz).1
  · rw [hl]; exact h.nx
  · exact us_wr h.us hz
  · have := (write_sim h.sim h.wf h.ok hz).2.2
    show Ty.rep (WrR z) = Ty.rep (WrR' _ z.2.2)
    rw [← this]; rfl
theorem k_Write (h : SRel q A n U) (hR : Rm A) (k : Int) (t : ByteArray) (xo xn : List V3) (so sn : Option (Nat × List Value)) (co cn : Nat) (hGo : Grows V3.cells 3 xo so co) (hGn : Grows V3.cells 3 xn sn cn) (hwo : xo.length ≤ 1048576) (hwn : xn.length ≤ 1048576) (he : writeA A k (wG t xo xn so sn co cn).abs = (A', e)) :
    CallL Try.prog f_p_ssi_Set_Write (q.L b ba ++ (RW so ++ RW sn)) [WrF U] [.is (.pointer (some ⟨b, 0, none⟩)), .is (.int .i64 k), .is (wrV (wG t xo xn so sn co cn))] (fun z : SS × WrA => SRel z.1 A' n (z.2 :: U)) (fun z => z.1.L b ba ++ (RW so ++ RW sn)) (fun z => .rep (WrR' e z.2)) :=
  k_WriteG h hR k _ _ (app_ob RW_ob RW_ob) []
    (by
      show CallL _ _ _ _ _ _ _ (fun _ => .rep (ClR (adO so).isSome xo))
      rw [adO_some]
      exact (c_slices_Clone_sl_api_Value_api_Value so co xo hGo hwo).frame (F := RW sn) (.refl _) (fun _ _ => .refl _))
    (by
      show CallL _ _ _ _ _ _ _ (fun _ => .rep (ClR (adO sn).isSome xn))
      rw [adO_some]
      exact (c_slices_Clone_sl_api_Value_api_Value sn cn xn hGn hwn).frame (F := RW so) List.perm_append_comm (fun _ _ => List.perm_append_comm)) he
theorem k_WriteF {Us : List WrA} (h : SRel q A n U) (hR : Rm A) (k : Int) (w : WrA) (hw : w ∈ Us) (hwo : w.o.row.length ≤ 1048576) (hwn : w.n.row.length ≤ 1048576) (he : writeA A k w.abs = (A', e)) :
    CallL Try.prog f_p_ssi_Set_Write (q.L b ba) [WrF U, WrF Us] [.is (.pointer (some ⟨b, 0, none⟩)), .is (.int .i64 k), .is (wrV w)] (fun z : SS × WrA => SRel z.1 A' n (z.2 :: U)) (fun z => z.1.L b ba) (fun z => .rep (WrR' e z.2)) := by
  have hc := k_WriteG (b := b) (ba := ba) h hR k w [] (fun _ h => by cases h) [WrF Us] ((c_slices_Clone_sl_api_Value_api_ValueF w.o hwo).imp (fun E w' hG F hF => by rw [List.mem_singleton.1 hF]; exact fun w2 hk => (hG _ (List.mem_singleton_self _) w2 hk w hw).1)) ((c_slices_Clone_sl_api_Value_api_ValueF w.n hwn).imp (fun E w' hG F hF => by rw [List.mem_singleton.1 hF]; exact fun w2 hk => (hG _ (List.mem_singleton_self _) w2 hk w hw).2)) he
  rw [List.append_nil] at hc
  exact hc.map id (fun _ h => h) (fun z _ => List.append_nil _) (fun _ _ => rfl)
theorem k_Commit {n' : Nat} (h : SRel q A n U) (hsp : n < 4611686018427387904) (k : Int) (he : commitA A n k = (A', n', e)) : CallL Try.prog f_p_ssi_Set_Commit (q.L b ba) [] [.is (.pointer (some ⟨b, 0, none⟩)), .is (.int .i64 k)] (fun z : SS => SRel z A' n' U) (fun z => z.L b ba) (fun _ => .is (.int .i64 e)) := by
  have hs := h.sp
  subst hs
  have hc := c_p_ssi_Set_Commit b ba q.nx q.sp q.cl q.txs h.wf hsp k
  obtain ⟨h1, h2, h3, h4⟩ := commit_sim h.sim h.wf h.ok k
  have hl : (commitA A q.sp k).1.length = A.length := by
    unfold commitA abA; (repeat' split) <;> simp only [upA_len]
  have h5 := h.ok.commit k
  rw [he] at h1 h3 h4 h5 hl
  refine hc.map (fun _ => (⟨q.nx, (cmZ k q.sp q.txs).1, q.cl, (cmZ k q.sp q.txs).2.1⟩ : SS)) (fun z _ => ⟨h2, h1, ?_, h3, h5, us_cm h.us k _⟩) (fun _ _ => rfl) (fun z _ => by rw [h4])
  exact h.nx.trans hl.symm
theorem k_Abort (h : SRel q A n U) (k : Int) (he : abortA A k = (A', e)) : CallL Try.prog f_p_ssi_Set_Abort (q.L b ba) [] [.is (.pointer (some ⟨b, 0, none⟩)), .is (.int .i64 k)] (fun z : SS => SRel z A' n U) (fun z => z.L b ba) (fun _ => .is (.int .i64 e)) := by
  have hc := c_p_ssi_Set_Abort b ba q.nx q.sp q.cl q.txs h.wf k
  obtain ⟨h1, h2, h4⟩ := abort_sim h.sim h.wf k
  have hl : (abortA A k).1.length = A.length := by
    unfold abortA abA; (repeat' split) <;> simp only [upA_len]
  have h5 := h.ok.abort k
  rw [he] at h1 h4 h5 hl
  exact hc.map (fun _ => (⟨q.nx, q.sp, q.cl, abM k q.txs⟩ : SS)) (fun z _ => ⟨h2, h1, h.nx.trans hl.symm, h.sp, h5, us_ab h.us k⟩) (fun _ _ => rfl) (fun z _ => by rw [h4])
theorem k_Kept {m : Nat} (h : SRel q A n U) (hR : Rm A) (he : keptA A = m) : CallL Try.prog f_p_ssi_Set_Kept (q.L b ba) [] [.is (.pointer (some ⟨b, 0, none⟩))] (fun _ : Unit => True) (fun _ => q.L b ba) (fun _ => .is (.int .i64 (m : Nat))) := by
  have hk := h.sim.kept h.wf
  rw [← he, ← hk]
  exact c_p_ssi_Set_Kept b ba q.nx q.sp q.cl q.txs h.wf.st h.wf.lt h.wf.rs (by rw [hk]; have := hR.kept; omega)
theorem k_Pivot {p : Bool} (h : SRel q A n U) (k : Int) (he : pivA A k = p) : CallL Try.prog f_p_ssi_Set_Pivot (q.L b ba) [] [.is (.pointer (some ⟨b, 0, none⟩)), .is (.int .i64 k)] (fun _ : Unit => True) (fun _ => q.L b ba) (fun _ => .is (.bool p)) := by
  rw [← he, ← piv_sim h.sim h.wf h.ok]
  exact c_p_ssi_Set_Pivot b ba q.nx q.sp q.cl q.txs k
end
section
variable {q : RS} {A A' : List AT} {n : Nat} {e : Int} {U : List WrA} {b : Nat}
theorem RS.ob (q : RS) : AllOb (q.L b) := RL_ob
theorem RRl.at' (h : RRl q A n U) {x : RX} (hx : x ∈ q.xs) : ∃ i, x.reads = (aAt A i).reads ∧ x.writes.length = (aAt A i).writes.length := by
  obtain ⟨i, hi, rfl⟩ := List.getElem_of_mem hx
  refine ⟨i, ?_, ?_⟩
  all_goals
    have : aAt A i = (q.xs[i]).abs := by
      unfold aAt
      rw [← h.ab, List.getD_eq_getElem?_getD, List.getElem?_map, List.getElem?_eq_getElem hi]; rfl
    rw [this]
  · rfl
  · exact (List.length_map _).symm
theorem RRl.rl (h : RRl q A n U) (hR : Rm A) {x : RX} (hx : x ∈ q.xs) : x.reads.length < 1048576 := by
  obtain ⟨i, h1, _⟩ := h.at' hx
  rw [h1]; exact Nat.lt_succ_of_le (hR.bd.r _)
theorem RRl.wl (h : RRl q A n U) (hR : Rm A) {x : RX} (hx : x ∈ q.xs) : x.writes.length < 1048576 := by
  obtain ⟨i, _, h1⟩ := h.at' hx
  rw [h1]; exact Nat.lt_succ_of_le (hR.bd.w _)
theorem RRl.len (h : RRl q A n U) : q.xs.length = A.length := by rw [← h.ab]; exact (List.length_map _).symm
theorem RRl.ll (h : RRl q A n U) (hR : Rm A) : q.xs.length ≤ 1048576 := by rw [h.len]; exact hR.bd.len
theorem rus_set {xs : List RX} {i : Nat} {v : RX} (h : ∀ x ∈ xs, ∀ w ∈ x.writes, w ∈ U) (hv : ∀ w ∈ v.writes, w ∈ U) : ∀ x ∈ xs.set i v, ∀ w ∈ x.writes, w ∈ U := fun x hx => by
  rcases List.mem_or_eq_of_mem_set hx with hx | rfl
  · exact h x hx
  · exact hv
theorem RRl.new : RRl ⟨0, none, 0, []⟩ [] 0 U := ⟨rfl, ⟨rfl, fun _ h => (by cases h), fun _ h => (by cases h)⟩, rfl, fun _ h => (by cases h)⟩
theorem r_Begin (h : RRl q A n U) (hR : Rm A) (hsp : n ≤ 4611686018427387904) : CallL Try.prog f_p_ref20_Set_Begin (q.L b) [] [.is (.pointer (some ⟨b, 0, none⟩))] (fun z : RS => RRl z (beginA A n) (n + 1) U) (fun z => z.L b) (fun _ => .is (.int .i64 ((A.length + 1 : Nat) : Int))) := by
  have hs := h.sp
  have hc := c_p_ref20_Set_Begin b q.sp q.st q.cap q.xs h.wf.g (h.ll hR) (by omega)
  refine hc.map (fun z => ⟨q.sp + 1, z.1, z.2, q.xs ++ [rx0 (q.sp + 1)]⟩) (fun z hz => ⟨by show q.sp + 1 = _; rw [hs], h.wf.begin hz, ?_, ?_⟩) (fun _ _ => rfl) (fun _ _ => by rw [h.len])
  · rw [← h.ab, ← hs]; exact beL_abs _ _
  · intro x hx
    rcases List.mem_append.1 hx with hx | hx
    · exact h.us x hx
    · rw [List.mem_singleton.1 hx]; exact fun w hw => (by cases hw)
theorem r_Edge (h : RRl q A n U) (hR : Rm A) (i k : Int) (hi0 : 0 ≤ i) (hi1 : i < (A.length : Nat)) (hk0 : 0 ≤ k) (hk1 : k < (A.length : Nat)) : CallL Try.prog f_p_ref20_Set_Edge (q.L b) [WrF U] [.is (.pointer (some ⟨b, 0, none⟩)), .is (.int .i64 i), .is (.int .i64 k)] (fun _ : Unit => True) (fun _ => q.L b) (fun _ => .is (.bool (edA A i.toNat k.toNat))) := by
  have hl := h.len
  have hp := edR_abs (xs := q.xs) (i := i) (k := k) hi0 (by omega) hk0 (by omega)
  rw [h.ab] at hp
  rw [← hp]
  exact c_p_ref20_Set_Edge b q.sp q.st q.cap q.xs h.wf U h.us (fun x hx => by have := h.rl hR hx; omega) (fun x hx => by have := h.wl hR hx; omega) i k hi0 (by omega) hk0 (by omega)
end
end Go.Proofs.Ytggmifnkgcladaa
set_option maxRecDepth 20000
namespace Go.Proofs.Ytggmifnkgcladaa
open Go Go.Vc
open Go.Si Go.Vl
abbrev awR : Rd := ⟨⟨#[116]⟩, -1, ⟨0, 0, ⟨#[]⟩⟩, ⟨0, 0, ⟨#[]⟩⟩⟩
abbrev awW (n : Int) : Wr := ⟨⟨#[116]⟩, none, some [nmV n]⟩
def aw1 : List AT := beginA [] 0
def aw2 : List AT := beginA aw1 1
def aw3 : List AT := (readA aw2 1 awR).1
def aw4 : List AT := (readA aw3 2 awR).1
def aw5 : List AT := (writeA aw4 1 (awW 1)).1
def aw6 : List AT := (writeA aw5 2 (awW 2)).1
def aw7 : List AT := (commitA aw6 2 1).1
def aw8 : List AT := (commitA aw7 2 2).1
theorem aw_e3 : readA aw2 1 awR = (aw3, 0) := Prod.ext rfl (by decide +kernel)
theorem aw_e4 : readA aw3 2 awR = (aw4, 0) := Prod.ext rfl (by decide +kernel)
theorem aw_e5 : writeA aw4 1 (awW 1) = (aw5, 0) := Prod.ext rfl (by decide +kernel)
theorem aw_e6 : writeA aw5 2 (awW 2) = (aw6, 0) := Prod.ext rfl (by decide +kernel)
theorem aw_p6 : pivA aw6 1 = true := by decide +kernel
theorem aw_k6 : keptA aw6 = 2 := by decide +kernel
theorem aw_e7 : commitA aw6 2 1 = (aw7, 2, 40) := Prod.ext rfl (Prod.ext (by decide +kernel) (by decide +kernel))
theorem aw_e8 : commitA aw7 2 2 = (aw8, 3, 0) := Prod.ext rfl (Prod.ext (by decide +kernel) (by decide +kernel))
theorem aw_e9 : commitA aw8 3 2 = ((commitA aw8 3 2).1, 3, 41) := Prod.ext rfl (Prod.ext (by decide +kernel) (by decide +kernel))
theorem aw_b1 : Bd aw1 1 0 := Bd.nil.begin 0
theorem aw_b2 : Bd aw2 2 0 := aw_b1.begin 1
theorem aw_b3 : Bd aw3 2 1 := aw_b2.read 1 awR
theorem aw_b4 : Bd aw4 2 2 := aw_b3.read 2 awR
theorem aw_b5 : Bd aw5 2 3 := aw_b4.write 1 (awW 1)
theorem aw_b6 : Bd aw6 2 4 := aw_b5.write 2 (awW 2)
theorem aw_w (n : Int) (q : Nat) : (wG ⟨#[116]⟩ [] [nmV n] none (nmS q n) 0 1).abs = awW n := rfl
theorem aw_pm (A X R : List Own) : (A ++ (X ++ R)).Perm ((X ++ ([] ++ A)) ++ R) := by
  rw [List.nil_append, List.append_assoc]; exact pm_app A X R
theorem aw_sb (X A R : List Own) : (X ++ R).Sublist ((X ++ A) ++ R) := (List.sublist_append_left X A).append (.refl R)
theorem c_law20_awake  : CallL Try.prog f_law20_awake [] [] [] (fun _ : Unit => True) (fun _ => []) (fun _ => .is (.bool true)) :=
CallL.of (fn := Try.f9) Try.func9 (n := 68) rfl rfl rfl (fun _ _ => by kernel_rfl) fun E W hb0 => by
  repeat refine J.seq ?_
  refine J.plain ?_
  refine JO.t (ob_assign rfl) rfl ?_
  refine JO.nil ?_
  repeat (first | refine JX.next ?_ | refine JX.normal_block ?_)
  refine J.sel [] .nil ?_
  repeat refine J.seq ?_
  refine J.plain ?_
  refine JO.callK (Lr := []) (k_New) rfl (.refl _) none_in .nil ?_
  rintro ⟨b, ba⟩ -
  try dsimp only
  refine JO.t (ob_assign rfl) rfl ?_
  refine JO.nil ?_
  repeat (first | refine JX.next ?_ | refine JX.normal_block ?_)
  refine J.sel [1] (.cons rfl .nil) ?_
  repeat refine J.seq ?_
  refine J.plain ?_
  refine JO.t (ob_move rfl) rfl ?_
  refine JO.t (ob_pnil un_p_ssi_Set rfl rfl) rfl ?_
  refine JO.nil ?_
  repeat (first | refine JX.next ?_ | refine JX.normal_block ?_)
  refine J.sel [1, 7] (.cons rfl (.cons rfl .nil)) ?_
  repeat refine J.seq ?_
  refine J.cond rfl (fun ht7 => ?_) (fun ht7 => ?_)
  ·
    try simp only [decide_eq_true_eq, decide_eq_false_iff_not] at ht7
    repeat refine J.seq ?_
    refine J.plain ?_
    refine JO.t (ob_assign rfl) rfl ?_
    refine JO.nil ?_
    repeat (first | refine JX.next ?_ | refine JX.normal_block ?_)
    refine J.sel [0] (.cons rfl .nil) ?_
    repeat refine J.seq ?_
    refine J.ret ?_
    repeat (first | refine JX.ret_pass ?_ | refine JX.ret_block ?_)
    exact JX.retL1 (L1 := fun _ : Unit => []) (R := fun _ => .is (.bool true)) rfl () trivial (.refl _) rfl rfl hb0 rfl (Sub.isEq (by simp [*] at *))
  ·
    try simp only [decide_eq_true_eq, decide_eq_false_iff_not] at ht7
    refine J.skip ?_
    repeat (first | refine JX.next ?_ | refine JX.normal_block ?_)
    repeat refine J.seq ?_
    refine J.plain ?_
    refine JO.t (ob_move rfl) rfl ?_
    refine JO.callK (Lr := []) (k_Begin SRel.new (Bd.nil.rm (by omega) (by omega)) (by omega)) rfl (.refl _) none_in (.one rfl .nil) ?_
    intro q1 h1
    try dsimp only
    refine JO.t (ob_assign rfl) rfl ?_
    refine JO.nil ?_
    repeat (first | refine JX.next ?_ | refine JX.normal_block ?_)
    refine J.sel [1, 2] (.cons rfl (.cons rfl .nil)) ?_
    repeat refine J.seq ?_
    refine J.plain ?_
    refine JO.t (ob_move rfl) rfl ?_
    refine JO.callK (Lr := []) (k_Begin h1 (aw_b1.rm (by omega) (by omega)) (by omega)) rfl (.refl _) none_in (.one rfl .nil) ?_
    intro q2 h2
    try dsimp only
    refine JO.t (ob_assign rfl) rfl ?_
    refine JO.nil ?_
    repeat (first | refine JX.next ?_ | refine JX.normal_block ?_)
    refine J.sel [1, 2, 3] (.cons rfl (.cons rfl (.cons rfl .nil))) ?_
    repeat refine J.seq ?_
    refine J.plain ?_
    refine JO.t (ob_build (cs := [_, _, _, _, _, _, _, _]) sh_api_Read (.cons rfl (.cons rfl .nil)) rfl rfl) rfl ?_
    refine JO.alloc zo_api_Read rfl fun b4 => ?_
    refine JO.m (obm_store rfl rfl (by repeat (first | exact .here | apply Upd.there)) (by first | exact cnt_is rfl rfl | exact cnt_ex) (by first | exact cnt_is rfl rfl | exact cnt_ex | exact cnt_aggO) ss_api_Read) (by rfl) ?_
    refine JO.nil ?_
    repeat (first | refine JX.next ?_ | refine JX.normal_block ?_)
    refine J.sel [1, 2, 3, 4] (.cons rfl (.cons rfl (.cons rfl (.cons rfl .nil)))) ?_
    refine J.fact (WrF []) (fun E0 w0 _ _ => fun w1 hk v hv => by cases hv) ?_
    repeat refine J.seq ?_
    refine J.plain ?_
    refine JO.t (ob_move rfl) rfl ?_
    refine JO.t (ob_neq rfl rfl) rfl ?_
    refine JO.t (ob_move rfl) rfl ?_
    refine JO.gd rfl rfl rfl ?_
    refine JO.t (ob_move rfl) rfl ?_
    refine JO.gd rfl rfl rfl ?_
    refine JO.t (ob_neq rfl rfl) rfl ?_
    refine JO.t (ob_pickF rfl rfl) rfl ?_
    refine JO.t (ob_move rfl) rfl ?_
    refine JO.gd rfl rfl rfl ?_
    refine JO.t (ob_move rfl) rfl ?_
    refine JO.gd rfl rfl rfl ?_
    refine JO.t (ob_ldN (cs := [_, _, _, _, _, _, _, _]) sz_api_Read rfl rfl rfl) rfl ?_
    refine JO.gd rfl rfl rfl ?_
    refine JO.callK (Lr := [⟨b4, ty_api_Read, .is (rdA awR)⟩]) (k_Read h2 (aw_b2.rm (by omega) (by omega)) 1 awR aw_e3) rfl (List.Perm.trans (List.Perm.of_eq (congrArg _ (List.append_nil _))) (List.perm_append_singleton _ _).symm) (one_in (by repeat (first | exact List.mem_cons_self | apply List.mem_cons_of_mem))) (.one rfl (.one rfl (.one rfl .nil))) ?_
    intro q3 h3
    try dsimp only
    refine JO.gd rfl rfl rfl ?_
    refine JO.t (ob_neq rfl rfl) rfl ?_
    refine JO.t (ob_pickF rfl rfl) rfl ?_
    refine JO.t (ob_move rfl) rfl ?_
    refine JO.gd rfl rfl rfl ?_
    refine JO.t (ob_move rfl) rfl ?_
    refine JO.gd rfl rfl rfl ?_
    refine JO.t (ob_ldN (cs := [_, _, _, _, _, _, _, _]) sz_api_Read rfl rfl rfl) rfl ?_
    refine JO.gd rfl rfl rfl ?_
    refine JO.callK (Lr := [⟨b4, ty_api_Read, .is (rdA awR)⟩]) (k_Read h3 (aw_b3.rm (by omega) (by omega)) 2 awR aw_e4) rfl (.refl _) (one_in (by repeat (first | exact List.mem_cons_self | apply List.mem_cons_of_mem))) (.one rfl (.one rfl (.one rfl .nil))) ?_
    intro q4 h4
    try dsimp only
    refine JO.gd rfl rfl rfl ?_
    refine JO.t (ob_neq rfl rfl) rfl ?_
    refine JO.t (ob_pickF rfl rfl) rfl ?_
    refine JO.t (ob_move rfl) rfl ?_
    refine JO.gd rfl rfl rfl ?_
    refine JO.t (ob_move rfl) rfl ?_
    refine JO.gd rfl rfl rfl ?_
    refine JO.callK (Lr := _) (c_law20_num 1) rfl (pm_nil _) none_in (.one rfl .nil) ?_
    rintro s1 -
    try dsimp only
    refine JO.gd rfl rfl rfl ?_
    refine JO.t (ob_build (cs := [_, _, _]) sh_api_Write (.cons rfl (.cons rfl .nil)) rfl rfl) rfl ?_
    refine JO.gd rfl rfl rfl ?_
    refine JO.callK (Lr := [⟨b4, ty_api_Read, .is (rdA awR)⟩]) (k_Write h4 (aw_b4.rm (by omega) (by omega)) 1 ⟨#[116]⟩ [] [nmV 1] none (nmS s1 1) 0 1 rfl (nm_grows s1 1) (by simp) (by simp) ((congrArg (writeA _ _) (aw_w 1 s1)).trans aw_e5)) rfl (aw_pm _ _ _) (one_in (by repeat (first | exact List.mem_cons_self | apply List.mem_cons_of_mem))) (.one rfl (.one rfl (.one rfl .nil))) ?_
    rintro ⟨q5, x1⟩ h5
    try dsimp only
    refine JO.open_ (s := 35) (R := WrR' 0 x1) rfl ?_
    rintro _ ⟨_, rfl, _⟩
    refine JO.fact (WrF (x1 :: [])) (fun E0 w0 hG _ => fun w1 hk v hv => by
      rcases List.mem_cons.1 hv with rfl | hv
      · exact (hG _ List.mem_cons_self w1 hk).2 _ (List.mem_singleton_self _)
      · exact hG (WrF []) (by repeat (first | exact List.mem_cons_self | apply List.mem_cons_of_mem)) w1 hk v hv) ?_
    refine JO.sub (aw_sb _ _ _) ?_
    refine JO.gd rfl rfl rfl ?_
    refine JO.t (ob_neq rfl rfl) rfl ?_
    refine JO.t (ob_pickF rfl rfl) rfl ?_
    refine JO.t (ob_move rfl) rfl ?_
    refine JO.gd rfl rfl rfl ?_
    refine JO.t (ob_move rfl) rfl ?_
    refine JO.gd rfl rfl rfl ?_
    refine JO.callK (Lr := _) (c_law20_num 2) rfl (pm_nil _) none_in (.one rfl .nil) ?_
    rintro s2 -
    try dsimp only
    refine JO.gd rfl rfl rfl ?_
    refine JO.t (ob_build (cs := [_, _, _]) sh_api_Write (.cons rfl (.cons rfl .nil)) rfl rfl) rfl ?_
    refine JO.gd rfl rfl rfl ?_
    refine JO.callK (Lr := [⟨b4, ty_api_Read, .is (rdA awR)⟩]) (k_Write h5 (aw_b5.rm (by omega) (by omega)) 2 ⟨#[116]⟩ [] [nmV 2] none (nmS s2 2) 0 1 rfl (nm_grows s2 2) (by simp) (by simp) ((congrArg (writeA _ _) (aw_w 2 s2)).trans aw_e6)) rfl (aw_pm _ _ _) (one_in (by repeat (first | exact List.mem_cons_self | apply List.mem_cons_of_mem))) (.one rfl (.one rfl (.one rfl .nil))) ?_
    rintro ⟨q6, x2⟩ h6
    try dsimp only
    refine JO.open_ (s := 42) (R := WrR' 0 x2) rfl ?_
    rintro _ ⟨_, rfl, _⟩
    refine JO.fact (WrF (x2 :: [x1])) (fun E0 w0 hG _ => fun w1 hk v hv => by
      rcases List.mem_cons.1 hv with rfl | hv
      · exact (hG _ List.mem_cons_self w1 hk).2 _ (List.mem_singleton_self _)
      · exact hG (WrF [x1]) (by repeat (first | exact List.mem_cons_self | apply List.mem_cons_of_mem)) w1 hk v hv) ?_
    refine JO.sub (aw_sb _ _ _) ?_
    refine JO.gd rfl rfl rfl ?_
    refine JO.t (ob_neq rfl rfl) rfl ?_
    refine JO.t (ob_pickF rfl rfl) rfl ?_
    refine JO.t (ob_move rfl) rfl ?_
    refine JO.gd rfl rfl rfl ?_
    refine JO.t (ob_move rfl) rfl ?_
    refine JO.gd rfl rfl rfl ?_
    refine JO.callK (Lr := [⟨b4, ty_api_Read, .is (rdA awR)⟩]) (k_Pivot h6 1 aw_p6) rfl (.refl _) none_in (.one rfl (.one rfl .nil)) ?_
    rintro - -
    try dsimp only
    refine JO.gd rfl rfl rfl ?_
    refine JO.t (ob_not rfl) rfl ?_
    refine JO.t (ob_pickF rfl rfl) rfl ?_
    refine JO.t (ob_move rfl) rfl ?_
    refine JO.gd rfl rfl rfl ?_
    refine JO.t (ob_move rfl) rfl ?_
    refine JO.gd rfl rfl rfl ?_
    refine JO.callK (Lr := [⟨b4, ty_api_Read, .is (rdA awR)⟩]) (k_Kept h6 (aw_b6.rm (by omega) (by omega)) aw_k6) rfl (.refl _) none_in (.one rfl .nil) ?_
    rintro - -
    try dsimp only
    refine JO.gd rfl rfl rfl ?_
    refine JO.t (ob_neq rfl rfl) rfl ?_
    refine JO.t (ob_pickF rfl rfl) rfl ?_
    refine JO.nil ?_
    repeat (first | refine JX.next ?_ | refine JX.normal_block ?_)
    refine J.sel [1, 54] (.cons rfl (.cons rfl .nil)) ?_
    repeat refine J.seq ?_
    refine J.cond rfl (fun ht54 => ?_) (fun ht54 => ?_)
    ·
      try simp only [decide_eq_true_eq, decide_eq_false_iff_not] at ht54
      repeat refine J.seq ?_
      refine J.plain ?_
      refine JO.t (ob_assign rfl) rfl ?_
      refine JO.nil ?_
      repeat (first | refine JX.next ?_ | refine JX.normal_block ?_)
      refine J.sel [0] (.cons rfl .nil) ?_
      repeat refine J.seq ?_
      refine J.ret ?_
      repeat (first | refine JX.ret_pass ?_ | refine JX.ret_block ?_)
      exact JX.retL1 (L1 := fun _ : Unit => []) (R := fun _ => .is (.bool true)) rfl () trivial (.refl _) rfl rfl hb0 rfl (Sub.isEq (by simp [*] at *))
    ·
      try simp only [decide_eq_true_eq, decide_eq_false_iff_not] at ht54
      refine J.skip ?_
      repeat (first | refine JX.next ?_ | refine JX.normal_block ?_)
      repeat refine J.seq ?_
      refine J.plain ?_
      refine JO.t (ob_move rfl) rfl ?_
      refine JO.callK (Lr := [⟨b4, ty_api_Read, .is (rdA awR)⟩]) (k_Commit h6 (by omega) 1 aw_e7) rfl (.refl _) none_in (.one rfl (.one rfl .nil)) ?_
      intro q7 h7
      try dsimp only
      refine JO.t (ob_eql rfl rfl) rfl ?_
      refine JO.t (ob_move rfl) rfl ?_
      refine JO.gd rfl rfl rfl ?_
      refine JO.t (ob_move rfl) rfl ?_
      refine JO.gd rfl rfl rfl ?_
      refine JO.callK (Lr := [⟨b4, ty_api_Read, .is (rdA awR)⟩]) (k_Commit h7 (by omega) 2 aw_e8) rfl (.refl _) none_in (.one rfl (.one rfl .nil)) ?_
      intro q8 h8
      try dsimp only
      refine JO.gd rfl rfl rfl ?_
      refine JO.t (ob_eql rfl rfl) rfl ?_
      refine JO.t (ob_pickT rfl rfl) rfl ?_
      refine JO.t (ob_move rfl) rfl ?_
      refine JO.gd rfl rfl rfl ?_
      refine JO.t (ob_move rfl) rfl ?_
      refine JO.gd rfl rfl rfl ?_
      refine JO.callK (Lr := [⟨b4, ty_api_Read, .is (rdA awR)⟩]) (k_Commit h8 (by omega) 2 aw_e9) rfl (.refl _) none_in (.one rfl (.one rfl .nil)) ?_
      intro q9 h9
      try dsimp only
      refine JO.gd rfl rfl rfl ?_
      refine JO.t (ob_eql rfl rfl) rfl ?_
      refine JO.t (ob_pickT rfl rfl) rfl ?_
      refine JO.t (ob_assign rfl) rfl ?_
      refine JO.nil ?_
      repeat (first | refine JX.next ?_ | refine JX.normal_block ?_)
      refine J.sel [0] (.cons rfl .nil) ?_
      repeat refine J.seq ?_
      refine J.ret ?_
      repeat (first | refine JX.ret_pass ?_ | refine JX.ret_block ?_)
      exact JX.retL1 (L1 := fun _ : Unit => []) (R := fun _ => .is (.bool true)) rfl () trivial (.refl _) rfl rfl hb0 rfl (Sub.isEq (by simp [*] at *))
end Go.Proofs.Ytggmifnkgcladaa
