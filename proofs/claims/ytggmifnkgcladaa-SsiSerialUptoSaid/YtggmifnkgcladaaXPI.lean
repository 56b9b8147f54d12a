/- Ssi: an order of those that committed. No condition. -/
import Derived.Test.YtggmifnkgcladaaXPG
import Derived.Test.YtggmifnkgcladaaXG4
namespace Go.Si
open Go Go.Vc Go.Vl Go.Proofs.Ytggmifnkgcladaa
def badB (B : List AT) (G : List Bool) (i k : Nat) : Bool := ((k != i) && !G.getD k true) && (edA B k i || decide ((aAt B k).done < (aAt B i).begun))
def srcT (B : List AT) (G : List Bool) (i n : Nat) : Bool := !G.getD i true && (List.range n).all fun k => !badB B G i k
def SerOK (B : List AT) : Prop := ∀ G : List Bool, G.length = B.length → (∀ i, G.getD i true = false → (aAt B i).s = 2) → (∃ i, G.getD i true = false) → ∃ i, i < B.length ∧ srcT B G i B.length = true
theorem srcT_succ (B : List AT) (G : List Bool) (i n : Nat) : srcT B G i (n + 1) = (srcT B G i n && !badB B G i n) := by
  unfold srcT
  rw [List.range_succ, List.all_append]
  simp [Bool.and_assoc]
theorem srcT_mono {B : List AT} {G : List Bool} {i n m : Nat} (h : n ≤ m) (hf : srcT B G i n = false) : srcT B G i m = false := by
  induction h with
  | refl => exact hf
  | step _ ih => rw [srcT_succ, ih]; rfl
structure SerR (B A : List AT) : Prop where
  same : Same A B
  w : ∀ i, (aAt B i).writes = (aAt A i).writes
  r : ∀ i, ∀ x ∈ (aAt B i).reads, ∀ w, mtW x w = true → ∃ y ∈ (aAt A i).reads, mtW y w = true
theorem SerR.ed {B A : List AT} (h : SerR B A) {i k : Nat} (he : edA B i k = true) : edA A i k = true := by
  unfold edA at he ⊢
  rw [h.same.off] at he
  split at he
  · cases he
  · rename_i hn
    rw [if_neg hn]
    unfold hitA at he ⊢
    obtain ⟨x, hx, h1⟩ := List.any_eq_true.1 he
    obtain ⟨w, hw, h2⟩ := List.any_eq_true.1 h1
    rw [h.w k] at hw
    obtain ⟨y, hy, h3⟩ := h.r i x hx w h2
    exact List.any_eq_true.2 ⟨y, hy, List.any_eq_true.2 ⟨w, hw, h3⟩⟩
theorem exists_min {P : Nat → Prop} (f : Nat → Nat) : ∀ (n i : Nat), f i ≤ n → P i → ∃ m, P m ∧ ∀ k, P k → f m ≤ f k
  | 0, i, hn, hi => ⟨i, hi, fun k _ => by omega⟩
  | n + 1, i, hn, hi => by
    by_cases h : ∃ k, P k ∧ f k ≤ n
    · obtain ⟨k, hk, hkn⟩ := h
      exact exists_min f n k hkn hk
    · refine ⟨i, hi, fun k hk => ?_⟩
      have : ¬ f k ≤ n := fun h1 => h ⟨k, hk, h1⟩
      omega
theorem ser_ok {A B : List AT} {n : Nat} (hok : AOk A n) (h : SerR B A) : SerOK B := by
  intro G hG h2 ⟨i0, hi0⟩
  obtain ⟨m, hm, hmin⟩ := exists_min (P := fun i => G.getD i true = false) (fun i => (aAt B i).done) _ i0 (Nat.le_refl _) hi0
  have hlt : ∀ {i}, G.getD i true = false → i < B.length := fun {i} hi => aAt_lt (by rw [h2 i hi]; decide)
  have hbd : ∀ {i}, G.getD i true = false → (aAt B i).begun < (aAt B i).done := fun {i} hi => by
    have h3 := h2 i hi
    rw [h.same.s] at h3
    have := (hok.d i h3).1
    rw [h.same.b, h.same.d]; exact this
  have hsrc : ∀ {i}, G.getD i true = false → (∀ k, k ≠ i → G.getD k true = false → edA B k i = false ∧ ¬ (aAt B k).done < (aAt B i).begun) → srcT B G i B.length = true := fun {i} hi hk => by
    unfold srcT
    rw [hi, Bool.and_eq_true]
    refine ⟨rfl, List.all_eq_true.2 fun k _ => ?_⟩
    unfold badB
    by_cases e : k = i
    · subst e; simp
    · cases hg : G.getD k true with
      | true => simp
      | false =>
        obtain ⟨h3, h4⟩ := hk k e hg
        rw [h3, decide_eq_false h4]; simp
  by_cases hin : ∃ k, k ≠ m ∧ G.getD k true = false ∧ edA B k m = true
  · obtain ⟨k, hkm, hk, he⟩ := hin
    refine ⟨k, hlt hk, hsrc hk fun j hjk hj => ⟨?_, ?_⟩⟩
    · cases hej : edA B j k with
      | false => rfl
      | true =>
        have hs : (aAt A k).s = 2 := by rw [← h.same.s]; exact h2 k hk
        have := hok.np k hs
        rw [pvA_iff.2 ⟨⟨j, h.ed hej⟩, m, h.ed he⟩] at this; cases this
    · have h5 := (edA_s he).2.2.2.2.1
      unfold aheadA at h5
      rw [h2 m hm] at h5
      have h6 : ¬ (aAt B m).done < (aAt B k).begun := by simpa using h5
      have := hmin j hj
      omega
  · refine ⟨m, hlt hm, hsrc hm fun k hkm hk => ⟨?_, ?_⟩⟩
    · cases he : edA B k m with
      | false => rfl
      | true => exact absurd ⟨k, hkm, hk, he⟩ hin
    · have := hmin k hk
      have := hbd hm
      omega
def cntF (G : List Bool) : Nat := (G.filter fun g => !g).length
theorem cntF_append (G H : List Bool) : cntF (G ++ H) = cntF G + cntF H := by unfold cntF; rw [List.filter_append, List.length_append]
theorem cntF_pos : ∀ {G : List Bool}, 0 < cntF G → ∃ i, G.getD i true = false
  | [], h => by cases h
  | g :: G, h => by
    cases g with
    | false => exact ⟨0, rfl⟩
    | true =>
      have : 0 < cntF G := by simpa [cntF] using h
      obtain ⟨i, hi⟩ := cntF_pos this
      exact ⟨i + 1, by simpa using hi⟩
theorem cntF_set : ∀ {G : List Bool} {i : Nat}, G.getD i true = false → cntF (G.set i true) + 1 = cntF G
  | [], i, h => by simp at h
  | g :: G, 0, h => by
    simp at h
    subst h
    simp [cntF]
  | g :: G, i + 1, h => by
    have := cntF_set (G := G) (i := i) (by simpa using h)
    cases g <;> simp [cntF] at this ⊢ <;> omega
theorem getD_set {G : List Bool} {i j : Nat} {v : Bool} (hi : i < G.length) : (G.set i v).getD j true = if j = i then v else G.getD j true := by
  rw [List.getD_eq_getElem?_getD, List.getD_eq_getElem?_getD, List.getElem?_set]
  by_cases e : j = i
  · subst e; simp [hi]
  · rw [if_neg (fun e' => e e'.symm), if_neg e]
theorem cntF_take {G : List Bool} {i : Nat} {v : Bool} (hi : i < G.length) : cntF ((G.set i v).take (i + 1)) = cntF (G.take i) + (if v then 0 else 1) := by
  have h1 : (G.set i v).take (i + 1) = G.take i ++ [v] := by
    rw [List.take_add_one, List.getElem?_set_self hi, List.take_set_of_le (Nat.le_refl i)]; rfl
  rw [h1, cntF_append]
  cases v <;> rfl
theorem lt_of_false {G : List Bool} {i : Nat} (h : G.getD i true = false) : i < G.length := by
  rcases Nat.lt_or_ge i G.length with h1 | h1
  · exact h1
  · rw [List.getD_eq_getElem?_getD, List.getElem?_eq_none h1] at h; cases h
def aAR (r : Rd) (a : AT) : AT := { a with reads := a.reads ++ [r] }
theorem rdEq_eq {a b : Rd} (h : rdEq a b = true) : a = b := by
  unfold rdEq at h
  simp only [Bool.and_eq_true, beq_iff_eq] at h
  obtain ⟨h1, h2, h3, h4⟩ := h
  have e1 := (seq_iff _ _).1 h1
  have e3 := (veq_iff _ _).1 h3
  have e4 := (veq_iff _ _).1 h4
  cases a; cases b
  simp only at e1 h2 e3 e4
  subst e1 h2 e3 e4
  rfl
theorem mt_kpR {l : List Rd} {r : Rd} {w : Wr} (h : mtW r w = true) : mtW (kpR l r) w = true := by
  have hall : mtW (allR r) w = true := mt_all (k := r) (seq_self _) h
  unfold kpR
  cases hf : l.find? (kpHit r) with
  | some k =>
    have hk := List.find?_some hf
    unfold kpHit at hk
    rw [Bool.or_eq_true] at hk
    simp only
    rcases hk with hk | hk
    · rw [rdEq_eq hk]; exact h
    · rw [rdEq_eq hk]; exact hall
  | none =>
    simp only
    split
    · exact hall
    · exact h
section
variable {A B A' : List AT} {n n' : Nat} {e : Int}
theorem SerR.len (h : SerR B A) : B.length = A.length := h.same.len
theorem SerR.live (h : SerR B A) (k : Int) : liveA B k = liveA A k := by
  unfold liveA
  rw [h.len, h.same.s]
theorem SerR.up (h : SerR B A) {i : Nat} (hi : i < A.length) {f g : AT → AT} (h1 : ∀ a b, a.s = b.s → a.begun = b.begun → a.done = b.done → (g a).s = (f b).s ∧ (g a).begun = (f b).begun ∧ (g a).done = (f b).done) (hw : (g (aAt B i)).writes = (f (aAt A i)).writes) (hr : ∀ x ∈ (g (aAt B i)).reads, ∀ w, mtW x w = true → ∃ y ∈ (f (aAt A i)).reads, mtW y w = true) : SerR (upA B i g) (upA A i f) := by
  have hb : i < B.length := by rw [h.len]; exact hi
  have hi3 := h1 (aAt B i) (aAt A i) (h.same.s i) (h.same.b i) (h.same.d i)
  refine ⟨⟨by rw [upA_len, upA_len]; exact h.same.len, fun j => ?_, fun j => ?_, fun j => ?_⟩, fun j => ?_, fun j => ?_⟩
  all_goals rw [upA_at hb, upA_at hi]
  · split
    · exact hi3.1
    · exact h.same.s j
  · split
    · exact hi3.2.1
    · exact h.same.b j
  · split
    · exact hi3.2.2
    · exact h.same.d j
  · split
    · exact hw
    · exact h.w j
  · split
    · exact hr
    · exact h.r j
theorem SerR.ab (h : SerR B A) {i : Nat} (hi : i < A.length) : SerR (abA B i) (abA A i) :=
  h.up hi (fun a b h1 h2 h3 => ⟨rfl, h2, h3⟩) (h.w i) (h.r i)
theorem SerR.begin (h : SerR B A) (m : Nat) : SerR (beginA B m) (beginA A m) := by
  have hb : ∀ j, aAt (beginA B m) j = if j = A.length then aNew (m + 1) else aAt B j := fun j => by unfold beginA; rw [aAt_snoc, h.len]
  have ha : ∀ j, aAt (beginA A m) j = if j = A.length then aNew (m + 1) else aAt A j := fun j => by unfold beginA; rw [aAt_snoc]
  refine ⟨⟨by unfold beginA; rw [List.length_append, List.length_append, h.len], fun j => ?_, fun j => ?_, fun j => ?_⟩, fun j => ?_, fun j => ?_⟩
  all_goals rw [hb, ha]
  · split
    · rfl
    · exact h.same.s j
  · split
    · rfl
    · exact h.same.b j
  · split
    · rfl
    · exact h.same.d j
  · split
    · rfl
    · exact h.w j
  · split
    · intro x hx; cases hx
    · exact h.r j
theorem SerR.aRd' (h : SerR B A) {i : Nat} (hi : i < A.length) (r : Rd) : SerR (upA B i (aAR r)) (upA A i (aRd r)) := by
  refine h.up hi (fun a b h1 h2 h3 => ⟨h1, h2, h3⟩) (h.w i) fun x hx w hm => ?_
  have hany : (kpL (aAt A i).reads r).any (fun k => mtW k w) = true := by
    rw [any_kp, Bool.or_eq_true]
    have hx' : x ∈ (aAt B i).reads ++ [r] := hx
    rcases List.mem_append.1 hx' with hx | hx
    · left
      obtain ⟨y, hy, h2⟩ := h.r i x hx w hm
      exact List.any_eq_true.2 ⟨y, hy, h2⟩
    · right
      rw [List.mem_singleton.1 hx] at hm
      exact mt_kpR hm
  obtain ⟨y, hy, h2⟩ := List.any_eq_true.1 hany
  exact ⟨y, hy, h2⟩
theorem SerR.aWr' (h : SerR B A) {i : Nat} (hi : i < A.length) (w : Wr) : SerR (upA B i (aWr w)) (upA A i (aWr w)) :=
  h.up hi (fun a b h1 h2 h3 => ⟨h1, h2, h3⟩) (by show _ ++ [w] = _ ++ [w]; rw [h.w]) (h.r i)
theorem live_ix {k : Int} (h : liveA A k = true) : (k - 1).toNat < A.length ∧ (aAt A (k - 1).toNat).s = 1 := by
  obtain ⟨i, rfl, hi⟩ := liveA_iff.1 h
  have e : ((i : Nat) + 1 - 1 : Int).toNat = i := by omega
  rw [e]
  exact ⟨aAt_lt (by rw [hi]; decide), hi⟩
theorem ser_jg (h : SerR B A) {i : Nat} (hi : i < A.length) (he : jgA A i = (A', e)) : (e = 0 ∧ SerR B A') ∨ (e ≠ 0 ∧ SerR (abA B i) A') := by
  unfold jgA at he
  split at he
  · injection he with e1 e2
    subst e1 e2
    exact .inr ⟨by decide, h.ab hi⟩
  · injection he with e1 e2
    subst e1 e2
    exact .inl ⟨rfl, h⟩
theorem ser_read (h : SerR B A) {k : Int} {r : Rd} (hl : liveA A k = true) (he : readA A k r = (A', e)) : (e = 0 ∧ SerR (upA B (k - 1).toNat (aAR r)) A') ∨ (e ≠ 0 ∧ SerR (abA (upA B (k - 1).toNat (aAR r)) (k - 1).toNat) A') := by
  obtain ⟨hi, _⟩ := live_ix hl
  have h1 := h.aRd' hi r
  unfold readA at he
  rw [hl, if_pos rfl] at he
  split at he
  · injection he with e1 e2
    subst e1 e2
    exact .inr ⟨by decide, h1.ab (by rw [upA_len]; exact hi)⟩
  · exact ser_jg h1 (by rw [upA_len]; exact hi) he
theorem ser_write (h : SerR B A) {k : Int} {w : Wr} (hl : liveA A k = true) (he : writeA A k w = (A', e)) : (e = 0 ∧ SerR (upA B (k - 1).toNat (aWr w)) A') ∨ (e ≠ 0 ∧ SerR (abA (upA B (k - 1).toNat (aWr w)) (k - 1).toNat) A') := by
  obtain ⟨hi, _⟩ := live_ix hl
  unfold writeA at he
  rw [hl, if_pos rfl] at he
  exact ser_jg (h.aWr' hi w) (by rw [upA_len]; exact hi) he
theorem ser_commit (h : SerR B A) {k : Int} (hl : liveA A k = true) (he : commitA A n k = (A', n', e)) : (e = 0 ∧ n' = n + 1 ∧ SerR (upA B (k - 1).toNat (aCm (n + 1))) A') ∨ (e ≠ 0 ∧ n' = n ∧ SerR (abA B (k - 1).toNat) A') := by
  obtain ⟨hi, _⟩ := live_ix hl
  unfold commitA at he
  rw [hl, if_pos rfl] at he
  split at he
  · injection he with e1 e2
    injection e2 with e2 e3
    subst e1 e2 e3
    exact .inr ⟨by decide, rfl, h.ab hi⟩
  · injection he with e1 e2
    injection e2 with e2 e3
    subst e1 e2 e3
    exact .inl ⟨rfl, rfl, h.up hi (fun a b h1 h2 h3 => ⟨rfl, h2, rfl⟩) (h.w _) (h.r _)⟩
theorem ser_abort (h : SerR B A) {k : Int} (hl : liveA A k = true) (he : abortA A k = (A', e)) : e = 0 ∧ SerR (abA B (k - 1).toNat) A' := by
  obtain ⟨hi, _⟩ := live_ix hl
  unfold abortA at he
  rw [hl, if_pos rfl] at he
  injection he with e1 e2
  subst e1 e2
  exact ⟨rfl, h.ab hi⟩
theorem read_dead {k : Int} {r : Rd} (hl : liveA A k = false) (he : readA A k r = (A', e)) : A' = A ∧ e = 41 := by
  unfold readA at he
  rw [hl, if_neg (by simp)] at he
  injection he with e1 e2
  exact ⟨e1.symm, e2.symm⟩
theorem write_dead {k : Int} {w : Wr} (hl : liveA A k = false) (he : writeA A k w = (A', e)) : A' = A ∧ e = 41 := by
  unfold writeA at he
  rw [hl, if_neg (by simp)] at he
  injection he with e1 e2
  exact ⟨e1.symm, e2.symm⟩
theorem commit_dead {k : Int} (hl : liveA A k = false) (he : commitA A n k = (A', n', e)) : A' = A ∧ n' = n ∧ e = 41 := by
  unfold commitA at he
  rw [hl, if_neg (by simp)] at he
  injection he with e1 e2
  injection e2 with e2 e3
  exact ⟨e1.symm, e2.symm, e3.symm⟩
theorem abort_dead {k : Int} (hl : liveA A k = false) (he : abortA A k = (A', e)) : A' = A ∧ e = 41 := by
  unfold abortA at he
  rw [hl, if_neg (by simp)] at he
  injection he with e1 e2
  exact ⟨e1.symm, e2.symm⟩
theorem SerR.nil : SerR [] [] := ⟨⟨rfl, fun _ => rfl, fun _ => rfl, fun _ => rfl⟩, fun _ => rfl, fun i x hx w hm => ⟨x, hx, hm⟩⟩
end
end Go.Si
