/- Ssi: two at a time; one behind the other. No condition. -/
import Derived.Test.YtggmifnkgcladaaXN8
namespace Go.Si
open Go Go.Vc Go.Vl Go.Proofs.Ytggmifnkgcladaa
structure OnI (A : List AT) (ap : Bool) (i : Nat) : Prop where
  act : ActA A 2
  ap : ap = true → (aAt A 0).writes = [] ∧ (aAt A 1).reads = []
  kp : keptA A ≤ i
  bd : Bd A 2 i
def isElse (t : ByteArray) : Bool := seq t ⟨#[101, 108, 115, 101, 119, 104, 101, 114, 101]⟩
structure AlI (A : List AT) (n : Nat) (bs : Bool) (t : Nat) : Prop where
  len : A.length = t + 1
  cur : (aAt A t).s = 1
  old : ∀ i, i < t → (bs = true → i ≠ 0) → (aAt A i).s = 2 ∧ ∀ k, i < k → (aAt A i).done < (aAt A k).begun ∨ (aAt A k).s = 3
  bes : bs = true → 0 < t ∧ (aAt A 0).s = 1 ∧ (aAt A 0).writes = [] ∧ ∀ r ∈ (aAt A 0).reads, isElse r.t = true
  wr : ∀ i, ∀ w ∈ (aAt A i).writes, isElse w.t = false
theorem mt_else {r : Rd} {w : Wr} (hr : isElse r.t = true) (hw : isElse w.t = false) : mtW r w = false := by
  cases hm : mtW r w with
  | false => rfl
  | true =>
    unfold mtW at hm
    rw [Bool.and_eq_true] at hm
    have h1 := (seq_iff _ _).1 hm.1
    rw [h1, hw] at hr; cases hr
theorem AlI.no {A : List AT} {n t : Nat} {bs : Bool} (h : AlI A n bs t) : NoE A := by
  have ho : ∀ i k, i < k → (bs = true → i ≠ 0) → edA A i k = false ∧ edA A k i = false := fun i k hik hb => by
    rcases Nat.lt_or_ge i t with hi | hi
    · obtain ⟨h1, h2⟩ := h.old i hi hb
      have : aheadA (aAt A i) (aAt A k) = true ∨ (aAt A k).s = 3 := by
        rcases h2 k hik with h3 | h3
        · left; unfold aheadA; rw [h1, decide_eq_true h3]; rfl
        · exact .inr h3
      constructor
      · cases he : edA A i k with
        | false => rfl
        | true =>
          have h4 := edA_s he
          rcases this with h5 | h5
          · rw [h4.2.2.2.1] at h5; cases h5
          · exact absurd h5 h4.2.1
      · cases he : edA A k i with
        | false => rfl
        | true =>
          have h4 := edA_s he
          rcases this with h5 | h5
          · rw [h4.2.2.2.2.1] at h5; cases h5
          · exact absurd h5 h4.1
    · have hk : (aAt A k).s = 3 := by rw [aAt_out (by rw [h.len]; omega)]; rfl
      constructor
      · cases he : edA A i k with
        | false => rfl
        | true => exact absurd hk (edA_s he).2.1
      · cases he : edA A k i with
        | false => rfl
        | true => exact absurd hk (edA_s he).1
  have hz : bs = true → ∀ k, edA A 0 k = false ∧ edA A k 0 = false := fun hb k => by
    obtain ⟨_, _, h1, h2⟩ := h.bes hb
    constructor
    · cases he : edA A 0 k with
      | false => rfl
      | true =>
        have := (edA_s he).2.2.2.2.2
        unfold hitA at this
        obtain ⟨r, hr, h3⟩ := List.any_eq_true.1 this
        obtain ⟨w, hw, h4⟩ := List.any_eq_true.1 h3
        rw [mt_else (h2 r hr) (h.wr k w hw)] at h4; cases h4
    · cases he : edA A k 0 with
      | false => rfl
      | true =>
        have := (edA_s he).2.2.2.2.2
        unfold hitA at this
        rw [h1] at this
        simp at this
  intro i k
  rcases Nat.lt_trichotomy i k with hik | hik | hik
  · by_cases hb : bs = true ∧ i = 0
    · rw [hb.2]; exact (hz hb.1 k).1
    · exact (ho i k hik fun h1 h2 => hb ⟨h1, h2⟩).1
  · subst hik
    cases he : edA A i i with
    | false => rfl
    | true => exact absurd rfl (edA_s he).2.2.1
  · by_cases hb : bs = true ∧ k = 0
    · rw [hb.2]; exact (hz hb.1 i).2
    · exact (ho k i hik fun h1 h2 => hb ⟨h1, h2⟩).2
theorem AlI.up {A : List AT} {n t : Nat} {bs : Bool} (h : AlI A n bs t) {f : AT → AT} (hf : ∀ a, (f a).s = a.s ∧ (f a).begun = a.begun ∧ (f a).done = a.done) (hw : ∀ w ∈ (f (aAt A t)).writes, isElse w.t = false) : AlI (upA A t f) n bs t := by
  have hlt : t < A.length := by rw [h.len]; omega
  have hs := Same.up (A := A) (f := f) hlt hf
  refine ⟨by rw [upA_len]; exact h.len, by rw [hs.s]; exact h.cur, fun i hi hb => ?_, fun hb => ?_, fun i w hw' => ?_⟩
  · obtain ⟨h1, h2⟩ := h.old i hi hb
    rw [hs.s, hs.d]
    exact ⟨h1, fun k hk => by rw [hs.b, hs.s]; exact h2 k hk⟩
  · obtain ⟨h0, h1, h2, h3⟩ := h.bes hb
    rw [upA_at hlt, if_neg (by omega)]
    exact ⟨h0, h1, h2, h3⟩
  · rw [upA_at hlt] at hw'
    split at hw'
    · exact hw w hw'
    · exact h.wr i w hw'
theorem AlI.read {A : List AT} {n t : Nat} {bs : Bool} (h : AlI A n bs t) (hk : keptA A ≤ 255) (r : Rd) : readA A ((t + 1 : Nat) : Int) r = (upA A t (aRd r), 0) ∧ AlI (upA A t (aRd r)) n bs t ∧ keptA (upA A t (aRd r)) ≤ keptA A + 1 := by
  have hlt : t < A.length := by rw [h.len]; omega
  have h1 := h.up (f := aRd r) (fun _ => ⟨rfl, rfl, rfl⟩) (h.wr t)
  have h2 := kept_rd hlt r
  exact ⟨read_ok h.cur (by omega) h1.no.j, h1, h2⟩
theorem AlI.write {A : List AT} {n t : Nat} {bs : Bool} (h : AlI A n bs t) (w : Wr) (hw : isElse w.t = false) : writeA A ((t + 1 : Nat) : Int) w = (upA A t (aWr w), 0) ∧ AlI (upA A t (aWr w)) n bs t ∧ keptA (upA A t (aWr w)) = keptA A := by
  have hlt : t < A.length := by rw [h.len]; omega
  have h1 := h.up (f := aWr w) (fun _ => ⟨rfl, rfl, rfl⟩) (fun v hv => by
    rcases List.mem_append.1 hv with hv | hv
    · exact h.wr t v hv
    · rw [List.mem_singleton.1 hv]; exact hw)
  exact ⟨write_ok h.cur h1.no.j, h1, kept_wr hlt w⟩
theorem AlI.commit {A : List AT} {n t : Nat} {bs : Bool} (h : AlI A n bs t) (hok : AOk A n) : commitA A n ((t + 1 : Nat) : Int) = (upA A t (aCm (n + 1)), n + 1, 0) ∧ (bs = false → keptA (upA A t (aCm (n + 1))) = 0) ∧ AlI (beginA (upA A t (aCm (n + 1))) (n + 1)) (n + 2) bs (t + 1) ∧ keptA (upA A t (aCm (n + 1))) ≤ keptA A := by
  have hlt : t < A.length := by rw [h.len]; omega
  have hat : ∀ j, aAt (upA A t (aCm (n + 1))) j = if j = t then aCm (n + 1) (aAt A t) else aAt A j := fun j => upA_at hlt
  have hlen : (upA A t (aCm (n + 1))).length = t + 1 := by rw [upA_len]; exact h.len
  have hbt : ∀ j, aAt (beginA (upA A t (aCm (n + 1))) (n + 1)) j = if j = t + 1 then aNew (n + 2) else aAt (upA A t (aCm (n + 1))) j := fun j => by
    unfold beginA; rw [aAt_snoc, hlen]
  refine ⟨commit_none h.no h.cur, fun hb => kept_none fun i => ?_, ⟨?_, ?_, fun i hi hb => ?_, fun hb => ?_, fun i w hw => ?_⟩, ?_⟩
  · rw [hat]; split
    · show (2 : Int) ≠ 1; decide
    · rename_i hne
      rcases Nat.lt_or_ge i t with hi | hi
      · rw [(h.old i hi (fun e => by rw [hb] at e; cases e)).1]; decide
      · rw [aAt_out (by rw [h.len]; omega)]; decide
  · unfold beginA; rw [List.length_append, hlen]; rfl
  · rw [hbt, if_pos rfl]; rfl
  · rw [hbt, if_neg (by omega)]
    by_cases e : i = t
    · subst e
      rw [hat, if_pos rfl]
      refine ⟨rfl, fun k hk => ?_⟩
      rw [hbt]; split
      · left; show n + 1 < n + 2; omega
      · right; rw [aAt_out (by rw [hlen]; omega)]; rfl
    · rw [hat, if_neg e]
      obtain ⟨h1, h2⟩ := h.old i (by omega) hb
      refine ⟨h1, fun k hk => ?_⟩
      rw [hbt]; split
      · left
        have := (hok.d i h1).2
        show _ < n + 2
        omega
      · rw [hat]; split
        · rename_i e2
          rcases h2 t (by omega) with h3 | h3
          · exact .inl h3
          · rw [h.cur] at h3; cases h3
        · exact h2 k hk
  · obtain ⟨h0, h1, h2, h3⟩ := h.bes hb
    rw [hbt, if_neg (by omega), hat, if_neg (by omega)]
    exact ⟨by omega, h1, h2, h3⟩
  · rw [hbt] at hw
    split at hw
    · cases hw
    · rw [hat] at hw
      split at hw
      · exact h.wr t w hw
      · exact h.wr i w hw
  · unfold keptA
    rw [hlen, h.len]
    have hle : ∀ i, (if cntA (upA A t (aCm (n + 1))) i = true then (aAt (upA A t (aCm (n + 1))) i).reads.length else 0) ≤ (if cntA A i = true then (aAt A i).reads.length else 0) := fun i => by
      have hr : (aAt (upA A t (aCm (n + 1))) i).reads = (aAt A i).reads := by
        rw [hat]; split
        · rename_i e; rw [e]; rfl
        · rfl
      rw [hr]
      cases hc : cntA (upA A t (aCm (n + 1))) i with
      | false => simp
      | true => rw [cnt_commit h.cur hc]; exact Nat.le_refl _
    have : ∀ l : List Nat, (l.map fun i => if cntA (upA A t (aCm (n + 1))) i = true then (aAt (upA A t (aCm (n + 1))) i).reads.length else 0).sum ≤ (l.map fun i => if cntA A i = true then (aAt A i).reads.length else 0).sum := fun l => by
      induction l with
      | nil => exact Nat.le_refl _
      | cons i l ih => rw [List.map_cons, List.sum_cons, List.map_cons, List.sum_cons]; have := hle i; omega
    exact this _
theorem AlI.one {n : Nat} : AlI (beginA [] n) (n + 1) false 0 := by
  have hb : ∀ j, aAt (beginA [] n) j = if j = 0 then aNew (n + 1) else aAt [] j := fun j => by unfold beginA; exact aAt_snoc
  refine ⟨rfl, by rw [hb, if_pos rfl]; rfl, fun i hi => absurd hi (Nat.not_lt_zero i), fun h => (by cases h), fun i w hw => ?_⟩
  rw [hb] at hw
  split at hw
  · cases hw
  · rw [aAt_out (Nat.zero_le _)] at hw; cases hw
theorem AlI.step {A : List AT} {n t i : Nat} {bs : Bool} (h : AlI A n bs t) (hk : keptA A ≤ 200) (hB : Bd A 102 (2 * i + 1)) (r : Rd) (w : Wr) (hw : isElse w.t = false) : ∃ A1 A2, readA A ((t + 1 : Nat) : Int) r = (A1, 0) ∧ writeA A1 ((t + 1 : Nat) : Int) w = (A2, 0) ∧ AlI A2 n bs t ∧ keptA A2 ≤ keptA A + 1 ∧ Bd A1 102 (2 * i + 2) ∧ Bd A2 102 (2 * i + 3) := by
  obtain ⟨e1, h1, k1⟩ := h.read (by omega) r
  obtain ⟨e2, h2, k2⟩ := h1.write w hw
  have b1 := hB.read ((t + 1 : Nat) : Int) r
  rw [e1] at b1
  have b2 := b1.write ((t + 1 : Nat) : Int) w
  rw [e2] at b2
  exact ⟨_, _, e1, e2, h2, by omega, b1, b2⟩
theorem AlI.next {A : List AT} {n t m : Nat} {bs : Bool} (h : AlI A n bs t) (hok : AOk A n) (hB : Bd A 102 m) (ht : t + 2 ≤ 102) : ∃ A1 A2, commitA A n ((t + 1 : Nat) : Int) = (A1, n + 1, 0) ∧ beginA A1 (n + 1) = A2 ∧ A1.length + 1 = t + 1 + 1 ∧ (bs = false → keptA A1 = 0 ∧ keptA A2 = 0) ∧ AlI A2 (n + 2) bs (t + 1) ∧ keptA A2 ≤ keptA A ∧ Bd A1 102 m ∧ Bd A2 102 m := by
  obtain ⟨e1, h0, h1, h2⟩ := h.commit hok
  have hok' := hok.commit ((t + 1 : Nat) : Int)
  rw [e1] at hok'
  have b1 := hB.commit n ((t + 1 : Nat) : Int)
  rw [e1] at b1
  have hl : (upA A t (aCm (n + 1))).length = t + 1 := by rw [upA_len]; exact h.len
  have hk := kept_begin hok'
  have b2 : Bd (beginA (upA A t (aCm (n + 1))) (n + 1)) 102 m := by
    refine ⟨?_, (b1.begin (n + 1)).r, (b1.begin (n + 1)).w⟩
    unfold beginA; rw [List.length_append, hl]; simp only [List.length_cons, List.length_nil]; omega
  exact ⟨_, _, e1, rfl, by rw [hl], fun hb => ⟨h0 hb, hk.trans (h0 hb)⟩, h1, by rw [hk]; exact h2, b1, b2⟩
theorem AlI.beside {r : Rd} (hr : isElse r.t = true) : AlI (beginA (upA (beginA [] 0) 0 (aRd r)) 1) 2 true 1 := by
  have hb : ∀ j, aAt (beginA [] 0) j = if j = 0 then aNew 1 else aAt [] j := fun j => by unfold beginA; exact aAt_snoc
  have hl : (beginA [] 0).length = 1 := rfl
  have hu : ∀ j, aAt (upA (beginA [] 0) 0 (aRd r)) j = if j = 0 then aRd r (aNew 1) else aAt [] j := fun j => by
    rw [upA_at (by rw [hl]; decide), hb, hb]
    split
    · rw [if_pos rfl]
    · rfl
  have hl2 : (upA (beginA [] 0) 0 (aRd r)).length = 1 := by rw [upA_len]; rfl
  have hat : ∀ j, aAt (beginA (upA (beginA [] 0) 0 (aRd r)) 1) j = if j = 1 then aNew 2 else if j = 0 then aRd r (aNew 1) else aAt [] j := fun j => by
    unfold beginA; rw [aAt_snoc]
    show (if j = (upA (beginA [] 0) 0 (aRd r)).length then _ else aAt (upA (beginA [] 0) 0 (aRd r)) j) = _
    rw [hl2, hu]
  refine ⟨by unfold beginA; rw [List.length_append]; rfl, by rw [hat, if_pos rfl]; rfl, fun i hi hb' => absurd (show i = 0 by omega) (hb' rfl), fun _ => ⟨by decide, ?_, ?_, fun k hk => ?_⟩, fun i w hw => ?_⟩
  · rw [hat, if_neg (by decide), if_pos rfl]; rfl
  · rw [hat, if_neg (by decide), if_pos rfl]; rfl
  · rw [hat, if_neg (by decide), if_pos rfl] at hk
    have hk' : k ∈ kpL [] r := hk
    unfold kpL at hk'
    simp only [List.find?_nil] at hk'
    split at hk'
    · simp only [List.filter_nil, List.nil_append, List.mem_singleton] at hk'
      rw [hk']; exact hr
    · simp only [List.nil_append, List.mem_singleton] at hk'
      rw [hk']; exact hr
  · rw [hat] at hw
    split at hw
    · cases hw
    · split at hw
      · cases hw
      · rw [aAt_out (Nat.zero_le _)] at hw; cases hw
end Go.Si
