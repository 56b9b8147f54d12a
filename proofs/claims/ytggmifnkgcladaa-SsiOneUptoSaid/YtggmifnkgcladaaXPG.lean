/- Ssi: two at a time; one behind the other. No condition. -/
import Derived.Test.YtggmifnkgcladaaXN8
namespace Go.Si
open Go Go.Vc Go.Vl Go.Proofs.Ytggmifnkgcladaa
structure OnI (A : List AT) (ap : Bool) (i : Nat) : Prop where
  act : ActA A 2
  ap : ap = true → (aAt A 0).writes = [] ∧ (aAt A 1).reads = []
  kp : keptA A ≤ i
  bd : Bd A 2 i
theorem OnI.read {A : List AT} {ap : Bool} {i t : Nat} (h : OnI A ap i) (ht : t < 2) (hap : ap = true → t = 0) (hi : i < 60) (r : Rd) : readA A ((t + 1 : Nat) : Int) r = (upA A t (aRd r), 0) ∧ OnI (upA A t (aRd r)) ap (i + 1) := by
  have hlt : t < A.length := by rw [h.act.1]; exact ht
  have ha : ActA (upA A t (aRd r)) 2 := h.act.up ht (fun _ => rfl)
  have hk := kept_rd hlt r
  have := h.kp
  have e := read_ok (h.act.2 t ht) (r := r) (by omega) (jA_none ha.no2)
  refine ⟨e, ha, fun hp => ?_, by omega, ?_⟩
  · obtain ⟨h1, h2⟩ := h.ap hp
    have := hap hp
    subst this
    rw [upA_at hlt, upA_at hlt, if_pos rfl, if_neg (by decide)]
    exact ⟨h1, h2⟩
  · have := h.bd.read ((t + 1 : Nat) : Int) r
    rw [e] at this; exact this
theorem OnI.write {A : List AT} {ap : Bool} {i t : Nat} (h : OnI A ap i) (ht : t < 2) (hap : ap = true → t = 1) (w : Wr) : writeA A ((t + 1 : Nat) : Int) w = (upA A t (aWr w), 0) ∧ OnI (upA A t (aWr w)) ap (i + 1) := by
  have hlt : t < A.length := by rw [h.act.1]; exact ht
  have ha : ActA (upA A t (aWr w)) 2 := h.act.up ht (fun _ => rfl)
  have := h.kp
  have e := write_ok (h.act.2 t ht) (w := w) (jA_none ha.no2)
  refine ⟨e, ha, fun hp => ?_, by rw [kept_wr hlt]; omega, ?_⟩
  · obtain ⟨h1, h2⟩ := h.ap hp
    have := hap hp
    subst this
    rw [upA_at hlt, upA_at hlt, if_neg (by decide), if_pos rfl]
    exact ⟨h1, h2⟩
  · have := h.bd.write ((t + 1 : Nat) : Int) w
    rw [e] at this; exact this
theorem no_in {A : List AT} {i : Nat} (h : (aAt A i).writes = []) : pvA A i = false := pvA_false.2 fun ⟨⟨a, h1⟩, _⟩ => by
  have := (edA_s h1).2.2.2.2.2
  unfold hitA at this
  rw [h] at this
  simp at this
theorem no_out {A : List AT} {i : Nat} (h : (aAt A i).reads = []) : pvA A i = false := pvA_false.2 fun ⟨_, ⟨a, h1⟩⟩ => by
  have := (edA_s h1).2.2.2.2.2
  unfold hitA at this
  rw [h] at this
  cases this
theorem OnI.ends {A : List AT} {ap : Bool} {i n : Nat} (h : OnI A ap i) (hok : AOk A n) : ∃ A1 n1 e1 A2 n2 e2, commitA A n 1 = (A1, n1, e1) ∧ commitA A1 n1 2 = (A2, n2, e2) ∧ n1 ≤ n + 1 ∧ (ap = true → e1 = 0 ∧ e2 = 0) ∧ (e1 = 0 ∨ e2 = 0) := by
  have h0 := h.act.2 0 (by decide)
  have h1 := h.act.2 1 (by decide)
  have hl0 : 0 < A.length := by rw [h.act.1]; decide
  cases hp : pvA A 0 with
  | true =>
    have e1 := commit_no (n := n) h0 hp
    have hs1 : (aAt (abA A 0) 1).s = 1 := by rw [abA, upA_at hl0, if_neg (by decide)]; exact h1
    have hs0 : (aAt (abA A 0) 0).s = 3 := by rw [abA, upA_at hl0, if_pos rfl]; rfl
    have hp1 : pvA (abA A 0) 1 = false := pvA_false.2 fun ⟨⟨a, h2⟩, _⟩ => by
      have h3 := edA_s h2
      have h4 := aAt_lt h3.1
      rw [abA, upA_len, h.act.1] at h4
      have h5 : a ≠ 1 := h3.2.2.1
      have : a = 0 := by omega
      rw [this] at h3
      exact h3.1 hs0
    refine ⟨_, _, _, _, _, _, e1, commit_ok hs1 hp1, by omega, fun hap => ?_, .inr rfl⟩
    rw [no_in (h.ap hap).1] at hp; cases hp
  | false =>
    have e1 := commit_ok (n := n) h0 hp
    refine ⟨_, _, _, (commitA (upA A 0 (aCm (n + 1))) (n + 1) 2).1, (commitA (upA A 0 (aCm (n + 1))) (n + 1) 2).2.1, (commitA (upA A 0 (aCm (n + 1))) (n + 1) 2).2.2, e1, rfl, by omega, fun hap => ⟨rfl, ?_⟩, .inl rfl⟩
    have hs1 : (aAt (upA A 0 (aCm (n + 1))) 1).s = 1 := by rw [upA_at hl0, if_neg (by decide)]; exact h1
    have hp1 : pvA (upA A 0 (aCm (n + 1))) 1 = false := by rw [pv_commit hok h0]; exact no_out (h.ap hap).2
    have e2 := commit_ok (n := n + 1) hs1 hp1
    rw [show (2 : Int) = ((1 + 1 : Nat) : Int) from rfl, e2]
def isElse (t : ByteArray) : Bool := seq t ⟨#[101, 108, 115, 101, 119, 104, 101, 114, 101]⟩
structure AlI (A : List AT) (n : Nat) (bs : Bool) (t : Nat) : Prop where
  len : A.length = t + 1
  cur : (aAt A t).s = 1
  old : ∀ i, i < t → (bs = true → i ≠ 0) → (aAt A i).s = 2 ∧ ∀ k, i < k → (aAt A i).done < (aAt A k).begun ∨ (aAt A k).s = 3
  bes : bs = true → 0 < t ∧ (aAt A 0).s = 1 ∧ (aAt A 0).writes = [] ∧ ∀ r ∈ (aAt A 0).reads, isElse r.t = true
  wr : ∀ i, ∀ w ∈ (aAt A i).writes, isElse w.t = false
end Go.Si
