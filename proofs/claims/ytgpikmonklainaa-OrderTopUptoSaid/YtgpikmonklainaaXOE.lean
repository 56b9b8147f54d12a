/- Order: what comes off the heap; plain laws. No condition. -/
import Derived.Test.YtgpikmonklainaaXOD
namespace Go.Od
open Go Go.Vc Go.Vl
section
variable {α β : Type} {lt : β → β → Bool} {V : β → Prop} {key : α → β} {d : α}
theorem pop_round (h : Ord lt V) {T : List β} {l : List α} {m : Nat} (hq : Hq lt key d l (T.take (m + 1))) (hm : m + 1 ≤ T.length) (hv : ∀ a ∈ l, V (key a)) :
    l.length = m + 1 ∧ T[m]? = some (key (top lt key d l)) ∧ Hq lt key d (pop lt key d l) (T.take m) ∧ top lt key d l ∈ l ∧ ∀ a ∈ pop lt key d l, a ∈ l := by
  have hl : l.length = m + 1 := by
    have := hq.pm.length_eq
    rw [List.length_map, List.length_take] at this
    omega
  have hne : l ≠ [] := fun e => by rw [e] at hl; cases hl
  obtain ⟨h1, h2, h3⟩ := hq.popped h hv hne
  have e : (T.take (m + 1)).dropLast = T.take m := by
    rw [List.dropLast_eq_take, List.length_take, List.take_take]
    congr 1
    omega
  rw [e] at h1 h2
  refine ⟨hl, ?_, h1, h3.mem_iff.1 (List.mem_append_right _ List.mem_cons_self), fun a ha => h3.mem_iff.1 (List.mem_append_left _ ha)⟩
  rw [List.take_add_one, List.getElem?_eq_getElem (by omega)] at h2
  have h4 := List.append_cancel_left h2
  rw [List.getElem?_eq_getElem (by omega)]
  simpa using h4
end
def topRows (limit : Int) (dn : List Bool) (ls : List Ln) : List (List V3) := (cut limit (srt (ltL dn) ls)).map Prod.fst
theorem cut_len {β : Type} (limit : Int) (S : List β) : (cut limit S).length = if limit < 0 then S.length else min limit.toNat S.length := by
  unfold cut
  split
  · rfl
  · rw [List.length_take]
theorem topRows_len (limit : Int) (dn : List Bool) (ls : List Ln) : (topRows limit dn ls).length = if limit < 0 then ls.length else min limit.toNat ls.length := by
  unfold topRows
  rw [List.length_map, cut_len, srt_len]
theorem topRows_take (limit : Int) (dn : List Bool) (ls : List Ln) : topRows limit dn ls = (topRows (-1) dn ls).take (if limit < 0 then ls.length else min limit.toNat ls.length) := by
  unfold topRows cut
  rw [if_pos (by omega : (-1 : Int) < 0), ← List.map_take]
  split
  · rw [List.take_of_length_le (by rw [srt_len]; omega)]
  · congr 1
    by_cases h : limit.toNat ≤ ls.length
    · rw [Nat.min_eq_left h]
    · rw [List.take_of_length_le (by rw [srt_len]; omega), List.take_of_length_le (by rw [srt_len]; omega)]
theorem topRows_perm (limit : Int) (dn : List Bool) {ls ms : List Ln} (hv : ∀ x ∈ ls, x.2.length = dn.length) (hp : ls.Perm ms) : topRows limit dn ls = topRows limit dn ms := by
  unfold topRows
  rw [srt_eq (ordL dn) hv hp]
theorem srt_idem (dn : List Bool) {ls : List Ln} (hv : ∀ x ∈ ls, x.2.length = dn.length) : srt (ltL dn) (srt (ltL dn) ls) = srt (ltL dn) ls :=
  srt_eq (ordL dn) (fun y hy => hv y ((srt_perm ls).mem_iff.1 hy)) (srt_perm ls)
theorem keys_not : ∀ (dn : List Bool) (a b : List V3), keysC (dn.map (!·)) a b = -keysC dn a b
  | [], _, _ => rfl
  | _ :: _, [], _ => rfl
  | _ :: _, _ :: _, [] => rfl
  | d :: ds, x :: a, y :: b => by
    show (if (bif !d then -cmpV x y else cmpV x y) != 0 then (bif !d then -cmpV x y else cmpV x y) else keysC (ds.map (!·)) a b) = -(if (bif d then -cmpV x y else cmpV x y) != 0 then (bif d then -cmpV x y else cmpV x y) else keysC ds a b)
    rw [keys_not ds a b]
    cases d <;> by_cases h : cmpV x y = 0 <;> simp [h]
theorem keys_zero : ∀ (dn : List Bool) (a b : List V3), a.length = dn.length → b.length = dn.length → keysC dn a b = 0 → a = b
  | [], [], [], _, _, _ => rfl
  | d :: ds, x :: a, y :: b, h1, h2, h => by
    have h' : (if (bif d then -cmpV x y else cmpV x y) != 0 then (bif d then -cmpV x y else cmpV x y) else keysC ds a b) = 0 := h
    by_cases e : cmpV x y = 0
    · have := (cmp_zero x y).1 e
      subst this
      cases d <;> simp [e] at h' <;> rw [keys_zero ds a b (by simpa using h1) (by simpa using h2) h']
    · cases d <;> simp [e] at h'
  | [], _ :: _, _, h, _, _ => by simp at h
  | [], [], _ :: _, _, h, _ => by simp at h
  | _ :: _, [], _, h, _, _ => by simp at h
  | _ :: _, _ :: _, [], _, h, _ => by simp at h
abbrev dup (ks : List (List V3)) : List Ln := ks.map fun k => (k, k)
theorem lt_not (dn : List Bool) {a b : List V3} (ha : a.length = dn.length) (hb : b.length = dn.length) : ltL (dn.map (!·)) (a, a) (b, b) = ltL dn (b, b) (a, a) := by
  rw [ltL_eq (by simpa using ha) (by simpa using hb), ltL_eq hb ha, line_neg dn ha hb]
  unfold lineC
  rw [keys_not]
  by_cases h : keysC dn a b = 0
  · have := keys_zero dn a b ha hb h
    subst this
    have h2 : rowsC a a = 0 := (to_V.lex.zero a a).2 rfl
    simp [h, h2]
  · have h3 : ¬ -keysC dn a b = 0 := by omega
    simp [h, h3]
theorem srt_not (dn : List Bool) {ks : List (List V3)} (hk : ∀ k ∈ ks, k.length = dn.length) : srt (ltL (dn.map (!·))) (dup ks) = (srt (ltL dn) (dup ks)).reverse := by
  have hv : ∀ x ∈ dup ks, x.2.length = dn.length ∧ x.1 = x.2 := fun x hx => by
    obtain ⟨k, h1, rfl⟩ := List.mem_map.1 hx
    exact ⟨hk k h1, rfl⟩
  have hv2 : ∀ x ∈ dup ks, x.2.length = (dn.map (!·)).length := fun x hx => by rw [List.length_map]; exact (hv x hx).1
  have hsv : ∀ x ∈ srt (ltL dn) (dup ks), x ∈ dup ks := fun x hx => (srt_perm _).mem_iff.1 hx
  refine srt_uniq (ordL (dn.map (!·))) (fun y hy => hv2 y ((srt_perm _).mem_iff.1 hy)) (srt_srt (ordL _) hv2) ?_ ((srt_perm _).trans ((srt_perm _).symm.trans (List.reverse_perm _).symm))
  have hs : Srt (ltL dn) (srt (ltL dn) (dup ks)) := srt_srt (ordL dn) (fun x hx => (hv x hx).1)
  show List.Pairwise _ _
  rw [List.pairwise_reverse]
  refine List.Pairwise.imp_of_mem (fun {a b} ha hb h => ?_) hs
  obtain ⟨h1, h2⟩ := hv a (hsv a ha)
  obtain ⟨h3, h4⟩ := hv b (hsv b hb)
  obtain ⟨a1, a2⟩ := a
  obtain ⟨b1, b2⟩ := b
  simp only at h1 h2 h3 h4
  subst h2 h4
  rw [lt_not dn h1 h3]
  exact h
end Go.Od
