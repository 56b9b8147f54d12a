/- Order: the heap's calls on lists; plain laws. No condition. -/
import Derived.Test.YtgpikmonklainaaXOA
namespace Go.Od
section
variable {α β : Type} (lt : β → β → Bool) (key : α → β) (d : α)
abbrev kt (l : List α) (k : Nat) : β := key (l.getD k d)
def swp (l : List α) (i j : Nat) : List α := (l.set i (l.getD j d)).set j (l.getD i d)
def up (l : List α) (j : Nat) : List α := if h : 0 < j ∧ lt (kt key d l ((j - 1) / 2)) (kt key d l j) = true then up (swp d l ((j - 1) / 2) j) ((j - 1) / 2) else l
termination_by j
decreasing_by omega
def big (l : List α) (i n : Nat) : Nat := if 2 * i + 2 < n ∧ lt (kt key d l (2 * i + 1)) (kt key d l (2 * i + 2)) = true then 2 * i + 2 else 2 * i + 1
def down (l : List α) (i n : Nat) : List α :=
  if h : 2 * i + 1 < n ∧ lt (kt key d l i) (kt key d l (big lt key d l i n)) = true then down (swp d l i (big lt key d l i n)) (big lt key d l i n) n else l
termination_by n - i
decreasing_by
  have : i < big lt key d l i n ∧ big lt key d l i n ≤ 2 * i + 2 := by unfold big; split <;> omega
  omega
def push (l : List α) (x : α) : List α := up lt key d (l ++ [x]) l.length
def popL (l : List α) : List α := down lt key d (swp d l 0 (l.length - 1)) 0 (l.length - 1)
def pop (l : List α) : List α := (popL lt key d l).take (l.length - 1)
def top (l : List α) : α := (popL lt key d l).getD (l.length - 1) d
end
section
variable {α β : Type} {lt : β → β → Bool} {V : β → Prop} {key : α → β} {d : α}
theorem swp_len (l : List α) (i j : Nat) : (swp d l i j).length = l.length := by simp [swp]
theorem getD_set (l : List α) (i k : Nat) (v : α) (hi : i < l.length) : (l.set i v).getD k d = if k = i then v else l.getD k d := by
  rw [List.getD_eq_getElem?_getD, List.getD_eq_getElem?_getD, List.getElem?_set]
  by_cases e : i = k
  · subst e; simp [hi]
  · rw [if_neg e, if_neg (fun h => e h.symm)]
theorem swp_at {l : List α} {i j : Nat} (hi : i < l.length) (hj : j < l.length) (k : Nat) : (swp d l i j).getD k d = if k = i then l.getD j d else if k = j then l.getD i d else l.getD k d := by
  unfold swp
  rw [getD_set _ _ _ _ (by simpa using hj), getD_set _ _ _ _ hi]
  by_cases e1 : k = j
  · subst e1
    by_cases e2 : k = i
    · subst e2; simp
    · simp [e2]
  · simp [e1]
theorem swp_kt {l : List α} {i j : Nat} (hi : i < l.length) (hj : j < l.length) : kt key d (swp d l i j) = sw (kt key d l) i j := by
  funext k
  show key _ = if k = i then key _ else if k = j then key _ else key _
  rw [swp_at hi hj]
  split
  · rfl
  · split <;> rfl
theorem getD_lt {l : List α} {k : Nat} (h : k < l.length) : l.getD k d = l[k] := by simp [h]
theorem swp_perm {l : List α} {i j : Nat} (hi : i < l.length) (hj : j < l.length) : (swp d l i j).Perm l := by
  unfold swp
  rw [getD_lt hi, getD_lt hj]
  exact List.set_set_perm hi hj
theorem kt_V {l : List α} (hv : ∀ a ∈ l, V (key a)) {k : Nat} (h : k < l.length) : V (kt key d l k) := by
  show V (key (l.getD k d))
  rw [getD_lt h]
  exact hv _ (List.getElem_mem h)
theorem up_spec (h : Ord lt V) : ∀ (j : Nat) (l : List α), (∀ a ∈ l, V (key a)) → j < l.length → HpX lt (kt key d l) l.length (· = j) → (∀ k, 0 < k → k < l.length → (k - 1) / 2 = j → 0 < j → lt (kt key d l ((j - 1) / 2)) (kt key d l k) = false) →
    Hp lt (kt key d (up lt key d l j)) l.length ∧ (up lt key d l j).Perm l := by
  intro j
  induction j using Nat.strongRecOn with
  | _ j ih =>
    intro l hv hj hh hx
    unfold up
    split
    · rename_i hc
      have hi : (j - 1) / 2 < l.length := by omega
      have h1 := up_step h (i := (j - 1) / 2) (fun k hk => kt_V (d := d) hv hk) hj hc.1 rfl hh (fun k h0 hk e => hx k h0 hk e hc.1) hc.2
      rw [← swp_kt hi hj, ← swp_len (d := d) l ((j - 1) / 2) j] at h1
      have h2 := ih ((j - 1) / 2) (by omega) (swp d l ((j - 1) / 2) j) (fun a ha => hv a ((swp_perm hi hj).mem_iff.1 ha)) (by rw [swp_len]; exact hi) h1.1 h1.2
      rw [swp_len] at h2
      exact ⟨h2.1, h2.2.trans (swp_perm hi hj)⟩
    · rename_i hc
      refine ⟨fun k h0 hk _ => ?_, .refl _⟩
      by_cases e : k = j
      · subst e
        cases e2 : lt (kt key d l ((k - 1) / 2)) (kt key d l k)
        · rfl
        · exact absurd ⟨h0, e2⟩ hc
      · exact hh k h0 hk e
theorem up_len (j : Nat) : ∀ (l : List α), (up lt key d l j).length = l.length := by
  induction j using Nat.strongRecOn with
  | _ j ih =>
    intro l
    unfold up
    split
    · rw [ih _ (by omega), swp_len]
    · rfl
theorem big_le (l : List α) (i n : Nat) : i < big lt key d l i n ∧ big lt key d l i n ≤ 2 * i + 2 ∧ (2 * i + 1 < n → big lt key d l i n < n) ∧ (big lt key d l i n - 1) / 2 = i := by unfold big; split <;> omega
theorem big_max (h : Ord lt V) (l : List α) (i n : Nat) : ∀ k, 0 < k → k < n → (k - 1) / 2 = i → lt (kt key d l (big lt key d l i n)) (kt key d l k) = false := by
  intro k h0 hk hi
  have hk2 : k = 2 * i + 1 ∨ k = 2 * i + 2 := by omega
  unfold big
  split
  · rename_i hc
    rcases hk2 with rfl | rfl
    · exact h.asym hc.2
    · exact h.irr _
  · rename_i hc
    rcases hk2 with rfl | rfl
    · exact h.irr _
    · cases e : lt (kt key d l (2 * i + 1)) (kt key d l (2 * i + 2))
      · rfl
      · exact absurd ⟨hk, e⟩ hc
theorem down_spec (h : Ord lt V) (n : Nat) : ∀ (m i : Nat) (l : List α), n - i ≤ m → (∀ a ∈ l, V (key a)) → n ≤ l.length → HpX lt (kt key d l) n (fun k => (k - 1) / 2 = i) → (0 < i → ∀ k, 0 < k → k < n → (k - 1) / 2 = i → lt (kt key d l ((i - 1) / 2)) (kt key d l k) = false) →
    Hp lt (kt key d (down lt key d l i n)) n ∧ (down lt key d l i n).Perm l ∧ ∀ k, n ≤ k → (down lt key d l i n).getD k d = l.getD k d := by
  intro m
  induction m with
  | zero =>
    intro i l hm hv hn hh hx
    unfold down
    rw [dif_neg (by omega)]
    exact ⟨fun k h0 hk _ => hh k h0 hk (by omega), .refl _, fun _ _ => rfl⟩
  | succ m ih =>
    intro i l hm hv hn hh hx
    obtain ⟨b1, b2, b3, b4⟩ := big_le (lt := lt) (key := key) (d := d) l i n
    unfold down
    split
    · rename_i hc
      have hj := b3 hc.1
      have hjl : big lt key d l i n < l.length := by omega
      have hi : i < l.length := by omega
      have h1 := down_step h (n := n) (f := kt key d l) (i := i) (j := big lt key d l i n) (fun k hk => kt_V (d := d) hv (by omega)) hj (by omega) b4.symm hh hx hc.2 (big_max h l i n)
      rw [← swp_kt hi hjl] at h1
      have h2 := ih (big lt key d l i n) (swp d l i (big lt key d l i n)) (by omega) (fun a ha => hv a ((swp_perm hi hjl).mem_iff.1 ha)) (by rw [swp_len]; exact hn) h1.1 h1.2
      refine ⟨h2.1, h2.2.1.trans (swp_perm hi hjl), fun k hk => ?_⟩
      rw [h2.2.2 k hk, swp_at hi hjl, if_neg (by omega), if_neg (by omega)]
    · rename_i hc
      refine ⟨fun k h0 hk _ => ?_, .refl _, fun _ _ => rfl⟩
      by_cases e : (k - 1) / 2 = i
      · rw [e]
        have hmx := big_max (lt := lt) (key := key) (d := d) h l i n k h0 hk e
        have h3 : lt (kt key d l i) (kt key d l (big lt key d l i n)) = false := by
          cases e2 : lt (kt key d l i) (kt key d l (big lt key d l i n))
          · rfl
          · exact absurd ⟨by omega, e2⟩ hc
        exact h.ntr (kt_V (d := d) hv (by omega)) (kt_V (d := d) hv (by have := b3 (by omega); omega)) h3 hmx
      · exact hh k h0 hk e
theorem down_len (n : Nat) : ∀ (m i : Nat) (l : List α), n - i ≤ m → (down lt key d l i n).length = l.length := by
  intro m
  induction m with
  | zero => intro i l hm; unfold down; rw [dif_neg (by omega)]
  | succ m ih =>
    intro i l hm
    have := big_le (lt := lt) (key := key) (d := d) l i n
    unfold down
    split
    · rw [ih _ _ (by omega), swp_len]
    · rfl
structure Hq (lt : β → β → Bool) (key : α → β) (d : α) (l : List α) (S : List β) : Prop where
  hp : Hp lt (kt key d l) l.length
  pm : (l.map key).Perm S
  st : Srt lt S
theorem push_len (l : List α) (x : α) : (push lt key d l x).length = l.length + 1 := by unfold push; rw [up_len]; simp
theorem Hq.nil : Hq lt key d ([] : List α) [] := ⟨fun k _ hk _ => absurd hk (Nat.not_lt_zero _), .refl _, .nil⟩
theorem Hq.vs {l : List α} {S : List β} (hq : Hq lt key d l S) (hv : ∀ a ∈ l, V (key a)) : ∀ y ∈ S, V y := fun y hy => by
  obtain ⟨a, ha, rfl⟩ := List.mem_map.1 (hq.pm.mem_iff.2 hy)
  exact hv a ha
theorem push_perm (h : Ord lt V) {l : List α} {x : α} {S : List β} (hq : Hq lt key d l S) (hv : ∀ a ∈ l, V (key a)) (vx : V (key x)) : Hp lt (kt key d (push lt key d l x)) (l.length + 1) ∧ (push lt key d l x).Perm (x :: l) := by
  have hv' : ∀ a ∈ l ++ [x], V (key a) := fun a ha => by
    rcases List.mem_append.1 ha with ha | ha
    · exact hv a ha
    · rw [List.mem_singleton.1 ha]; exact vx
  have hl : (l ++ [x]).length = l.length + 1 := by simp
  have h1 := up_spec (d := d) h l.length (l ++ [x]) hv' (by omega) (fun k h0 hk hne => ?_) (fun k h0 hk he => by omega)
  · rw [hl] at h1
    exact ⟨h1.1, h1.2.trans List.perm_append_comm⟩
  · have hk' : k < l.length := by
      have : k ≠ l.length := hne
      omega
    have e1 : (l ++ [x]).getD k d = l.getD k d := by rw [List.getD_eq_getElem?_getD, List.getD_eq_getElem?_getD, List.getElem?_append_left hk']
    have e2 : (l ++ [x]).getD ((k - 1) / 2) d = l.getD ((k - 1) / 2) d := by rw [List.getD_eq_getElem?_getD, List.getD_eq_getElem?_getD, List.getElem?_append_left (by omega)]
    show lt (key _) (key _) = false
    rw [e1, e2]
    exact hq.hp k h0 hk' id
theorem Hq.pushed (h : Ord lt V) {l : List α} {x : α} {S : List β} (hq : Hq lt key d l S) (hv : ∀ a ∈ l, V (key a)) (vx : V (key x)) : Hq lt key d (push lt key d l x) (ins lt (key x) S) := by
  have h1 := push_perm h hq hv vx
  refine ⟨by rw [push_len]; exact h1.1, ?_, ins_srt h vx (hq.vs hv) hq.st⟩
  exact (h1.2.map key).trans (((hq.pm.cons (key x))).trans (ins_perm (key x) S).symm)
theorem pop_all (h : Ord lt V) {l : List α} {S : List β} (hq : Hq lt key d l S) (hv : ∀ a ∈ l, V (key a)) (hne : l ≠ []) :
    Hp lt (kt key d (popL lt key d l)) (l.length - 1) ∧ (popL lt key d l).Perm l ∧ top lt key d l = l.getD 0 d := by
  have hpos : 0 < l.length := List.length_pos_iff.2 hne
  have h0 : 0 < l.length := hpos
  have hn : l.length - 1 < l.length := by omega
  have hv' : ∀ a ∈ swp d l 0 (l.length - 1), V (key a) := fun a ha => hv a ((swp_perm h0 hn).mem_iff.1 ha)
  have h1 := down_spec (d := d) (key := key) h (l.length - 1) (l.length - 1) 0 (swp d l 0 (l.length - 1)) (by omega) hv' (by rw [swp_len]; omega) (fun k hk0 hk hne => ?_) (fun hlt => absurd hlt (by omega))
  · refine ⟨h1.1, h1.2.1.trans (swp_perm h0 hn), ?_⟩
    unfold top popL
    rw [h1.2.2 _ (Nat.le_refl _), swp_at h0 hn]
    by_cases e : l.length - 1 = 0
    · rw [if_pos e, e]
    · rw [if_neg e, if_pos rfl]
  · show lt (key _) (key _) = false
    have e : (k - 1) / 2 ≠ 0 := hne
    rw [swp_at h0 hn, swp_at h0 hn, if_neg e, if_neg (by omega), if_neg (by omega), if_neg (by omega)]
    exact hq.hp k hk0 (by omega) id
theorem popL_len (l : List α) : (popL lt key d l).length = l.length := by unfold popL; rw [down_len _ _ _ _ (Nat.le_refl _), swp_len]
theorem pop_len (l : List α) : (pop lt key d l).length = l.length - 1 := by unfold pop; rw [List.length_take, popL_len]; omega
theorem pop_split {l : List α} (hne : l ≠ []) : popL lt key d l = pop lt key d l ++ [top lt key d l] := by
  have hpos : 0 < l.length := List.length_pos_iff.2 hne
  have e : (popL lt key d l).take (l.length - 1 + 1) = popL lt key d l := List.take_of_length_le (by rw [popL_len]; omega)
  rw [← e, List.take_add_one]
  unfold pop top
  rw [List.getElem?_eq_getElem (by rw [popL_len]; omega), List.getD_eq_getElem?_getD, List.getElem?_eq_getElem (by rw [popL_len]; omega)]
  simp
theorem Hq.popped (h : Ord lt V) {l : List α} {S : List β} (hq : Hq lt key d l S) (hv : ∀ a ∈ l, V (key a)) (hne : l ≠ []) :
    Hq lt key d (pop lt key d l) S.dropLast ∧ S = S.dropLast ++ [key (top lt key d l)] ∧ (pop lt key d l ++ [top lt key d l]).Perm l := by
  have hpos : 0 < l.length := List.length_pos_iff.2 hne
  obtain ⟨h1, h2, h3⟩ := pop_all h hq hv hne
  rw [pop_split hne] at h2
  have hS : S ≠ [] := fun e => by
    have := hq.pm.length_eq
    rw [e, List.length_map, List.length_nil] at this
    omega
  have hvS := hq.vs hv
  have hsp : S.dropLast ++ [S.getLast hS] = S := List.dropLast_concat_getLast hS
  have hst := hq.st
  rw [← hsp] at hst
  have hst' := List.pairwise_append.1 hst
  have hle : S.getLast hS ∈ S := List.getLast_mem hS
  have htl : top lt key d l ∈ l := h2.mem_iff.1 (List.mem_append_right _ List.mem_cons_self)
  have hkt : key (top lt key d l) ∈ S := hq.pm.mem_iff.1 (List.mem_map_of_mem htl)
  have e : key (top lt key d l) = S.getLast hS := by
    refine h.tot _ _ (hvS _ hkt) (hvS _ hle) ?_ ?_
    · obtain ⟨a, ha, e⟩ := List.mem_map.1 (hq.pm.mem_iff.2 hle)
      obtain ⟨k, hk, e2⟩ := List.getElem_of_mem ha
      have := hp_root h (fun k hk => kt_V (d := d) hv hk) hq.hp k hk
      rw [h3, ← e, ← e2, ← getD_lt (d := d) hk]
      exact this
    · rw [← hsp] at hkt
      rcases List.mem_append.1 hkt with hm | hm
      · exact hst'.2.2 _ hm _ List.mem_cons_self
      · rw [List.mem_singleton.1 hm]; exact h.irr _
  refine ⟨⟨?_, ?_, hst'.1⟩, by rw [e, hsp], h2⟩
  · intro k h0 hk _
    rw [pop_len] at hk
    have hq1 := h1 k h0 hk id
    rw [show popL lt key d l = pop lt key d l ++ [top lt key d l] from pop_split hne] at hq1
    have e1 : ∀ i, i < l.length - 1 → (pop lt key d l ++ [top lt key d l]).getD i d = (pop lt key d l).getD i d := fun i hi => by
      rw [List.getD_eq_getElem?_getD, List.getD_eq_getElem?_getD, List.getElem?_append_left (by rw [pop_len]; exact hi)]
    show lt (key _) (key _) = false
    rw [← e1 _ (by omega), ← e1 _ hk]
    exact hq1
  · have h4 : ((pop lt key d l).map key ++ [key (top lt key d l)]).Perm (S.dropLast ++ [S.getLast hS]) := by
      rw [hsp]
      have := h2.map key
      rw [List.map_append] at this
      exact this.trans hq.pm
    rw [e] at h4
    exact (List.perm_append_right_iff _).1 h4
def cut (limit : Int) (S : List β) : List β := if limit < 0 then S else S.take limit.toNat
def step1 (lt : β → β → Bool) (key : α → β) (d : α) (limit : Int) (l : List α) (x : α) : List α :=
  if 0 ≤ limit ∧ limit < ((push lt key d l x).length : Int) then pop lt key d (push lt key d l x) else push lt key d l x
theorem step1_spec (h : Ord lt V) {limit : Int} {l : List α} {x : α} {T : List β} (hT : ∀ y ∈ T, V y) (hq : Hq lt key d l (cut limit (srt lt T))) (hv : ∀ a ∈ l, V (key a)) (vx : V (key x)) :
    Hq lt key d (step1 lt key d limit l x) (cut limit (srt lt (T ++ [key x]))) ∧ (∀ a ∈ step1 lt key d limit l x, a = x ∨ a ∈ l) := by
  have hp := hq.pushed h hv vx
  have hpp := (push_perm h hq hv vx).2
  have hm : ∀ a ∈ push lt key d l x, a = x ∨ a ∈ l := fun a ha => List.mem_cons.1 (hpp.mem_iff.1 ha)
  have hv1 : ∀ a ∈ push lt key d l x, V (key a) := fun a ha => by
    rcases hm a ha with rfl | ha
    · exact vx
    · exact hv a ha
  rw [srt_snoc h hT vx]
  have hlen : l.length = (cut limit (srt lt T)).length := by rw [← hq.pm.length_eq, List.length_map]
  unfold step1
  rw [push_len]
  unfold cut at hq hp hlen ⊢
  split
  · rename_i hc
    rw [if_neg (by omega)] at hq hp hlen ⊢
    have hne : push lt key d l x ≠ [] := fun e => by
      have := push_len (lt := lt) (key := key) (d := d) l x
      rw [e] at this; cases this
    obtain ⟨h1, h2, h3⟩ := hp.popped h hv1 hne
    refine ⟨?_, fun a ha => hm a (h3.mem_iff.1 (List.mem_append_left _ ha))⟩
    have hk : (ins lt (key x) ((srt lt T).take limit.toNat)).length = limit.toNat + 1 := by
      rw [ins_len]
      have := List.length_take (l := srt lt T) (i := limit.toNat)
      omega
    have e : (ins lt (key x) ((srt lt T).take limit.toNat)).dropLast = (ins lt (key x) (srt lt T)).take limit.toNat := by
      rw [List.dropLast_eq_take, hk, Nat.add_sub_cancel, ins_take]
    rw [e] at h1
    exact h1
  · rename_i hc
    refine ⟨?_, hm⟩
    by_cases hl : limit < 0
    · rw [if_pos hl] at hq hp ⊢
      exact hp
    · rw [if_neg hl] at hq hp hlen ⊢
      have e : ins lt (key x) ((srt lt T).take limit.toNat) = (ins lt (key x) (srt lt T)).take limit.toNat := by
        rw [← ins_take]
        exact (List.take_of_length_le (by rw [ins_len]; omega)).symm
      rw [e] at hp
      exact hp
def heapOf (lt : β → β → Bool) (key : α → β) (d : α) (limit : Int) (xs : List α) : List α := xs.foldl (step1 lt key d limit) []
theorem heapOf_snoc (limit : Int) (xs : List α) (x : α) : heapOf lt key d limit (xs ++ [x]) = step1 lt key d limit (heapOf lt key d limit xs) x := by unfold heapOf; rw [List.foldl_append]; rfl
theorem heapOf_spec (h : Ord lt V) (limit : Int) : ∀ (n : Nat) (xs : List α), xs.length = n → (∀ a ∈ xs, V (key a)) → Hq lt key d (heapOf lt key d limit xs) (cut limit (srt lt (xs.map key))) ∧ ∀ a ∈ heapOf lt key d limit xs, a ∈ xs
  | 0, xs, hn, _ => by
    have : xs = [] := List.length_eq_zero_iff.1 hn
    subst this
    refine ⟨?_, fun a ha => ha⟩
    have : cut limit (srt lt (List.map key ([] : List α))) = [] := by unfold cut srt; simp
    rw [this]
    exact .nil
  | n + 1, xs, hn, hv => by
    have hne : xs ≠ [] := fun e => by rw [e] at hn; cases hn
    have e := List.dropLast_concat_getLast hne
    have hl : xs.dropLast.length = n := by rw [List.length_dropLast, hn]; rfl
    have hv1 : ∀ a ∈ xs.dropLast, V (key a) := fun a ha => hv a (List.dropLast_subset _ ha)
    obtain ⟨h1, h2⟩ := heapOf_spec h limit n xs.dropLast hl hv1
    have h3 := step1_spec (d := d) (limit := limit) h (T := xs.dropLast.map key) (x := xs.getLast hne) (fun y hy => by obtain ⟨a, ha, rfl⟩ := List.mem_map.1 hy; exact hv1 a ha) h1 (fun a ha => hv1 a (h2 a ha)) (hv _ (List.getLast_mem hne))
    rw [← heapOf_snoc, e] at h3
    have e2 : xs.dropLast.map key ++ [key (xs.getLast hne)] = xs.map key := by rw [← List.map_singleton (f := key), ← List.map_append, e]
    rw [e2] at h3
    refine ⟨h3.1, fun a ha => ?_⟩
    rcases h3.2 a ha with rfl | ha
    · exact List.getLast_mem hne
    · exact List.dropLast_subset _ (h2 a ha)
end
end Go.Od
