/- Order: rows and lines compared; the document's picking; plain laws. No condition. -/
import Derived.Test.YtgpikmonklainaaXOB
import Derived.Test.YtgpikmonklainaaXVA
namespace Go.Od
open Go Go.Vc Go.Vl
structure TO {α : Type} (c : α → α → Int) : Prop where
  neg : ∀ a b, c b a = -c a b
  zero : ∀ a b, c a b = 0 ↔ a = b
  tr : ∀ a b d, c a b < 0 → c b d < 0 → c a d < 0
def lexC {α : Type} (c : α → α → Int) : List α → List α → Int
  | [], [] => 0
  | [], _ :: _ => -1
  | _ :: _, [] => 1
  | x :: a, y :: b => if c x y != 0 then c x y else lexC c a b
theorem lexC_c {α : Type} (c : α → α → Int) (x y : α) (a b : List α) : lexC c (x :: a) (y :: b) = if c x y != 0 then c x y else lexC c a b := rfl
theorem TO.lex {α : Type} {c : α → α → Int} (h : TO c) : TO (lexC c) := by
  have hn : ∀ a b, lexC c b a = -lexC c a b := by
    intro a
    induction a with
    | nil => intro b; cases b <;> rfl
    | cons x a ih =>
      intro b
      cases b with
      | nil => rfl
      | cons y b =>
        rw [lexC_c, lexC_c, h.neg x y, ih b]
        by_cases e : c x y = 0
        · simp [e]
        · have : ¬ -c x y = 0 := by omega
          simp [e, this]
  have hz : ∀ a b, lexC c a b = 0 ↔ a = b := by
    intro a
    induction a with
    | nil => intro b; cases b <;> simp [lexC]
    | cons x a ih =>
      intro b
      cases b with
      | nil => simp [lexC]
      | cons y b =>
        rw [lexC_c]
        by_cases e : c x y = 0
        · have := (h.zero x y).1 e
          subst this
          simp [e, ih]
        · have hne : x ≠ y := fun e2 => e ((h.zero x y).2 e2)
          simp [e, hne]
  refine ⟨hn, hz, ?_⟩
  intro a
  induction a with
  | nil =>
    intro b d h1 h2
    cases d with
    | nil =>
      cases b with
      | nil => exact h1
      | cons y b => simp [lexC] at h2
    | cons z d => simp [lexC]
  | cons x a ih =>
    intro b d h1 h2
    cases b with
    | nil => simp [lexC] at h1
    | cons y b =>
      cases d with
      | nil => simp [lexC] at h2
      | cons z d =>
        rw [lexC_c] at h1 h2 ⊢
        by_cases e1 : c x y = 0
        · have := (h.zero x y).1 e1
          subst this
          by_cases e2 : c x z = 0
          · rw [e1] at h1
            rw [e2] at h2 ⊢
            exact ih b d h1 h2
          · simpa [e2] using h2
        · have h1' : c x y < 0 := by simpa [e1] using h1
          have hxz : c x z < 0 := by
            by_cases e2 : c y z = 0
            · rw [← (h.zero y z).1 e2]; exact h1'
            · exact h.tr x y z h1' (by simpa [e2] using h2)
          have : ¬ c x z = 0 := by omega
          simpa [this] using hxz
theorem to_V : TO cmpV := ⟨cmp_neg, cmp_zero, fun a b d h1 h2 => by
  have h3 : cmpV a d ≤ 0 := cmp_trans (Int.le_of_lt h1) (Int.le_of_lt h2)
  by_cases e : cmpV a d = 0
  · have := (cmp_zero a d).1 e
    subst this
    have := cmp_neg a b
    omega
  · omega⟩
def rowsC : List V3 → List V3 → Int := lexC cmpV
def keysC : List Bool → List V3 → List V3 → Int
  | dn :: ds, x :: a, y :: b => if (bif dn then -cmpV x y else cmpV x y) != 0 then (bif dn then -cmpV x y else cmpV x y) else keysC ds a b
  | _, _, _ => 0
abbrev Ln := List V3 × List V3
def lineC (dn : List Bool) (a b : Ln) : Int := if keysC dn a.2 b.2 != 0 then keysC dn a.2 b.2 else rowsC a.1 b.1
def cmpS (p q : Bool × V3) : Int := if p.1 == q.1 then (bif p.1 then -cmpV p.2 q.2 else cmpV p.2 q.2) else if p.1 then 1 else -1
theorem to_S : TO cmpS := by
  refine ⟨fun p q => ?_, fun p q => ?_, fun p q r h1 h2 => ?_⟩
  · obtain ⟨a, x⟩ := p
    obtain ⟨b, y⟩ := q
    have := cmp_neg x y
    cases a <;> cases b <;> simp [cmpS] <;> omega
  · obtain ⟨a, x⟩ := p
    obtain ⟨b, y⟩ := q
    cases a <;> cases b <;> simp [cmpS, cmp_zero]
  · obtain ⟨a, x⟩ := p
    obtain ⟨b, y⟩ := q
    obtain ⟨d, z⟩ := r
    have t1 := to_V.tr x y z
    have t2 := to_V.tr z y x
    have n1 := cmp_neg x y
    have n2 := cmp_neg y z
    have n3 := cmp_neg x z
    cases a <;> cases b <;> cases d <;> simp [cmpS] at h1 h2 ⊢ <;> omega
def kl (dn : List Bool) (a : Ln) : List (Bool × V3) := dn.zip a.2 ++ a.1.map fun v => (false, v)
theorem rows_S : ∀ a b : List V3, lexC cmpS (a.map fun v => (false, v)) (b.map fun v => (false, v)) = rowsC a b
  | [], [] => rfl
  | [], _ :: _ => rfl
  | _ :: _, [] => rfl
  | x :: a, y :: b => by
    rw [List.map_cons, List.map_cons, lexC_c, rows_S a b]
    show (if (cmpS (false, x) (false, y)) != 0 then _ else _) = lexC cmpV (x :: a) (y :: b)
    rw [lexC_c]
    rfl
theorem line_S : ∀ (dn : List Bool) (ka kb ra rb : List V3), ka.length = dn.length → kb.length = dn.length → lineC dn (ra, ka) (rb, kb) = lexC cmpS (kl dn (ra, ka)) (kl dn (rb, kb))
  | [], [], [], ra, rb, _, _ => by
    show _ = lexC cmpS (ra.map _) (rb.map _)
    rw [rows_S]
    rfl
  | d :: ds, x :: ka, y :: kb, ra, rb, h1, h2 => by
    have ih := line_S ds ka kb ra rb (by simpa using h1) (by simpa using h2)
    show _ = lexC cmpS ((d, x) :: kl ds (ra, ka)) ((d, y) :: kl ds (rb, kb))
    rw [lexC_c, ← ih]
    have e : cmpS (d, x) (d, y) = (bif d then -cmpV x y else cmpV x y) := by simp [cmpS]
    rw [e]
    show (if keysC (d :: ds) (x :: ka) (y :: kb) != 0 then keysC (d :: ds) (x :: ka) (y :: kb) else rowsC ra rb) = _
    rw [show keysC (d :: ds) (x :: ka) (y :: kb) = if (bif d then -cmpV x y else cmpV x y) != 0 then (bif d then -cmpV x y else cmpV x y) else keysC ds ka kb from rfl]
    by_cases h : (bif d then -cmpV x y else cmpV x y) = 0
    · simp [h, lineC]
    · simp [h]
  | [], _ :: _, _, _, _, h, _ => by simp at h
  | [], [], _ :: _, _, _, _, h => by simp at h
  | _ :: _, [], _, _, _, h, _ => by simp at h
  | _ :: _, _ :: _, [], _, _, _, h => by simp at h
theorem kl_inj : ∀ (dn : List Bool) (ka kb ra rb : List V3), ka.length = dn.length → kb.length = dn.length → kl dn (ra, ka) = kl dn (rb, kb) → ra = rb ∧ ka = kb
  | [], [], [], ra, rb, _, _, h => by
    have h' : ra.map (fun v => (false, v)) = rb.map (fun v => (false, v)) := h
    refine ⟨?_, rfl⟩
    have := congrArg (List.map Prod.snd) h'
    simpa [List.map_map, Function.comp_def] using this
  | d :: ds, x :: ka, y :: kb, ra, rb, h1, h2, h => by
    have h' : (d, x) :: kl ds (ra, ka) = (d, y) :: kl ds (rb, kb) := h
    injection h' with e1 e2
    injection e1 with _ e3
    obtain ⟨q1, q2⟩ := kl_inj ds ka kb ra rb (by simpa using h1) (by simpa using h2) e2
    exact ⟨q1, by rw [e3, q2]⟩
  | [], _ :: _, _, _, _, h, _, _ => by simp at h
  | [], [], _ :: _, _, _, _, h, _ => by simp at h
  | _ :: _, [], _, _, _, h, _, _ => by simp at h
  | _ :: _, _ :: _, [], _, _, _, h, _ => by simp at h
def ltL (dn : List Bool) (a b : Ln) : Bool := decide (lexC cmpS (kl dn a) (kl dn b) < 0)
theorem ltL_eq {dn : List Bool} {a b : Ln} (ha : a.2.length = dn.length) (hb : b.2.length = dn.length) : ltL dn a b = decide (lineC dn a b < 0) := by
  unfold ltL
  rw [← line_S dn a.2 b.2 a.1 b.1 ha hb]
theorem ordL (dn : List Bool) : Ord (ltL dn) (fun a : Ln => a.2.length = dn.length) := by
  have hS := to_S.lex
  refine ⟨fun a => ?_, fun a b d h1 h2 => ?_, fun a b va vb h1 h2 => ?_⟩
  · have := (hS.zero (kl dn a) (kl dn a)).2 rfl
    simp [ltL, this]
  · simp only [ltL, decide_eq_true_eq] at *
    exact hS.tr _ _ _ h1 h2
  · simp only [ltL, decide_eq_false_iff_not] at h1 h2
    have := hS.neg (kl dn a) (kl dn b)
    have e := (hS.zero (kl dn a) (kl dn b)).1 (by omega)
    obtain ⟨q1, q2⟩ := kl_inj dn a.2 b.2 a.1 b.1 va vb e
    exact Prod.ext q1 q2
section
variable {β : Type} {lt : β → β → Bool} {V : β → Prop} {d : β}
def next (lt : β → β → Bool) (d : β) (xs : List β) (tk : List Bool) (best : Option Nat) (i : Nat) : Option Nat :=
  if tk.getD i false then best else match best with
    | none => some i
    | some j => if lt (xs.getD i d) (xs.getD j d) then some i else some j
def best (lt : β → β → Bool) (d : β) (xs : List β) (tk : List Bool) : Nat → Option Nat
  | 0 => none
  | i + 1 => next lt d xs tk (best lt d xs tk i) i
theorem best_spec (h : Ord lt V) {xs : List β} {tk : List Bool} (hv : ∀ x ∈ xs, V x) : ∀ n, n ≤ xs.length →
    match best lt d xs tk n with
    | none => ∀ i, i < n → tk.getD i false = true
    | some j => j < n ∧ tk.getD j false = false ∧ ∀ i, i < n → tk.getD i false = false → lt (xs.getD i d) (xs.getD j d) = false := by
  intro n
  induction n with
  | zero => intro _; exact fun i hi => absurd hi (Nat.not_lt_zero _)
  | succ n ih =>
    intro hn
    have hV : ∀ i, i < xs.length → V (xs.getD i d) := fun i hi => by rw [getD_lt hi]; exact hv _ (List.getElem_mem hi)
    have ih := ih (by omega)
    unfold best next
    cases et : tk.getD n false
    · rw [if_neg (by simp)]
      cases eb : best lt d xs tk n with
      | none =>
        rw [eb] at ih
        refine ⟨Nat.lt_succ_self n, et, fun i hi hti => ?_⟩
        rcases Nat.lt_succ_iff_lt_or_eq.1 hi with hi | rfl
        · rw [ih i hi] at hti; cases hti
        · exact h.irr _
      | some j =>
        rw [eb] at ih
        obtain ⟨h1, h2, h3⟩ := ih
        simp only
        cases el : lt (xs.getD n d) (xs.getD j d)
        · rw [if_neg (by simp)]
          refine ⟨by omega, h2, fun i hi hti => ?_⟩
          rcases Nat.lt_succ_iff_lt_or_eq.1 hi with hi | rfl
          · exact h3 i hi hti
          · exact el
        · rw [if_pos rfl]
          refine ⟨Nat.lt_succ_self n, et, fun i hi hti => ?_⟩
          rcases Nat.lt_succ_iff_lt_or_eq.1 hi with hi | rfl
          · exact h.ntr (hV i (by omega)) (hV j (by omega)) (h3 i hi hti) (h.asym el)
          · exact h.irr _
    · rw [if_pos rfl]
      cases eb : best lt d xs tk n with
      | none =>
        rw [eb] at ih
        intro i hi
        rcases Nat.lt_succ_iff_lt_or_eq.1 hi with hi | rfl
        · exact ih i hi
        · exact et
      | some j =>
        rw [eb] at ih
        obtain ⟨h1, h2, h3⟩ := ih
        refine ⟨by omega, h2, fun i hi hti => ?_⟩
        rcases Nat.lt_succ_iff_lt_or_eq.1 hi with hi | rfl
        · exact h3 i hi hti
        · rw [et] at hti; cases hti
def rest : List β → List Bool → List β
  | x :: xs, b :: tk => bif b then rest xs tk else x :: rest xs tk
  | _, _ => []
theorem rest_set : ∀ (xs : List β) (tk : List Bool) (j : Nat), tk.length = xs.length → j < xs.length → tk.getD j false = false → (rest xs tk).Perm (xs.getD j d :: rest xs (tk.set j true))
  | [], _, _, _, h, _ => absurd h (Nat.not_lt_zero _)
  | _ :: _, [], _, h, _, _ => by simp at h
  | x :: xs, b :: tk, 0, _, _, h => by
    have hb : b = false := by simpa using h
    subst hb
    exact .refl _
  | x :: xs, b :: tk, j + 1, hl, hj, h => by
    have ih := rest_set xs tk j (by simpa using hl) (by simpa using hj) (by simpa using h)
    cases b
    · exact (ih.cons x).trans (.swap _ _ _)
    · exact ih
theorem rest_mem : ∀ (xs : List β) (tk : List Bool), tk.length = xs.length → ∀ y, y ∈ rest xs tk → ∃ i, i < xs.length ∧ tk.getD i false = false ∧ xs.getD i d = y
  | [], [], _, y, h => by simp [rest] at h
  | [], _ :: _, h, _, _ => by simp at h
  | _ :: _, [], h, _, _ => by simp at h
  | x :: xs, b :: tk, hl, y, h => by
    have ih := rest_mem xs tk (by simpa using hl) y
    cases b
    · rcases List.mem_cons.1 h with rfl | h
      · exact ⟨0, by simp, rfl, rfl⟩
      · obtain ⟨i, h1, h2, h3⟩ := ih h
        exact ⟨i + 1, by simpa using h1, by simpa using h2, by simpa using h3⟩
    · obtain ⟨i, h1, h2, h3⟩ := ih h
      exact ⟨i + 1, by simpa using h1, by simpa using h2, by simpa using h3⟩
theorem rest_none : ∀ (xs : List β), rest xs (List.replicate xs.length false) = xs
  | [] => rfl
  | x :: xs => by
    rw [List.length_cons, List.replicate_succ]
    show x :: rest xs _ = _
    rw [rest_none xs]
theorem pick_step (h : Ord lt V) {xs : List β} {tk : List Bool} {m : Nat} (hv : ∀ x ∈ xs, V x) (hl : tk.length = xs.length) (hm : m < xs.length) (hp : (rest xs tk).Perm ((srt lt xs).drop m)) :
    ∃ j, best lt d xs tk xs.length = some j ∧ j < xs.length ∧ (srt lt xs)[m]? = some (xs.getD j d) ∧ (rest xs (tk.set j true)).Perm ((srt lt xs).drop (m + 1)) := by
  have hsl : m < (srt lt xs).length := by rw [srt_len]; exact hm
  have hd : (srt lt xs).drop m = (srt lt xs)[m] :: (srt lt xs).drop (m + 1) := List.drop_eq_getElem_cons hsl
  have hb := best_spec (d := d) (tk := tk) h hv xs.length (Nat.le_refl _)
  have hhd : (srt lt xs)[m] ∈ rest xs tk := hp.mem_iff.2 (by rw [hd]; exact List.mem_cons_self)
  obtain ⟨i, hi, hti, hxi⟩ := rest_mem (d := d) xs tk hl _ hhd
  cases eb : best lt d xs tk xs.length with
  | none =>
    rw [eb] at hb
    rw [hb i hi] at hti; cases hti
  | some j =>
    rw [eb] at hb
    obtain ⟨hj, htj, hmin⟩ := hb
    have hset := rest_set (d := d) xs tk j hl hj htj
    have hjm : xs.getD j d ∈ (srt lt xs).drop m := hp.mem_iff.1 (hset.mem_iff.2 List.mem_cons_self)
    have e : (srt lt xs)[m] = xs.getD j d := by
      have hst : Srt lt (srt lt xs) := srt_srt h hv
      have hst2 : Srt lt ((srt lt xs).drop m) := hst.sublist (List.drop_sublist _ _)
      rw [hd] at hst2 hjm
      refine h.tot _ _ (hv _ ((srt_perm xs).mem_iff.1 (List.getElem_mem hsl))) (hv _ (by rw [getD_lt hj]; exact List.getElem_mem hj)) ?_ ?_
      · rw [← hxi]; exact hmin i hi hti
      · rcases List.mem_cons.1 hjm with e | hm'
        · rw [e]; exact h.irr _
        · exact (List.pairwise_cons.1 hst2).1 _ hm'
    refine ⟨j, rfl, hj, by rw [List.getElem?_eq_getElem hsl, e], ?_⟩
    have h2 := hset.symm.trans hp
    rw [hd, e] at h2
    exact (List.perm_cons _).1 h2
end
end Go.Od
