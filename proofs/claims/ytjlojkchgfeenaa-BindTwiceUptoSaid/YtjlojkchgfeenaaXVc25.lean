/- A drawn region whose last operations stand in one row behind all others: these are walked in their order. No condition. -/
import Derived.Test.YtjlojkchgfeenaaXVc24
namespace Go.Vc
open Go
def syncOK (ops : Array Oper) (m : Nat) : Bool :=
  let B := Region.before ops
  decide (m ≤ ops.size) && ((List.range ops.size).all fun j => decide (j < m) || (List.range j).all fun i => befHas B j i) &&
  ((ops.toList.take m).all fun o => match o.guard with | some (g, _) => decide (g < m) | none => true)
section
variable {P : Program} {ops : Array Oper} {Q : Exit → Act → World → Prop}
theorem Oper.wp_exit {o : Oper} {a : Act} {w : World} {K : Act → World → Prop} {N : Act → World → Prop} (hh : o.wp P a w K (Exit.then N Q)) : o.wp P a w K Q := by
  unfold Oper.wp at *
  generalize (execOp a.eval o).run P w = r at *
  cases r with
  | ok n w' =>
    cases n <;> simp only [Oper.upon] at hh ⊢ <;>
      first
        | exact hh
        | exact Calls.mono hh (fun e w'' he => by cases e <;> first | exact he)
  | halt x w' => cases x <;> simp only [Oper.upon] at hh ⊢ <;> exact hh
theorem yielded_take {m g : Nat} (h : g < m) (tmps : Array Value) : yielded (ops.toList.take m).toArray tmps g = yielded ops tmps g := by
  unfold yielded
  congr 2
  simp [h]
theorem wanted_take {m : Nat} {o : Oper} (h : (match o.guard with | some (g, _) => decide (g < m) | none => true) = true) (tmps : Array Value) :
    Region.wanted o (yielded (ops.toList.take m).toArray tmps) = Region.wanted o (yielded ops tmps) := by
  unfold Region.wanted
  split at h
  · rename_i g b hg
    rw [hg]
    show (_ == some b) = (_ == some b)
    rw [yielded_take (of_decide_eq_true h)]
  · rename_i hg
    rw [hg]
theorem wpOp_take {m i : Nat} {a : Act} {w : World} {K N : Act → World → Prop} {o : Oper} (hi : i < m) (ho : ops[i]? = some o) (hg : (match o.guard with | some (g, _) => decide (g < m) | none => true) = true)
    (h : wpOp P (ops.toList.take m).toArray (Exit.then N Q) i K a w) : wpOp P ops Q i K a w := by
  unfold wpOp at *
  have ho' : (ops.toList.take m).toArray[i]? = some o := by simp [hi, ho]
  rw [ho'] at h
  rw [ho]
  simp only [wanted_take hg] at h
  simp only
  split
  · rename_i hw
    rw [if_pos hw] at h
    exact h.imp Oper.wp_exit fun hl => ⟨hl.1, hl.2⟩
  · rename_i hw
    rw [if_neg hw] at h
    exact h
theorem wp_region_sync {id : Nat} {dr : Bool} {a : Act} {w : World} (m : Nat) (hm : P.follows .mixedOrders = true) (hb : backOK ops = true) (hs : syncOK ops m = true) (I : Array Bool → Act → World → Prop)
    (h0 : ∀ w', (w' = w ∨ w' = w.drew) → I (Array.replicate (ops.toList.take m).toArray.size false) a w')
    (hstep : ∀ D a w i o, D.size = (ops.toList.take m).toArray.size → I D a w → (ops.toList.take m).toArray[i]? = some o → D.getD i true = false → readyAt (ops.toList.take m).toArray D i →
      wpOp P (ops.toList.take m).toArray (Exit.then (wpList P ops Q (ops.toList.drop m)) Q) i (I (D.setIfInBounds i true)) a w)
    (hend : ∀ D a w, D.size = (ops.toList.take m).toArray.size → (∀ i, i < (ops.toList.take m).toArray.size → D.getD i false = true) → I D a w → wpList P ops Q (ops.toList.drop m) a w) :
    (Code.region id ops dr).wp P Q a w := by
  unfold syncOK at hs
  simp only [Bool.and_eq_true, decide_eq_true_eq] at hs
  obtain ⟨⟨hms, hso⟩, hgs⟩ := hs
  have hsz : (ops.toList.take m).toArray.size = m := by simp; omega
  rw [hsz] at h0 hstep hend
  have hord : ∀ j, m ≤ j → j < ops.size → ∀ i, i < j → befHas (Region.before ops) j i = true := by
    intro j hmj hj i hij
    have h1 := List.all_eq_true.1 hso j (List.mem_range.2 hj)
    rw [Bool.or_eq_true] at h1
    rcases h1 with h1 | h1
    · exact absurd (of_decide_eq_true h1) (by omega)
    · exact List.all_eq_true.1 h1 i (List.mem_range.2 hij)
  have hgd : ∀ (D : Array Bool) (i : Nat), i < D.size → D.getD i true = false → D.getD i false = false := by
    intro D i hi h
    simp only [Array.getD_eq_getD_getElem?, Array.getElem?_eq_getElem hi, Option.getD_some] at h ⊢
    exact h
  have hgd' : ∀ (D : Array Bool) (i : Nat), i < D.size → D.getD i false = false → D.getD i true = false := by
    intro D i hi h
    simp only [Array.getD_eq_getD_getElem?, Array.getElem?_eq_getElem hi, Option.getD_some] at h ⊢
    exact h
  have hedge : ∀ i o, ops[i]? = some o → ∀ e ∈ o.after, Region.binds .any e = true → e.on < i := by
    intro i o ho e he hbe
    have hi : i < ops.size := (Array.getElem?_eq_some_iff.1 ho).1
    have hk := List.all_eq_true.1 hb i (List.mem_range.2 hi)
    rw [ho] at hk
    have hlt := (Array.all_eq_true_iff_forall_mem.1 hk) e he
    rw [hbe] at hlt
    simpa using hlt
  refine wp_region_inv hm hb (fun D a w => Closed ops D ∧ ((∃ D' : Array Bool, D'.size = m ∧ (∀ i, i < m → D'.getD i false = D.getD i false) ∧ (∀ j, m ≤ j → D.getD j false = false) ∧ I D' a w) ∨
      (∃ n, m ≤ n ∧ n ≤ ops.size ∧ (∀ i, i < ops.size → (D.getD i false = true ↔ i < n)) ∧ wpList P ops Q (ops.toList.drop n) a w))) ?_ ?_ ?_
  · intro w' hw'
    have hno : ∀ (n j : Nat), (Array.replicate n false).getD j false = false := by
      intro n j
      rw [Array.getD_eq_getD_getElem?, Array.getElem?_replicate]
      split <;> simp
    exact ⟨fun j hj => absurd hj (by rw [hno]; simp), .inl ⟨_, by simp, fun i _ => by rw [hno, hno], fun j _ => hno _ _, h0 w' hw'⟩⟩
  · rintro D a w i o hD ⟨hc, hI⟩ ho hd hr
    have hi : i < ops.size := (Array.getElem?_eq_some_iff.1 ho).1
    have hdf := hgd D i (by omega) hd
    have hgset : ∀ j, (D.setIfInBounds i true).getD j false = true ↔ j = i ∨ D.getD j false = true := fun j => get_set (by omega)
    have hc' : Closed ops (D.setIfInBounds i true) := by
      intro j hj
      rcases (hgset j).1 hj with rfl | hj
      · exact fun o' ho' e he hbe => (hgset e.on).2 (.inr (hr o' ho' e he hbe))
      · exact fun o' ho' e he hbe => (hgset e.on).2 (.inr (hc j hj o' ho' e he hbe))
    have row : ∀ n, n = i → m ≤ n → (∀ j, j < i → D.getD j false = true) → (∀ j, i ≤ j → j < ops.size → D.getD j false = false) → wpList P ops Q (ops.toList.drop n) a w →
        wpOp P ops Q i (fun a w => Closed ops (D.setIfInBounds i true) ∧ ((∃ D' : Array Bool, D'.size = m ∧ (∀ k, k < m → D'.getD k false = (D.setIfInBounds i true).getD k false) ∧ (∀ j, m ≤ j → (D.setIfInBounds i true).getD j false = false) ∧ I D' a w) ∨
          (∃ n, m ≤ n ∧ n ≤ ops.size ∧ (∀ k, k < ops.size → ((D.setIfInBounds i true).getD k false = true ↔ k < n)) ∧ wpList P ops Q (ops.toList.drop n) a w))) a w := by
      rintro n rfl hmn hlt hge h
      refine wpOp_mono (K := wpList P ops Q (ops.toList.drop (n + 1))) (fun a' w' h' => ⟨hc', .inr ⟨n + 1, by omega, by omega, fun k hk => ?_, h'⟩⟩) ?_
      · rw [hgset]
        constructor
        · rintro (rfl | h)
          · omega
          · rcases Nat.lt_or_ge k n with hk' | hk'
            · omega
            · rw [hge k hk' hk] at h; cases h
        · intro hkn
          rcases Nat.lt_or_ge k n with hk' | hk'
          · exact .inr (hlt k hk')
          · exact .inl (by omega)
      · have hdrop : ops.toList.drop n = o :: ops.toList.drop (n + 1) := by
          have hoe : o = ops.toList[n]'(by simpa using hi) := by
            rw [Array.getElem?_eq_getElem hi] at ho
            injection ho with ho
            rw [← ho]; simp
          rw [hoe]
          exact List.drop_eq_getElem_cons (by simpa using hi)
        rw [hdrop] at h
        unfold wpOp
        rw [ho]
        exact h
    rcases hI with ⟨D', hD', hDD, hDm, hI⟩ | ⟨n, hmn, hns, hDn, hI⟩
    · rcases Nat.lt_or_ge i m with him | him
      · have hgo : (match o.guard with | some (g, _) => decide (g < m) | none => true) = true := by
          refine List.all_eq_true.1 hgs o ?_
          rw [List.mem_take_iff_getElem]
          refine ⟨i, by simp; omega, ?_⟩
          rw [Array.getElem?_eq_getElem hi] at ho
          injection ho with ho
        refine wpOp_take (N := wpList P ops Q (ops.toList.drop m)) him ho hgo ?_
        refine wpOp_mono (fun a' w' h' => ?_) (hstep D' a w i o hD' hI (by simp [him, ho]) (hgd' D' i (by omega) (by rw [hDD i him]; exact hdf)) fun o' ho' e he hbe => ?_)
        · refine ⟨hc', .inl ⟨D'.setIfInBounds i true, by simpa using hD', fun k hk => ?_, fun j hj => ?_, h'⟩⟩
          · by_cases e : k = i
            · subst e
              rw [(get_set (D := D') (by omega)).2 (.inl rfl), (hgset k).2 (.inl rfl)]
            · have e' : i ≠ k := fun h => e h.symm
              simp only [Array.getD_eq_getD_getElem?, Array.getElem?_setIfInBounds_ne e']
              have := hDD k hk
              simpa only [Array.getD_eq_getD_getElem?] using this
          · cases hq : (D.setIfInBounds i true).getD j false with
            | false => rfl
            | true =>
              rcases (hgset j).1 hq with rfl | hq
              · omega
              · rw [hDm j hj] at hq; cases hq
        · have hoo : ops[i]? = some o' := by simpa [him] using ho'
          have hlt := hedge i o' hoo e he hbe
          rw [hDD e.on (by omega)]
          exact hr o' hoo e he hbe
      · have hall : ∀ j, j < i → D.getD j false = true := fun j hj => before_done hb hc i j hr (hord i him hi j hj)
        have hie : i = m := by
          rcases Nat.lt_or_ge m i with h | h
          · have := hall m h
            rw [hDm m (Nat.le_refl _)] at this
            cases this
          · omega
        refine row m hie.symm (Nat.le_refl _) hall (fun j hj hjs => hDm j (by omega)) (hend D' a w hD' (fun k hk => ?_) hI)
        rw [hDD k hk]
        exact hall k (by omega)
    · have hin : n ≤ i := by
        rcases Nat.lt_or_ge i n with h | h
        · rw [(hDn i hi).2 h] at hdf; cases hdf
        · exact h
      have hall : ∀ j, j < i → D.getD j false = true := fun j hj => before_done hb hc i j hr (hord i (by omega) hi j hj)
      have hie : i = n := by
        rcases Nat.lt_or_ge n i with h | h
        · have := (hDn n (by omega)).1 (hall n h)
          omega
        · omega
      refine row n hie.symm hmn hall (fun j hj hjs => ?_) hI
      cases hq : D.getD j false with
      | false => rfl
      | true => have := (hDn j hjs).1 hq; omega
  · rintro D a w hD hall ⟨_, hI⟩
    rcases hI with ⟨D', hD', hDD, hDm, hI⟩ | ⟨n, hmn, hns, hDn, hI⟩
    · have hme : m = ops.size := by
        rcases Nat.lt_or_ge m ops.size with h | h
        · have := hall m h
          rw [hDm m (Nat.le_refl _)] at this
          cases this
        · omega
      have := hend D' a w hD' (fun k hk => by rw [hDD k hk]; exact hall k (by omega)) hI
      rw [List.drop_of_length_le (by simp; omega)] at this
      exact this
    · have hne : n = ops.size := by
        rcases Nat.lt_or_ge n ops.size with h | h
        · have := (hDn n h).1 (hall n h)
          omega
        · omega
      rw [List.drop_of_length_le (by simp; omega)] at hI
      exact hI
end
end Go.Vc
namespace Go.Vc
open Go
section
variable {P : Program} {c : Ctx} {K : List (Nat × Ty)} {Lm Lk : List Own} {Φ : List (World → Prop)} {Q : Exit → Act → World → Prop}
theorem J.regionS {id : Nat} {dr : Bool} {ops : Array Oper} (m : Nat) (hmx : P.follows .mixedOrders = true) (hok : (backOK ops && syncOK ops m && regOK (ops.toList.take m).toArray) = true)
    (hdn : ((ops.toList.take m).toArray.all fun o => match o.dst with | some d => decide (d < c.n) | none => true) = true)
    (h : RT P (ops.toList.take m).toArray Lk Φ 0 (ops.toList.take m) K Lm [] (FinS P c Lk Φ (Exit.then (wpList P ops Q (ops.toList.drop m)) Q))) : J P c K (Lm ++ Lk) Φ (.region id ops dr) Q := by
  refine ⟨?_⟩
  intro E a w hsa
  simp only [Bool.and_eq_true] at hok
  obtain ⟨⟨hb, hs⟩, hr⟩ := hok
  obtain ⟨I, h0, h1, h2⟩ := region_inv (ops := (ops.toList.take m).toArray) hr hdn h hsa
  exact wp_region_sync m hmx hb hs I h0 h1 h2
theorem FinS.tail {M : List Own} {ops : Array Oper} {l : List Oper} (h : JO P c K (M ++ Lk) Φ ops l Q) : FinS P c Lk Φ (Exit.then (wpList P ops Q l) Q) K M [] := h.out
end
end Go.Vc
