/- Order: the document's picking, in walks. No condition. -/
import Derived.Test.YtgpikmonklainaaXOG
namespace Go.Od
open Go Go.Vc Go.Vl
abbrev lnD : Ln := ([], [])
def bI : Option Nat → Int
  | none => -1
  | some j => j
section
variable {β : Type} {lt : β → β → Bool} {d : β} {xs : List β} {tk : List Bool} {i : Nat}
theorem bI_lt : ∀ i, bI (best lt d xs tk i) < i ∧ -1 ≤ bI (best lt d xs tk i)
  | 0 => by simp [best, bI]
  | i + 1 => by
    have ih := bI_lt i
    unfold best next
    split
    · omega
    · split
      · simp [bI]; omega
      · rename_i j hj
        rw [hj] at ih
        split
        · simp [bI]; omega
        · simp only [bI] at ih ⊢; omega
theorem best_yes (h : (!(tk.getD i false) && (decide (bI (best lt d xs tk i) < 0) || lt (xs.getD i d) (xs.getD (bI (best lt d xs tk i)).toNat d))) = true) : bI (best lt d xs tk (i + 1)) = i := by
  simp only [Bool.and_eq_true, Bool.or_eq_true, Bool.not_eq_true', decide_eq_true_eq] at h
  obtain ⟨h1, h2⟩ := h
  unfold best next
  rw [h1, if_neg (by simp)]
  cases hb : best lt d xs tk i with
  | none => rfl
  | some j =>
    rw [hb] at h2
    have h3 : lt (xs.getD i d) (xs.getD j d) = true := by
      rcases h2 with h2 | h2
      · simp only [bI] at h2; omega
      · exact h2
    simp only
    rw [if_pos h3]
    rfl
theorem best_no (h : (!(tk.getD i false) && (decide (bI (best lt d xs tk i) < 0) || lt (xs.getD i d) (xs.getD (bI (best lt d xs tk i)).toNat d))) = false) : bI (best lt d xs tk (i + 1)) = bI (best lt d xs tk i) := by
  show bI (next lt d xs tk (best lt d xs tk i) i) = _
  unfold next
  cases h1 : tk.getD i false
  · rw [h1] at h
    simp only [Bool.not_false, Bool.true_and, Bool.or_eq_false_iff, decide_eq_false_iff_not] at h
    obtain ⟨h2, h3⟩ := h
    rw [if_neg (by simp)]
    cases hb : best lt d xs tk i with
    | none => rw [hb] at h2; simp [bI] at h2
    | some j =>
      rw [hb] at h3
      have h3 : lt (xs.getD i d) (xs.getD j d) = false := h3
      simp only
      rw [if_neg (by rw [h3]; simp)]
  · rw [if_pos rfl]
end
theorem nth_bool {tk : List Bool} {i off : Nat} (h : i < tk.length) (e : off = i) : nth (Value.agg (tk.map Value.bool).toArray).cells.toList off = some (.bool (tk.getD i false)) := by
  subst e
  rw [nth_eq]
  simp [Value.cells, List.getElem?_eq_getElem h]
theorem splice_set {α : Type} (f : α → Value) (l : List α) (j : Nat) (x : α) (h : j < l.length) : splice (l.map f) j [f x] = (l.set j x).map f := by
  unfold splice
  rw [List.map_set, List.set_eq_take_append_cons_drop, if_pos (by simpa using h)]
  simp
theorem cut_get {β : Type} {limit : Int} {S : List β} {m : Nat} (h : m < (cut limit S).length) : (cut limit S)[m]? = S[m]? := by
  unfold cut at h ⊢
  split
  · rfl
  · rename_i hl
    rw [if_neg hl, List.length_take] at h
    rw [List.getElem?_take, if_pos (by omega)]
theorem lns_get {rps kps : List RV} {i : Nat} (h1 : i < rps.length) (h2 : i < kps.length) : ((lvs rps kps).map LV.ln).getD i lnD = ((rps.getD i rv0).row, (kps.getD i rv0).row) := by
  have h := lvs_get h1 h2
  rw [List.getD_eq_getElem?_getD, List.getElem?_map, h]
  rfl
section
variable {L : List Own} {Φ : List (World → Prop)} {P : Program}
theorem Sub.rowsO {ps rps : List RV} {rows : List (List V3)} {st : Option (Nat × List Value)} {cap : Nat} (hG : Grows RV.c 1 ps st cap) (hR : RowG RV.c 1 ps (adO st) ps.length ∈ Φ) (hF : RVF rps ∈ Φ) (hm : ∀ p ∈ ps, p ∈ rps) (hr : ps.map RV.row = rows) : Sub L Φ (.is (sliceO st ps.length cap)) (.rep (RowsR noG rows)) := by
  obtain ⟨h1, h2⟩ := hG.sl
  rw [h1]
  refine fun E v w hf e1 => ?_
  rw [show v = _ from e1]
  exact fun w' hk => ⟨ps, adO st, ps.length, capO st cap, hr, rfl, h2, hf.2 _ hR w' hk, fun p hp => hf.2 _ hF w' hk p (hm p hp), trivial⟩
theorem Sub.rowsNil : Sub L Φ (.is (.slice none 0 0)) (.rep (RowsR noG [])) := fun E v w hf e => by
  rw [show v = _ from e]
  exact fun w' _ => ⟨[], none, 0, 0, rfl, rfl, Nat.le_refl _, ⟨rfl, fun h => absurd rfl h⟩, (fun p hp => absurd hp List.not_mem_nil : RVF [] w'), trivial⟩
end
section
variable {P : Program} {L : List Own} {Φ : List (World → Prop)} {H : Know} {dst : Option Nat} {ty : TypeId} {pos : String} {after : Array Edge} {g : Option (Nat × Bool)}
theorem ob_lenG {α : Type} {en : α → List Value} {sz : Nat} {xs : List α} {st : Option (Nat × List Value)} {cap : Nat} {t e : TypeId} {x : Operand} (hG : Grows en sz xs st cap) (hu : P.underlying t = some (.slice e)) (hx : H x (.is (sliceO st xs.length cap))) : Ob P L Φ H ⟨dst, .call { callee := .builtin .len, args := #[x], argTypes := #[t] }, ty, pos, after, g⟩ (.is (.int .i64 (xs.length : Nat))) := by
  obtain ⟨h1, _⟩ := hG.sl
  rw [h1] at hx
  exact ob_len hu hx
end
end Go.Od
