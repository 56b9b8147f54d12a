/- Data in memory: rows of values, expressions. No condition. -/
import Derived.Test.YtjlojkchgfeenaaXVc11
namespace Go.Vc
open Go
def RowAt (cs : List Value) (b o : Nat) (w : World) : Prop := ∀ j v, cs[j]? = some v → w.cell? ⟨b, o + j, none⟩ = some v
theorem not_excl {E : Nat → Prop} {w : World} {b o : Nat} (h : Pers E w fun w => ∃ k n, w.cell? ⟨b, o, none⟩ = some (.int k n)) : ¬ E b := by
  intro hE
  obtain ⟨k, n, hc⟩ := h.now
  unfold World.cell? at hc
  cases hb : w.heap[b]? with
  | none => simp [hb] at hc
  | some ob =>
    cases ob with
    | cells cs t fr =>
      have ho : o < cs.size := by
        simp [hb] at hc
        exact (Array.getElem?_eq_some_iff.1 hc).1
      have hk : Keeps E w (w.setRow b (cs.setIfInBounds o (.bool true))) := by
        refine ⟨rfl, rfl, rfl, by rw [size_setRow]; exact Nat.le_refl _, fun q _ hq => heap_setRow_ne w b _ (fun e => hq (by rw [e]; exact hE)), fun q cs' t' fr' hq => ?_⟩
        by_cases e : q = b
        · subst e
          rw [hb] at hq
          injection hq with hq
          injection hq with h1 h2 h3
          subst h1 h2 h3
          exact ⟨_, heap_setRow w q _ _ _ _ hb, by simp⟩
        · exact ⟨cs', (heap_setRow_ne w b _ e).trans hq, rfl⟩
      obtain ⟨k', n', hc'⟩ := h _ hk
      rw [cell_of_blk (heap_setRow w b _ _ _ _ hb), Array.getElem?_setIfInBounds_self_of_lt ho] at hc'
      injection hc' with hc'
      cases hc'
    | _ => simp [hb] at hc
inductive Ex where
  | mk (k vk vn : Int) (vs tb nm : ByteArray) (sl : Int) (kids : List Ex)
def exCells (k vk vn : Int) (vs tb nm : ByteArray) (sl : Int) (a : Option Addr) (len cap : Nat) : List Value :=
  [.int .i64 k, .int .i64 vk, .int .i64 vn, .string vs, .string tb, .string nm, .int .i64 sl, .slice a len cap]
mutual
def ExR : Ex → Value → World → Prop
  | .mk k vk vn vs tb nm sl kids, v, w => ∃ a len cap, v = .agg (exCells k vk vn vs tb nm sl a len cap).toArray ∧ kids.length = len ∧ (len ≠ 0 → ∃ b o, a = some ⟨b, o, none⟩ ∧ KidsAt kids b o w)
def KidsAt : List Ex → Nat → Nat → World → Prop
  | [], _, _, _ => True
  | x :: xs, b, o, w => (∃ cs : List Value, cs.length = 8 ∧ ExR x (.agg cs.toArray) w ∧ RowAt cs b o w) ∧ KidsAt xs b (o + 8) w
end
def KidsR (kids : List Ex) (a : Option Addr) (len : Nat) (w : World) : Prop := kids.length = len ∧ (len ≠ 0 → ∃ b o, a = some ⟨b, o, none⟩ ∧ KidsAt kids b o w)
def ExsR (kids : List Ex) (v : Value) (w : World) : Prop := ∃ a len cap, v = .slice a len cap ∧ KidsR kids a len w
theorem exR_mk {k vk vn : Int} {vs tb nm : ByteArray} {sl : Int} {kids : List Ex} {v : Value} {w : World} : ExR (.mk k vk vn vs tb nm sl kids) v w ↔ ∃ a len cap, v = .agg (exCells k vk vn vs tb nm sl a len cap).toArray ∧ KidsR kids a len w := by
  rw [ExR]; rfl
theorem exR_first {x : Ex} {cs : List Value} {w : World} (h : ExR x (.agg cs.toArray) w) : ∃ k n, cs[0]? = some (.int k n) := by
  cases x with
  | mk k vk vn vs tb nm sl kids =>
    obtain ⟨a, len, cap, e, _⟩ := exR_mk.1 h
    injection e with e
    injection e with e
    subst e
    exact ⟨_, _, rfl⟩
theorem kidsAt_get : ∀ (kids : List Ex) (b o : Nat) (w : World) (i : Nat) (x : Ex), KidsAt kids b o w → kids[i]? = some x → ∃ cs : List Value, cs.length = 8 ∧ ExR x (.agg cs.toArray) w ∧ RowAt cs b (o + 8 * i) w
  | [], _, _, _, _, _, _, h => by simp at h
  | y :: ys, b, o, w, 0, x, h, hi => by
    rw [KidsAt] at h
    simp at hi
    subst hi
    exact h.1
  | y :: ys, b, o, w, i + 1, x, h, hi => by
    rw [KidsAt] at h
    obtain ⟨cs, h1, h2, h3⟩ := kidsAt_get ys b (o + 8) w i x h.2 (by simpa using hi)
    exact ⟨cs, h1, h2, by rw [show o + 8 * (i + 1) = o + 8 + 8 * i by omega]; exact h3⟩
theorem kid_load {E : Nat → Prop} {w : World} {kids : List Ex} {b o len i : Nat} {x : Ex} (h : Pers E w (KidsR kids (some ⟨b, o, none⟩) len)) (hi : kids[i]? = some x) :
    ∃ cs : List Value, cs.length = 8 ∧ RowAt cs b (o + 8 * i) w ∧ Pers E w (ExR x (.agg cs.toArray)) := by
  have at_ : ∀ w', Keeps E w w' → ∃ cs : List Value, cs.length = 8 ∧ ExR x (.agg cs.toArray) w' ∧ RowAt cs b (o + 8 * i) w' := fun w' hk => by
    obtain ⟨hl, hk⟩ := h w' hk
    have hne : len ≠ 0 := fun e => by rw [e] at hl; rw [List.length_eq_zero_iff.1 hl] at hi; simp at hi
    obtain ⟨b', o', e, hK⟩ := hk hne
    injection e with e
    injection e with e1 e2
    subst e1 e2
    exact kidsAt_get kids b o w' i x hK hi
  have hE : ¬ E b := not_excl (o := o + 8 * i) fun w' hk => by
    obtain ⟨cs, _, h2, h3⟩ := at_ w' hk
    obtain ⟨k, n, h0⟩ := exR_first h2
    exact ⟨k, n, h3 0 _ h0⟩
  obtain ⟨cs, h1, h2, h3⟩ := at_ w (.refl _ _)
  have hblk : ∃ C t fr, w.heap[b]? = some (.cells C t fr) := by
    obtain ⟨k, n, h0⟩ := exR_first h2
    have hc := h3 0 _ h0
    unfold World.cell? at hc
    cases hb : w.heap[b]? with
    | none => simp [hb] at hc
    | some ob => cases ob with
      | cells C t fr => exact ⟨C, t, fr, rfl⟩
      | _ => simp [hb] at hc
  obtain ⟨C, t, fr, hC⟩ := hblk
  refine ⟨cs, h1, h3, fun w' hk => ?_⟩
  obtain ⟨cs', e1, e2, e3⟩ := at_ w' hk
  have hsame : cs' = cs := by
    apply List.ext_getElem (by omega)
    intro j hj hj'
    have a1 := e3 j _ (List.getElem?_eq_getElem hj)
    have a2 := h3 j _ (List.getElem?_eq_getElem hj')
    rw [cell_of_blk (hk.get hC hE)] at a1
    rw [cell_of_blk hC] at a2
    rw [a1] at a2
    injection a2
  rw [← hsame]
  exact e2
theorem kidsAt_mk : ∀ (kids : List Ex) (css : List (List Value)) (b o : Nat) (w : World), kids.length = css.length → (∀ (i : Nat) (x : Ex) (cs : List Value), kids[i]? = some x → css[i]? = some cs → cs.length = 8 ∧ ExR x (.agg cs.toArray) w) → RowAt css.flatten b o w → KidsAt kids b o w
  | [], _, _, _, _, _, _, _ => by rw [KidsAt]; trivial
  | x :: xs, [], _, _, _, h, _, _ => by simp at h
  | x :: xs, cs :: css, b, o, w, h, hx, hr => by
    obtain ⟨h8, hR⟩ := hx 0 x cs rfl rfl
    rw [KidsAt]
    refine ⟨⟨cs, h8, hR, fun j v hj => hr j v ?_⟩, kidsAt_mk xs css b (o + 8) w (by simpa using h) (fun i y c hy hc => hx (i + 1) y c (by simpa using hy) (by simpa using hc)) fun j v hj => ?_⟩
    · rw [List.flatten_cons, List.getElem?_append_left (List.getElem?_eq_some_iff.1 hj).1]; exact hj
    · rw [show o + 8 + j = o + (8 + j) by omega]
      refine hr (8 + j) v ?_
      rw [List.flatten_cons, List.getElem?_append_right (by omega), h8, Nat.add_sub_cancel_left]
      exact hj
structure V3 where
  k : Int
  n : Int
  s : ByteArray
def V3.cells (v : V3) : List Value := [.int .i64 v.k, .int .i64 v.n, .string v.s]
def RowR (vals : List V3) (a : Option Addr) (len : Nat) (w : World) : Prop := vals.length = len ∧ (len ≠ 0 → ∃ b o, a = some ⟨b, o, none⟩ ∧ ∀ i v, vals[i]? = some v → RowAt v.cells b (o + 3 * i) w)
def RowS (vals : List V3) (v : Value) (w : World) : Prop := ∃ a len cap, v = .slice a len cap ∧ RowR vals a len w
end Go.Vc
