/- Order: what is known of lines, in walks. No condition. -/
import Derived.Test.YtgpikmonklainaaXOE
import Derived.Test.YtgpikmonklainaaXG5
namespace Go.Od
open Go Go.Vc Go.Vl
def boC (b : Bool) : List Value := [.bool b]
theorem boC_len (b : Bool) : (boC b).length = 1 := rfl
theorem bo_get {l : List Bool} {i : Nat} (h : i < l.length) : l[i]? = some (l.getD i false) := by simp [List.getElem?_eq_getElem h]
section
variable {P : Program} {c : Ctx} {K : List (Nat × Ty)} {L : List Own} {Φ : List (World → Prop)} {Q : Exit → Act → World → Prop}
theorem J.knG {α : Type} {enc : α → List Value} {sz : Nat} {xs : List α} {a : Option Addr} {len : Nat} {x : Code} (hF : RowG enc sz xs a len ∈ Φ) (hj : ∀ b o, xs.length = len → (len ≠ 0 → a = some ⟨b, o, none⟩) → J P c K L Φ x Q) : J P c K L Φ x Q := by
  refine J.know (∃ b o, xs.length = len ∧ (len ≠ 0 → a = some ⟨b, o, none⟩)) (fun E w hG _ => ?_) (fun ⟨b, o, h1, h2⟩ => hj b o h1 h2)
  obtain ⟨h1, h2⟩ := (hG _ hF).now
  by_cases hn : len = 0
  · exact ⟨0, 0, h1, fun h => absurd hn h⟩
  · obtain ⟨b, o, e, _⟩ := h2 hn
    exact ⟨b, o, h1, fun _ => e⟩
theorem J.lvK {U : List LV} {p : LV} {x : Code} (hF : LVF U ∈ Φ) (hp : p ∈ U) (hj : ∀ b o, p.k.row.length = p.k.len → (p.k.len ≠ 0 → p.k.a = some ⟨b, o, none⟩) → J P c K L (RowG V3.cells 3 p.k.row p.k.a p.k.len :: Φ) x Q) : J P c K L Φ x Q :=
  J.fact (RowG V3.cells 3 p.k.row p.k.a p.k.len) (fun E w hG _ => fun w' hk => (hG _ hF w' hk p hp).2.2) (J.knG List.mem_cons_self hj)
theorem Sub.lvR {U : List LV} {p : LV} (hF : LVF U ∈ Φ) (hp : p ∈ U) : Sub L Φ (.is (.slice p.r.a p.r.len p.r.cap)) (.rep (RowS p.r.row)) := fun E v w hf e => by
  rw [show v = _ from e]
  exact fun w' hk => ⟨p.r.a, p.r.len, p.r.cap, rfl, (hf.2 _ hF w' hk p hp).1.2⟩
end
theorem cmp_rng (a b : V3) : -1 ≤ cmpV a b ∧ cmpV a b ≤ 1 := by
  rcases tri_V a b with h | h | h
  · rw [cmp_lt h]; omega
  · rw [h, cmp_eq]; omega
  · rw [cmp_gt h]; omega
abbrev v3E : V3 := ⟨0, 0, e0⟩
def sgC (d : Bool) (x y : V3) : Int := bif d then -cmpV x y else cmpV x y
theorem keysC_drop {dn : List Bool} {a b : List V3} {i : Nat} (hd : i < dn.length) (ha : a.length = dn.length) (hb : b.length = dn.length) : keysC (dn.drop i) (a.drop i) (b.drop i) = if sgC (dn.getD i false) (a.getD i v3E) (b.getD i v3E) != 0 then sgC (dn.getD i false) (a.getD i v3E) (b.getD i v3E) else keysC (dn.drop (i + 1)) (a.drop (i + 1)) (b.drop (i + 1)) := by
  rw [List.drop_eq_getElem_cons hd, List.drop_eq_getElem_cons (l := a) (by omega), List.drop_eq_getElem_cons (l := b) (by omega)]
  have h1 : i < a.length := by omega
  have h2 : i < b.length := by omega
  rw [getD_lt hd, getD_lt h1, getD_lt h2]
  rfl
theorem keysC_end {dn : List Bool} {a b : List V3} {i : Nat} (hd : dn.length ≤ i) : keysC (dn.drop i) (a.drop i) (b.drop i) = 0 := by
  rw [List.drop_eq_nil_of_le hd]
  rfl
end Go.Od
