/- Order: what is asked, as an argument. No condition. -/
import Derived.Test.YtgpikmonklainaaXM2
import Derived.Test.YtgpikmonklainaaXG3
namespace Go.Od
open Go Go.Vc Go.Vl
theorem ps_of {Q : Nat → RV → Prop} : ∀ n, (∀ i, i < n → ∃ p, Q i p) → ∃ ps : List RV, ps.length = n ∧ ∀ (i : Nat) (p : RV), ps[i]? = some p → Q i p
  | 0, _ => ⟨[], rfl, fun i p h => by simp at h⟩
  | n + 1, h => by
    obtain ⟨ps, h1, h2⟩ := ps_of n fun i hi => h i (by omega)
    obtain ⟨p, hp⟩ := h n (by omega)
    refine ⟨ps ++ [p], by simp [h1], fun i q hq => ?_⟩
    by_cases hi : i < n
    · rw [List.getElem?_append_left (by omega)] at hq
      exact h2 i q hq
    · have hlt := (List.getElem?_eq_some_iff.1 hq).1
      have : i = n := by simp [h1] at hlt; omega
      subst this
      rw [List.getElem?_append_right (by omega), h1, Nat.sub_self] at hq
      simp at hq
      subst hq
      exact hp
def boOf {H : Type} : DataW H → Bool
  | .lit (.bool b) => b
  | _ => false
def askO {H : Type} : DataW H → DataW H × DataW H × DataW H × Int
  | .agg [r, k, d, .lit (.int _ n)] => (r, k, d, n)
  | _ => (.nil, .nil, .nil, 0)
def AskS (rows keys : List (List V3)) (dn : List Bool) (limit : Int) (v : Value) (w : World) : Prop :=
  ∃ vr vk vd, v = .agg [vr, vk, vd, .int .i64 limit].toArray ∧ RowsR noG rows vr w ∧ RowsR noG keys vk w ∧ SlC boC 1 dn vd w
structure AskSTy (P : Program) (tA tRs tVs tV tI tJ tS tBs tB tN : TypeId) : Prop extends ValTy P tV tI tJ tS where
  hA : P.underlying tA = some (.struct (P.fieldsOf tA))
  fA : (P.fieldsOf tA).map (fun f => (f.type, f.offset)) = #[(tRs, 0), (tRs, 1), (tBs, 2), (tN, 3)]
  cA : P.cellsOf tA = 4
  hRs : P.underlying tRs = some (.slice tVs)
  cRs : P.cellsOf tRs = 1
  hVs : P.underlying tVs = some (.slice tV)
  cVs : P.cellsOf tVs = 1
  hBs : P.underlying tBs = some (.slice tB)
  cBs : P.cellsOf tBs = 1
  hB : P.underlying tB = some .bool
  cB : P.cellsOf tB = 1
  hN : P.underlying tN = some (.int .i64)
  cN : P.cellsOf tN = 1
section
variable {H : Type} {enc : TypeId × Value → H} {P : Program} {w : World} {base : Nat} {spare : Nat → Bool} {held : Bool}
theorem slice_keyC {e tVs : TypeId} (hVs : P.underlying tVs = some (.slice e)) {n : Nat} {y : Value} {x : DataW H × List MemPlace} (h : DataW.trod enc P w base spare held n tVs [y] = some x) : ∃ a len cap, y = .slice a len cap ∧ len ≤ cap := by
  rcases DataW.trod_slice hVs h with ⟨g5, _⟩ | ⟨a, len, cap, _, _, _, _, g5, _, _, hlc, _⟩
  · simp at g5; exact ⟨none, 0, 0, g5, Nat.le_refl _⟩
  · simp at g5; exact ⟨some a, len, cap, g5, hlc⟩
theorem read_rowC {tVs tV tI tJ tS : TypeId} (T : ValTy P tV tI tJ tS) (hVs : P.underlying tVs = some (.slice tV)) {n : Nat} {y : Value} {x : DataW H × List MemPlace} (h : DataW.trod enc P w base spare held n tVs [y] = some x) : ∃ p : RV, y = p.v ∧ p.row = rowOf x.1 ∧ p.ok w := by
  obtain ⟨a, len, cap, rfl, hlc⟩ := slice_keyC hVs h
  obtain ⟨⟨a', len', cap', e, hR⟩, _⟩ := read_row (v := .slice a len cap) T hVs h (fun cs e => by cases e)
  injection e with e1 e2 e3
  subst e1 e2 e3
  exact ⟨⟨rowOf x.1, a, len, cap⟩, rfl, rfl, hlc, hR⟩
theorem read_rows {tRs tVs tV tI tJ tS : TypeId} (T : ValTy P tV tI tJ tS) (hVs : P.underlying tVs = some (.slice tV)) (hRs : P.underlying tRs = some (.slice tVs)) (cVs : P.cellsOf tVs = 1) {n : Nat} {y : Value} {x : DataW H × List MemPlace} (h : DataW.trod enc P w base spare held n tRs [y] = some x) :
    RowsR noG (slOf rowOf x.1) y w := by
  rcases DataW.trod_slice hRs h with ⟨g5, q5⟩ | ⟨a, len, cap, elems, rest, q, rfl, g5, q5, hb, hlc, hmx, hel, hall, _, _⟩
  · simp at g5
    subst g5 q5
    exact ⟨[], none, 0, 0, rfl, rfl, Nat.le_refl _, ⟨rfl, fun h => absurd rfl h⟩, (fun p hp => absurd hp List.not_mem_nil : RVF [] w), trivial⟩
  · simp at g5
    subst g5
    obtain ⟨xa, xb⟩ := x
    injection q5 with q5 q5'
    subst q5 q5'
    have hval : ∀ i, i < len → ∃ p : RV, w.cell? ⟨a.block, a.off + i, none⟩ = some p.v ∧ some p.row = ((elems.map (·.1)).map rowOf)[i]? ∧ p.ok w ∧ (i = 0 → a.spot = none) := by
      intro i hi
      have hA := hall i hi
      rw [List.getElem?_eq_getElem (by omega), cVs] at hA
      obtain ⟨cs', hc1, hc2⟩ := Option.bind_eq_some_iff.1 hA
      obtain ⟨z1, z2, z3⟩ := cells_row hc1 (by omega)
      match cs', z2 with
      | [u], _ =>
        obtain ⟨p, rfl, h2, h3⟩ := read_rowC T hVs hc2
        refine ⟨p, ?_, ?_, h3, fun h0 => ?_⟩
        · have := z3 0 p.v rfl
          rw [add_block, add_off] at this
          simpa using this
        · rw [h2]
          simp [List.getElem?_eq_getElem (show i < elems.length by omega)]
        · subst h0
          rwa [Nat.zero_mul, add_0] at z1
    obtain ⟨ps, hpl, hps⟩ := ps_of len hval
    refine ⟨ps, some a, len, cap, ?_, rfl, hlc, ⟨hpl, fun hne => ⟨a.block, a.off, ?_, fun i p hp => ?_⟩⟩, (fun p hp => ?_ : RVF ps w), trivial⟩
    · show ps.map RV.row = (elems.map (·.1)).map rowOf
      refine List.ext_getElem? fun i => ?_
      by_cases hi : i < len
      · have h1 : ps[i]? = some ps[i] := List.getElem?_eq_getElem (by omega)
        obtain ⟨_, h2, _⟩ := hps i _ h1
        rw [List.getElem?_map, h1, Option.map_some, h2]
      · rw [List.getElem?_eq_none (by simp; omega), List.getElem?_eq_none (by simp; omega)]
    · obtain ⟨p, _, _, _, hsp⟩ := hval 0 (by omega)
      replace hsp := hsp rfl
      cases a
      simp only at hsp
      subst hsp
      rfl
    · intro j u hu
      obtain ⟨h1, _⟩ := hps i p hp
      have : j = 0 ∧ u = p.v := by
        unfold RV.c at hu
        cases j with
        | zero => simp at hu; exact ⟨rfl, hu.symm⟩
        | succ j => simp at hu
      obtain ⟨rfl, rfl⟩ := this
      simpa using h1
    · obtain ⟨i, hi⟩ := List.getElem?_of_mem hp
      exact (hps i p hi).2.2.1
end
section
variable {P : Program} {c : Ctx} {K : List (Nat × Ty)} {L : List Own} {Φ : List (World → Prop)} {Q : Exit → Act → World → Prop}
theorem Sub.rowsF {rps : List RV} {rows : List (List V3)} {ra : Option Addr} {rl rc : Nat} (h : RowG RV.c 1 rps ra rl ∈ Φ) (hF : RVF rps ∈ Φ) (hc : rl ≤ rc) (hm : rps.map RV.row = rows) : Sub L Φ (.is (.slice ra rl rc)) (.rep (RowsR noG rows)) := fun E v w hf e => by
  rw [show v = _ from e]
  exact fun w' hk => ⟨rps, ra, rl, rc, hm, rfl, hc, hf.2 _ h w' hk, hf.2 _ hF w' hk, trivial⟩
end
end Go.Od
