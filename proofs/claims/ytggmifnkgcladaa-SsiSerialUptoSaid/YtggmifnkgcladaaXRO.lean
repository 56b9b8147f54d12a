/- Ssi: what a script that is read in holds. No condition. -/
import Derived.Test.YtggmifnkgcladaaXLA
import Derived.Test.YtggmifnkgcladaaXG3
namespace Go.Si
open Go Go.Vc Go.Vl Go.Proofs.Ytggmifnkgcladaa
structure OpTy (P : Program) (tOs tO tR tW tVs tV tI tJ tS : TypeId) : Prop extends ValTy P tV tI tJ tS where
  hR : P.underlying tR = some (.struct (P.fieldsOf tR))
  fR : (P.fieldsOf tR).map (fun f => (f.type, f.offset)) = #[(tS, 0), (tI, 1), (tV, 2), (tV, 5)]
  cR : P.cellsOf tR = 8
  hW : P.underlying tW = some (.struct (P.fieldsOf tW))
  fW : (P.fieldsOf tW).map (fun f => (f.type, f.offset)) = #[(tS, 0), (tVs, 1), (tVs, 2)]
  cW : P.cellsOf tW = 3
  hO : P.underlying tO = some (.struct (P.fieldsOf tO))
  fO : (P.fieldsOf tO).map (fun f => (f.type, f.offset)) = #[(tI, 0), (tI, 1), (tR, 2), (tW, 10)]
  cO : P.cellsOf tO = 13
  hVs : P.underlying tVs = some (.slice tV)
  cVs : P.cellsOf tVs = 1
  hOs : P.underlying tOs = some (.slice tO)
def wrOf {H : Type} : DataW H → List V3 × List V3
  | .agg [_, o, n] => (rowOf o, rowOf n)
  | _ => ([], [])
def opOfS {H : Type} : DataW H → List V3 × List V3
  | .agg [_, _, _, w] => wrOf w
  | _ => ([], [])
section
variable {H : Type} {enc : TypeId × Value → H} {P : Program} {w : World} {base : Nat} {spare : Nat → Bool} {held : Bool} {tOs tO tR tW tVs tV tI tJ tS : TypeId}
theorem slice_key1 {e tVs : TypeId} (hVs : P.underlying tVs = some (.slice e)) {n : Nat} {y : Value} {x : DataW H × List MemPlace} (h : DataW.trod enc P w base spare held n tVs [y] = some x) : ∃ a len cap, y = .slice a len cap ∧ len ≤ cap := by
  rcases DataW.trod_slice hVs h with ⟨g5, _⟩ | ⟨a, len, cap, _, _, _, _, g5, _, _, hlc, _⟩
  · simp at g5; exact ⟨none, 0, 0, g5, Nat.le_refl _⟩
  · simp at g5; exact ⟨some a, len, cap, g5, hlc⟩
theorem read_row1 {tVs tV tI tJ tS : TypeId} (T : ValTy P tV tI tJ tS) (hVs : P.underlying tVs = some (.slice tV)) {n : Nat} {y : Value} {x : DataW H × List MemPlace} (h : DataW.trod enc P w base spare held n tVs [y] = some x) : ∃ p : RV, y = p.v ∧ p.row = rowOf x.1 ∧ p.ok w := by
  obtain ⟨a, len, cap, rfl, hlc⟩ := slice_key1 hVs h
  obtain ⟨⟨a', len', cap', e, hR⟩, _⟩ := read_row (v := .slice a len cap) T hVs h (fun cs e => by cases e)
  injection e with e1 e2 e3
  subst e1 e2 e3
  exact ⟨⟨rowOf x.1, a, len, cap⟩, rfl, rfl, hlc, hR⟩
theorem read_rdO (T : OpTy P tOs tO tR tW tVs tV tI tJ tS) {n : Nat} {cs : List Value} {x : DataW H × List MemPlace} (h : DataW.trod enc P w base spare held n tR cs = some x) :
    ∃ r : Rd, cs = Rd.cells r := by
  obtain ⟨xs, m, rfl, rfl, hl, hn, hf⟩ := DataW.trod_struct T.hR h
  obtain ⟨f0, a0, b0, c0⟩ := field_at T.fR (i := 0) rfl
  obtain ⟨f1, a1, b1, c1⟩ := field_at T.fR (i := 1) rfl
  obtain ⟨f2, a2, b2, c2⟩ := field_at T.fR (i := 2) rfl
  obtain ⟨f3, a3, b3, c3⟩ := field_at T.fR (i := 3) rfl
  have e0 := hf 0 f0 a0
  have e1 := hf 1 f1 a1
  have e2 := hf 2 f2 a2
  have e3 := hf 3 f3 a3
  have hsz : (P.fieldsOf tR).size = 4 := by have := congrArg Array.size T.fR; simpa using this
  rw [b0, c0, T.cS] at e0
  rw [b1, c1, T.cI] at e1
  rw [b2, c2, T.cV] at e2
  rw [b3, c3, T.cV] at e3
  rw [hsz] at hn
  rw [T.cR] at hl
  match xs, hn with
  | [x0, x1, x2, x3], _ =>
    obtain ⟨s, g0, q0, r0⟩ := DataW.trod_string T.hS (x := x0) e0
    obtain ⟨k, g1, q1, r1⟩ := DataW.trod_int T.hI (x := x1) e1
    obtain ⟨g2, _⟩ := read_val T.toValTy (x := x2) e2
    obtain ⟨g3, _⟩ := read_val T.toValTy (x := x3) e3
    match cs, hl with
    | [y0, y1, y2, y3, y4, y5, y6, y7], _ =>
      simp [V3.cells] at g0 g1 g2 g3
      obtain ⟨rfl, rfl, rfl⟩ := g2
      obtain ⟨rfl, rfl, rfl⟩ := g3
      subst g0 g1 q0 q1
      exact ⟨⟨_, k, v3Of x2.1, v3Of x3.1⟩, rfl⟩
theorem read_wrO (T : OpTy P tOs tO tR tW tVs tV tI tJ tS) {n : Nat} {cs : List Value} {x : DataW H × List MemPlace} (h : DataW.trod enc P w base spare held n tW cs = some x) :
    ∃ q : WrA, cs = WrA.cells q ∧ q.o.ok w ∧ q.n.ok w ∧ q.o.row = (wrOf x.1).1 ∧ q.n.row = (wrOf x.1).2 := by
  obtain ⟨xs, m, rfl, rfl, hl, hn, hf⟩ := DataW.trod_struct T.hW h
  obtain ⟨f0, a0, b0, c0⟩ := field_at T.fW (i := 0) rfl
  obtain ⟨f1, a1, b1, c1⟩ := field_at T.fW (i := 1) rfl
  obtain ⟨f2, a2, b2, c2⟩ := field_at T.fW (i := 2) rfl
  have e0 := hf 0 f0 a0
  have e1 := hf 1 f1 a1
  have e2 := hf 2 f2 a2
  have hsz : (P.fieldsOf tW).size = 3 := by have := congrArg Array.size T.fW; simpa using this
  rw [b0, c0, T.cS] at e0
  rw [b1, c1, T.cVs] at e1
  rw [b2, c2, T.cVs] at e2
  rw [hsz] at hn
  rw [T.cW] at hl
  match xs, hn with
  | [x0, x1, x2], _ =>
    match cs, hl with
    | [y0, y1, y2], _ =>
      obtain ⟨s, g0, q0, r0⟩ := DataW.trod_string T.hS (x := x0) e0
      have e1' : DataW.trod enc P w base spare held m tVs [y1] = some x1 := by simpa using e1
      have e2' : DataW.trod enc P w base spare held m tVs [y2] = some x2 := by simpa using e2
      obtain ⟨p1, rfl, h1, k1⟩ := read_row1 T.toValTy T.hVs e1'
      obtain ⟨p2, rfl, h2, k2⟩ := read_row1 T.toValTy T.hVs e2'
      simp at g0
      subst g0 q0
      exact ⟨⟨_, p1, p2⟩, rfl, k1, k2, h1, h2⟩
theorem read_opO (T : OpTy P tOs tO tR tW tVs tV tI tJ tS) {n : Nat} {cs : List Value} {x : DataW H × List MemPlace} (h : DataW.trod enc P w base spare held n tO cs = some x) :
    ∃ q : OpA, cs = OpA.cells q ∧ q.w.o.ok w ∧ q.w.n.ok w ∧ q.w.o.row = (opOfS x.1).1 ∧ q.w.n.row = (opOfS x.1).2 := by
  obtain ⟨xs, m, rfl, rfl, hl, hn, hf⟩ := DataW.trod_struct T.hO h
  obtain ⟨f0, a0, b0, c0⟩ := field_at T.fO (i := 0) rfl
  obtain ⟨f1, a1, b1, c1⟩ := field_at T.fO (i := 1) rfl
  obtain ⟨f2, a2, b2, c2⟩ := field_at T.fO (i := 2) rfl
  obtain ⟨f3, a3, b3, c3⟩ := field_at T.fO (i := 3) rfl
  have e0 := hf 0 f0 a0
  have e1 := hf 1 f1 a1
  have e2 := hf 2 f2 a2
  have e3 := hf 3 f3 a3
  have hsz : (P.fieldsOf tO).size = 4 := by have := congrArg Array.size T.fO; simpa using this
  rw [b0, c0, T.cI] at e0
  rw [b1, c1, T.cI] at e1
  rw [b2, c2, T.cR] at e2
  rw [b3, c3, T.cW] at e3
  rw [hsz] at hn
  rw [T.cO] at hl
  match xs, hn with
  | [x0, x1, x2, x3], _ =>
    match cs, hl with
    | [y0, y1, y2, y3, y4, y5, y6, y7, y8, y9, y10, y11, y12], _ =>
      obtain ⟨k, g0, q0, r0⟩ := DataW.trod_int T.hI (x := x0) e0
      obtain ⟨t, g1, q1, r1⟩ := DataW.trod_int T.hI (x := x1) e1
      obtain ⟨r, g2⟩ := read_rdO T (x := x2) e2
      obtain ⟨q, g3, k1, k2, k3, k4⟩ := read_wrO T (x := x3) e3
      simp [Rd.cells] at g0 g1 g2
      simp [WrA.cells] at g3
      obtain ⟨rfl, rfl, rfl, rfl, rfl, rfl, rfl, rfl⟩ := g2
      obtain ⟨rfl, rfl, rfl⟩ := g3
      subst g0 g1
      exact ⟨⟨k, t, r, q⟩, rfl, k1, k2, k3, k4⟩
theorem ls_of {α : Type} {Q : Nat → α → Prop} : ∀ n, (∀ i, i < n → ∃ p, Q i p) → ∃ ps : List α, ps.length = n ∧ ∀ (i : Nat) (p : α), ps[i]? = some p → Q i p
  | 0, _ => ⟨[], rfl, fun i p h => by simp at h⟩
  | n + 1, h => by
    obtain ⟨ps, h1, h2⟩ := ls_of n fun i hi => h i (by omega)
    obtain ⟨p, hp⟩ := h n (by omega)
    refine ⟨ps ++ [p], by simp [h1], fun i q hq => ?_⟩
    by_cases hi : i < n
    · rw [List.getElem?_append_left (by omega)] at hq
      exact h2 i q hq
    · have hlt := (List.getElem?_eq_some_iff.1 hq).1
      have : i = n := by simp [h1] at hlt; omega
      subst this
      rw [List.getElem?_append_right (by omega), h1, Nat.sub_self] at hq
      simp at hq
      subst hq
      exact hp
def OpsB {H : Type} (ops : List OpA) (d : DataW H) : Prop := ops.length = (slOf opOfS d).length ∧ ∀ q ∈ ops, (q.w.o.row, q.w.n.row) ∈ slOf opOfS d
theorem read_opsO (T : OpTy P tOs tO tR tW tVs tV tI tJ tS) {n : Nat} {y : Value} {x : DataW H × List MemPlace} (h : DataW.trod enc P w base spare held n tOs [y] = some x) :
    ∃ ops : List OpA, ScR ops y w ∧ OpsB ops x.1 := by
  rcases DataW.trod_slice T.hOs h with ⟨g5, q5⟩ | ⟨a, len, cap, elems, rest, q, rfl, g5, q5, hb, hlc, hmx, hel, hall, _, _⟩
  · simp at g5
    subst g5 q5
    exact ⟨[], ⟨none, 0, 0, rfl, ⟨rfl, fun h => absurd rfl h⟩, fun p hp => absurd hp List.not_mem_nil⟩, rfl, fun _ h => absurd h List.not_mem_nil⟩
  · simp at g5
    subst g5
    obtain ⟨xa, xb⟩ := x
    injection q5 with q5 q5'
    subst q5 q5'
    have hval : ∀ i, i < len → ∃ p : OpA, RowAt (OpA.cells p) a.block (a.off + 13 * i) w ∧ p.w.o.ok w ∧ p.w.n.ok w ∧ ((elems.map (·.1)).map opOfS)[i]? = some (p.w.o.row, p.w.n.row) ∧ (i = 0 → a.spot = none) := by
      intro i hi
      have hA := hall i hi
      rw [List.getElem?_eq_getElem (by omega), T.cO] at hA
      obtain ⟨cs', hc1, hc2⟩ := Option.bind_eq_some_iff.1 hA
      obtain ⟨z1, z2, z3⟩ := cells_row hc1 (by omega)
      obtain ⟨p, rfl, k1, k2, k3, k4⟩ := read_opO T hc2
      refine ⟨p, fun j v hj => ?_, k1, k2, ?_, fun h0 => ?_⟩
      · have := z3 j v hj
        rw [add_block, add_off] at this
        rw [show a.off + 13 * i + j = a.off + i * 13 + j by omega]
        exact this
      · rw [List.getElem?_map, List.getElem?_map, List.getElem?_eq_getElem (by omega), k3, k4]; rfl
      · subst h0
        rwa [Nat.zero_mul, add_0] at z1
    obtain ⟨ps, hpl, hps⟩ := ls_of len hval
    refine ⟨ps, ⟨some a, len, cap, rfl, ⟨hpl, fun hne => ⟨a.block, a.off, ?_, fun i p hp => (hps i p hp).1⟩⟩, fun v hv => ?_⟩, ?_, fun p hp => ?_⟩
    · obtain ⟨p, _, _, _, _, hsp⟩ := hval 0 (by omega)
      replace hsp := hsp rfl
      cases a
      simp only at hsp
      subst hsp
      rfl
    · obtain ⟨p, hp, rfl⟩ := List.mem_map.1 hv
      obtain ⟨i, hi⟩ := List.getElem?_of_mem hp
      exact ⟨(hps i p hi).2.1, (hps i p hi).2.2.1⟩
    · show ps.length = ((elems.map (·.1)).map opOfS).length
      rw [hpl, List.length_map, List.length_map]; omega
    · obtain ⟨i, hi⟩ := List.getElem?_of_mem hp
      exact List.mem_of_getElem? (hps i p hi).2.2.2.1
theorem cell_keep {W W' : World} (hk : Keeps noX W W') {b o : Nat} {u : Value} (h : W.cell? ⟨b, o, none⟩ = some u) : W'.cell? ⟨b, o, none⟩ = some u := by
  obtain ⟨cs, t, fr, h1, h2⟩ := cell_blk h
  have := hk.get h1 (fun h => h)
  unfold World.cell? at h ⊢
  rw [this]
  rw [h1] at h
  exact h
theorem rowG_keep {α : Type} {en : α → List Value} {sz : Nat} {xs : List α} {a : Option Addr} {len : Nat} {W W' : World} (hk : Keeps noX W W') (h : RowG en sz xs a len W) : RowG en sz xs a len W' := by
  refine ⟨h.1, fun hne => ?_⟩
  obtain ⟨b, o, e, hr⟩ := h.2 hne
  exact ⟨b, o, e, fun i x hx j v hj => cell_keep hk (hr i x hx j v hj)⟩
theorem rv_keep {W W' : World} (hk : Keeps noX W W') {p : RV} (h : p.ok W) : p.ok W' := ⟨h.1, rowG_keep (en := V3.cells) (sz := 3) hk h.2⟩
theorem sc_keep {W W' : World} (hk : Keeps noX W W') {ops : List OpA} {v : Value} (h : ScR ops v W) : ScR ops v W' := by
  obtain ⟨a, len, cap, e, h1, h2⟩ := h
  exact ⟨a, len, cap, e, rowG_keep hk h1, fun x hx => ⟨rv_keep hk (h2 x hx).1, rv_keep hk (h2 x hx).2⟩⟩
theorem pers_ops (T : OpTy P tOs tO tR tW tVs tV tI tJ tS) {W : World} {v : Value} {d : DataW H} {ps : List MemPlace}
    (h : DataW.Trod enc P W 0 (fun _ => true) true tOs v d ps) (hv : ∀ cs, v ≠ .agg cs) : ∃ ops : List OpA, Pers noX W (ScR ops v) ∧ OpsB ops d := by
  obtain ⟨n, hn⟩ := h
  have hc : v.cells.toList = [v] := by
    cases v with
    | agg cs => exact absurd rfl (hv cs)
    | _ => rfl
  rw [hc] at hn
  obtain ⟨ops, h1, h2⟩ := read_opsO T hn
  exact ⟨ops, fun W' hk => sc_keep hk h1, h2⟩
end
end Go.Si
