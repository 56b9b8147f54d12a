/- What is read of the arguments. No condition. -/
import Derived.Test.YtjlojkchgfeenaaXVc16
import Derived.ProofKit
import Derived.WideKeyArgs
import Derived.ChangeArms
namespace Go.Vc
open Go
theorem take1 {cs : List Value} {o : Nat} {v : Value} (h : (cs.drop o).take 1 = [v]) : cs[o]? = some v := by
  have : ((cs.drop o).take 1)[0]? = some v := by rw [h]; rfl
  simpa using this
theorem take3 {cs : List Value} {o : Nat} {a b c : Value} (h : (cs.drop o).take 3 = [a, b, c]) : cs[o]? = some a ∧ cs[o + 1]? = some b ∧ cs[o + 2]? = some c := by
  have h0 : ((cs.drop o).take 3)[0]? = some a := by rw [h]; rfl
  have h1 : ((cs.drop o).take 3)[1]? = some b := by rw [h]; rfl
  have h2 : ((cs.drop o).take 3)[2]? = some c := by rw [h]; rfl
  simp at h0 h1 h2
  exact ⟨h0, h1, h2⟩
theorem wf_i64 {n : Int} (h : (Lit.int .i64 n).wf = true) : I64 n := by
  simp [Lit.wf, IntKind.min, IntKind.max, IntKind.signed, IntKind.bits] at h
  unfold I64
  omega
theorem field_at {fs : Array Field} {g : Array (TypeId × Nat)} (h : fs.map (fun f => (f.type, f.offset)) = g) {i : Nat} {t : TypeId} {o : Nat} (hi : g[i]? = some (t, o)) : ∃ f, fs[i]? = some f ∧ f.type = t ∧ f.offset = o := by
  subst h
  rw [Array.getElem?_map] at hi
  cases hf : fs[i]? with
  | none => rw [hf] at hi; cases hi
  | some f => rw [hf] at hi; injection hi with hi; injection hi with h1 h2; exact ⟨f, rfl, h1, h2⟩
structure ValTy (P : Program) (tV tI tJ tS : TypeId) : Prop where
  hV : P.underlying tV = some (.struct (P.fieldsOf tV))
  fV : (P.fieldsOf tV).map (fun f => (f.type, f.offset)) = #[(tI, 0), (tJ, 1), (tS, 2)]
  hI : P.underlying tI = some (.int .i64)
  hJ : P.underlying tJ = some (.int .i64)
  hS : P.underlying tS = some .string
  cV : P.cellsOf tV = 3
  cI : P.cellsOf tI = 1
  cJ : P.cellsOf tJ = 1
  cS : P.cellsOf tS = 1
structure ExTy (P : Program) (tE tEs tV tI tJ tS : TypeId) : Prop extends ValTy P tV tI tJ tS where
  hE : P.underlying tE = some (.struct (P.fieldsOf tE))
  fE : (P.fieldsOf tE).map (fun f => (f.type, f.offset)) = #[(tI, 0), (tV, 1), (tS, 4), (tS, 5), (tI, 6), (tEs, 7)]
  hEs : P.underlying tEs = some (.slice tE)
  cE : P.cellsOf tE = 8
  cEs : P.cellsOf tEs = 1
def v3Of {H : Type} : DataW H → V3
  | .agg [.lit (.int _ k), .lit (.int _ n), .lit (.string s)] => ⟨k, n, ⟨s.toArray⟩⟩
  | _ => ⟨0, 0, ⟨#[]⟩⟩
def rowOf {H : Type} : DataW H → List V3
  | .slice es _ => es.map v3Of
  | _ => []
def exOf {H : Type} : Nat → DataW H → Ex
  | n + 2, .agg [.lit (.int _ k), v, .lit (.string tb), .lit (.string nm), .lit (.int _ sl), .nil] => .mk k (v3Of v).k (v3Of v).n (v3Of v).s ⟨tb.toArray⟩ ⟨nm.toArray⟩ sl []
  | n + 2, .agg [.lit (.int _ k), v, .lit (.string tb), .lit (.string nm), .lit (.int _ sl), .slice es _] => .mk k (v3Of v).k (v3Of v).n (v3Of v).s ⟨tb.toArray⟩ ⟨nm.toArray⟩ sl (es.map (exOf n))
  | _, _ => .mk 0 0 0 ⟨#[]⟩ ⟨#[]⟩ ⟨#[]⟩ 0 []
section
variable {H : Type} {enc : TypeId × Value → H} {P : Program} {w : World} {base : Nat} {spare : Nat → Bool} {held : Bool}
theorem read_val {tV tI tJ tS : TypeId} (T : ValTy P tV tI tJ tS) {n : Nat} {cs : List Value} {x : DataW H × List MemPlace} (h : DataW.trod enc P w base spare held n tV cs = some x) :
    cs = (v3Of x.1).cells ∧ (v3Of x.1).rng := by
  obtain ⟨xs, m, rfl, rfl, hl, hn, hf⟩ := DataW.trod_struct T.hV h
  obtain ⟨f0, a0, b0, c0⟩ := field_at T.fV (i := 0) rfl
  obtain ⟨f1, a1, b1, c1⟩ := field_at T.fV (i := 1) rfl
  obtain ⟨f2, a2, b2, c2⟩ := field_at T.fV (i := 2) rfl
  have e0 := hf 0 f0 a0
  have e1 := hf 1 f1 a1
  have e2 := hf 2 f2 a2
  have hsz : (P.fieldsOf tV).size = 3 := by have := congrArg Array.size T.fV; simpa using this
  rw [b0, c0, T.cI] at e0
  rw [b1, c1, T.cJ] at e1
  rw [b2, c2, T.cS] at e2
  rw [hsz] at hn
  rw [T.cV] at hl
  match xs, hn with
  | [x0, x1, x2], _ =>
    obtain ⟨k, g0, q0, r0⟩ := DataW.trod_int T.hI (x := x0) e0
    obtain ⟨l, g1, q1, r1⟩ := DataW.trod_int T.hJ (x := x1) e1
    obtain ⟨s, g2, q2, r2⟩ := DataW.trod_string T.hS (x := x2) e2
    match cs, hl with
    | [y0, y1, y2], _ =>
      simp at g0 g1 g2
      subst g0 g1 g2 q0 q1 q2
      exact ⟨rfl, wf_i64 r0, wf_i64 r1⟩
theorem mapM_some_length' {α β : Type} {f : α → Option β} {l : List α} {r : List β} (h : l.mapM f = some r) : r.length = l.length := mapM_some_length h
theorem cells_row {a : Addr} {n : Nat} {cs : List Value} (h : w.cells? base a n = some cs) (hn : 0 < n) : a.spot = none ∧ cs.length = n ∧ RowAt cs a.block a.off w := by
  unfold World.cells? at h
  split at h
  · have hl : cs.length = n := by simpa using mapM_some_length h
    have hg : ∀ i, i < n → w.cell? (a.add i) = cs[i]? := fun i hi => mapM_some_get h i i (by simp [hi])
    have hs : a.spot = none := by
      have h0 := hg 0 hn
      have : cs[0]? = some cs[0] := List.getElem?_eq_getElem (by omega)
      rw [this] at h0
      unfold World.cell? at h0
      split at h0
      · split at h0
        · cases h0
        · rename_i hsp
          cases hq : a.spot with
          | none => rfl
          | some q => simp [Addr.add, hq] at hsp
      · cases h0
    refine ⟨hs, hl, fun j v hj => ?_⟩
    have hj' : j < n := by have := (List.getElem?_eq_some_iff.1 hj).1; omega
    have := hg j hj'
    rw [hj] at this
    rw [← this]
    cases a
    simp only at hs
    subst hs
    rw [add_at]
  · cases h
theorem add_block (a : Addr) (n : Nat) : (a.add n).block = a.block := by unfold Addr.add; split <;> rfl
theorem add_off (a : Addr) (n : Nat) : (a.add n).off = a.off + n := by unfold Addr.add; split <;> simp_all
theorem add_0 (a : Addr) : a.add 0 = a := by simp [Addr.add]
theorem kidsAt_of : ∀ (kids : List Ex) (b o : Nat), (∀ i x, kids[i]? = some x → ∃ cs : List Value, cs.length = 8 ∧ ExR x (.agg cs.toArray) w ∧ RowAt cs b (o + 8 * i) w) → KidsAt kids b o w
  | [], _, _, _ => by rw [KidsAt]; trivial
  | x :: xs, b, o, h => by
    rw [KidsAt]
    obtain ⟨cs, h1, h2, h3⟩ := h 0 x rfl
    refine ⟨⟨cs, h1, h2, by simpa using h3⟩, kidsAt_of xs b (o + 8) fun i y hy => ?_⟩
    obtain ⟨cs, h1, h2, h3⟩ := h (i + 1) y (by simpa using hy)
    exact ⟨cs, h1, h2, by rw [show o + 8 + 8 * i = o + 8 * (i + 1) by omega]; exact h3⟩
theorem exsRng_of : ∀ kids : List Ex, (∀ x ∈ kids, exRng x) → exsRng kids
  | [], _ => by rw [exsRng]; trivial
  | x :: xs, h => by rw [exsRng]; exact ⟨h x List.mem_cons_self, exsRng_of xs fun y hy => h y (List.mem_cons_of_mem _ hy)⟩
theorem read_ex {tE tEs tV tI tJ tS : TypeId} (T : ExTy P tE tEs tV tI tJ tS) : ∀ (n : Nat) (cs : List Value) (x : DataW H × List MemPlace), DataW.trod enc P w base spare held n tE cs = some x →
    cs.length = 8 ∧ ExR (exOf n x.1) (.agg cs.toArray) w ∧ exRng (exOf n x.1) := by
  intro n
  induction n using Nat.strongRecOn with
  | _ n ih =>
    intro cs x h
    obtain ⟨xs, m, rfl, rfl, hl, hn, hf⟩ := DataW.trod_struct T.hE h
    obtain ⟨f0, a0, b0, c0⟩ := field_at T.fE (i := 0) rfl
    obtain ⟨f1, a1, b1, c1⟩ := field_at T.fE (i := 1) rfl
    obtain ⟨f2, a2, b2, c2⟩ := field_at T.fE (i := 2) rfl
    obtain ⟨f3, a3, b3, c3⟩ := field_at T.fE (i := 3) rfl
    obtain ⟨f4, a4, b4, c4⟩ := field_at T.fE (i := 4) rfl
    obtain ⟨f5, a5, b5, c5⟩ := field_at T.fE (i := 5) rfl
    have e0 := hf 0 f0 a0
    have e1 := hf 1 f1 a1
    have e2 := hf 2 f2 a2
    have e3 := hf 3 f3 a3
    have e4 := hf 4 f4 a4
    have e5 := hf 5 f5 a5
    have hsz : (P.fieldsOf tE).size = 6 := by have := congrArg Array.size T.fE; simpa using this
    rw [b0, c0, T.cI] at e0
    rw [b1, c1, T.cV] at e1
    rw [b2, c2, T.cS] at e2
    rw [b3, c3, T.cS] at e3
    rw [b4, c4, T.cI] at e4
    rw [b5, c5, T.cEs] at e5
    rw [hsz] at hn
    rw [T.cE] at hl
    match xs, hn with
    | [x0, x1, x2, x3, x4, x5], _ =>
      obtain ⟨k, g0, q0, r0⟩ := DataW.trod_int T.hI (x := x0) e0
      obtain ⟨g1, r1⟩ := read_val T.toValTy (x := x1) e1
      obtain ⟨s2, g2, q2, r2⟩ := DataW.trod_string T.hS (x := x2) e2
      obtain ⟨s3, g3, q3, r3⟩ := DataW.trod_string T.hS (x := x3) e3
      obtain ⟨sl, g4, q4, r4⟩ := DataW.trod_int T.hI (x := x4) e4
      match cs, hl with
      | [y0, y1, y2, y3, y4, y5, y6, y7], _ =>
        simp [V3.cells] at g0 g1 g2 g3 g4
        obtain ⟨g1, g1', g1''⟩ := g1
        subst g0 g1 g1' g1'' g2 g3 g4 q0 q2 q3 q4
        refine ⟨rfl, ?_⟩
        rcases DataW.trod_slice T.hEs (x := x5) e5 with ⟨g5, q5⟩ | ⟨a, len, cap, elems, rest, q, rfl, g5, q5, hb, hlc, hmx, hel, hall, _, _⟩
        · simp at g5
          subst g5 q5
          have hm : ∃ q, m = q + 1 := by
            cases m with
            | zero => simp [DataW.trod] at e0
            | succ q => exact ⟨q, rfl⟩
          obtain ⟨q, rfl⟩ := hm
          refine ⟨?_, ?_⟩
          · show ExR (.mk k (v3Of x1.1).k (v3Of x1.1).n (v3Of x1.1).s s2 s3 sl []) _ w
            exact exR_mk.2 ⟨none, 0, 0, rfl, rfl, fun h => absurd rfl h⟩
          · show exRng (.mk k (v3Of x1.1).k (v3Of x1.1).n (v3Of x1.1).s s2 s3 sl [])
            rw [exRng]
            exact ⟨wf_i64 r0, r1.1, r1.2, wf_i64 r4, by rw [exsRng]; trivial⟩
        · simp at g5
          subst g5
          obtain ⟨x5a, x5b⟩ := x5
          injection q5 with q5 q5'
          subst q5 q5'
          have hkid : ∀ i y, (elems.map (·.1) |>.map (exOf q))[i]? = some y → ∃ cs' : List Value, cs'.length = 8 ∧ ExR y (.agg cs'.toArray) w ∧ RowAt cs' a.block (a.off + 8 * i) w ∧ exRng y ∧ (i = 0 → a.spot = none) := by
            intro i y hy
            have hi : i < len := by
              have := (List.getElem?_eq_some_iff.1 hy).1
              simpa [hel] using this
            have hA := hall i hi
            rw [List.getElem?_eq_getElem (by omega), T.cE] at hA
            obtain ⟨cs', hc1, hc2⟩ := Option.bind_eq_some_iff.1 hA
            obtain ⟨z1, z2, z3⟩ := cells_row hc1 (by omega)
            obtain ⟨j1, j2, j3⟩ := ih q (by omega) cs' elems[i] hc2
            have hy' : y = exOf q elems[i].1 := by
              simp [List.getElem?_eq_getElem (show i < elems.length by omega)] at hy
              exact hy.symm
            subst hy'
            refine ⟨cs', j1, j2, ?_, j3, ?_⟩
            · rw [add_block, add_off] at z3
              rw [Nat.mul_comm 8 i]
              exact z3
            · intro h0
              subst h0
              rwa [Nat.zero_mul, add_0] at z1
          refine ⟨?_, ?_⟩
          · show ExR (.mk k (v3Of x1.1).k (v3Of x1.1).n (v3Of x1.1).s s2 s3 sl ((elems.map (·.1)).map (exOf q))) _ w
            refine exR_mk.2 ⟨some a, len, cap, rfl, by simp [hel], fun hne => ⟨a.block, a.off, ?_, kidsAt_of _ _ _ fun i y hy => ?_⟩⟩
            · have h0 : ((elems.map (·.1)).map (exOf q))[0]? = some (((elems.map (·.1)).map (exOf q))[0]'(by simp [hel]; omega)) := List.getElem?_eq_getElem _
              obtain ⟨_, _, _, _, _, hsp⟩ := hkid 0 _ h0
              replace hsp := hsp rfl
              cases a
              simp only at hsp
              subst hsp
              rfl
            · obtain ⟨cs', j1, j2, j3, _, _⟩ := hkid i y hy
              exact ⟨cs', j1, j2, j3⟩
          · show exRng (.mk k (v3Of x1.1).k (v3Of x1.1).n (v3Of x1.1).s s2 s3 sl ((elems.map (·.1)).map (exOf q)))
            rw [exRng]
            refine ⟨wf_i64 r0, r1.1, r1.2, wf_i64 r4, exsRng_of _ fun y hy => ?_⟩
            obtain ⟨i, hi⟩ := List.getElem?_of_mem hy
            obtain ⟨_, _, _, _, h5, _⟩ := hkid i y hi
            exact h5
theorem read_row {tVs tV tI tJ tS : TypeId} (T : ValTy P tV tI tJ tS) (hVs : P.underlying tVs = some (.slice tV)) {n : Nat} {v : Value} {x : DataW H × List MemPlace} (h : DataW.trod enc P w base spare held n tVs v.cells.toList = some x) (hv : ∀ cs, v ≠ .agg cs) :
    RowS (rowOf x.1) v w ∧ ∀ y ∈ rowOf x.1, y.rng := by
  have hc : v.cells.toList = [v] := by
    cases v <;> first | rfl | exact absurd rfl (hv _)
  rw [hc] at h
  rcases DataW.trod_slice hVs h with ⟨g5, q5⟩ | ⟨a, len, cap, elems, rest, q, rfl, g5, q5, hb, hlc, hmx, hel, hall, _, _⟩
  · simp at g5
    subst g5 q5
    exact ⟨⟨none, 0, 0, rfl, rfl, fun h => absurd rfl h⟩, fun y hy => by simp [rowOf] at hy⟩
  · simp at g5
    subst g5
    obtain ⟨xa, xb⟩ := x
    injection q5 with q5 q5'
    subst q5 q5'
    have hval : ∀ i y, ((elems.map (·.1)).map v3Of)[i]? = some y → RowAt y.cells a.block (a.off + 3 * i) w ∧ y.rng ∧ (i = 0 → a.spot = none) := by
      intro i y hy
      have hi : i < len := by
        have := (List.getElem?_eq_some_iff.1 hy).1
        simpa [hel] using this
      have hA := hall i hi
      rw [List.getElem?_eq_getElem (by omega), T.cV] at hA
      obtain ⟨cs', hc1, hc2⟩ := Option.bind_eq_some_iff.1 hA
      obtain ⟨z1, z2, z3⟩ := cells_row hc1 (by omega)
      obtain ⟨j1, j2⟩ := read_val T hc2
      have hy' : y = v3Of elems[i].1 := by
        simp [List.getElem?_eq_getElem (show i < elems.length by omega)] at hy
        exact hy.symm
      subst hy'
      refine ⟨?_, j2, fun h0 => ?_⟩
      · rw [add_block, add_off] at z3
        rw [← j1, Nat.mul_comm 3 i]
        exact z3
      · subst h0
        rwa [Nat.zero_mul, add_0] at z1
    refine ⟨⟨some a, len, cap, rfl, by simp [rowOf, hel], fun hne => ⟨a.block, a.off, ?_, fun i y hy => (hval i y hy).1⟩⟩, fun y hy => ?_⟩
    · have h0 : ((elems.map (·.1)).map v3Of)[0]? = some (((elems.map (·.1)).map v3Of)[0]'(by simp [hel]; omega)) := List.getElem?_eq_getElem _
      obtain ⟨_, _, hsp⟩ := hval 0 _ h0
      replace hsp := hsp rfl
      cases a
      simp only at hsp
      subst hsp
      rfl
    · obtain ⟨i, hi⟩ := List.getElem?_of_mem hy
      exact (hval i y hi).2.1
end
end Go.Vc
