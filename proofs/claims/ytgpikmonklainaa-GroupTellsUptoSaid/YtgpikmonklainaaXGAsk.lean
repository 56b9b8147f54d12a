/- Group: what is asked, as an argument. No condition. -/
import Derived.Test.YtgpikmonklainaaXOJ
import Derived.Test.YtgpikmonklainaaXGN
namespace Go.Od
open Go Go.Vc Go.Vl
open Go.Proofs.Ytgpikmonklainaa (kC kC_len)
def inOf {H : Type} : DataW H → Int
  | .lit (.int _ n) => n
  | _ => 0
def askG {H : Type} : DataW H → DataW H × DataW H × DataW H
  | .agg [r, k, d] => (r, k, d)
  | _ => (.nil, .nil, .nil)
def AskG (rows keys : List (List V3)) (dn : List Int) (v : Value) (w : World) : Prop :=
  ∃ vr vk vd, v = .agg [vr, vk, vd].toArray ∧ RowsR noG rows vr w ∧ RowsR noG keys vk w ∧ SlC kC 1 dn vd w
structure AskGTy (P : Program) (tA tRs tVs tV tI tJ tS tBs tB : TypeId) : Prop extends ValTy P tV tI tJ tS where
  hA : P.underlying tA = some (.struct (P.fieldsOf tA))
  fA : (P.fieldsOf tA).map (fun f => (f.type, f.offset)) = #[(tRs, 0), (tRs, 1), (tBs, 2)]
  cA : P.cellsOf tA = 3
  hRs : P.underlying tRs = some (.slice tVs)
  cRs : P.cellsOf tRs = 1
  hVs : P.underlying tVs = some (.slice tV)
  cVs : P.cellsOf tVs = 1
  hBs : P.underlying tBs = some (.slice tB)
  cBs : P.cellsOf tBs = 1
  hB : P.underlying tB = some (.int .i64)
  cB : P.cellsOf tB = 1
section
variable {H : Type} {enc : TypeId × Value → H} {P : Program} {w : World} {base : Nat} {spare : Nat → Bool} {held : Bool}
theorem rng_row {tVs tV tI tJ tS : TypeId} (T : ValTy P tV tI tJ tS) (hVs : P.underlying tVs = some (.slice tV)) {n : Nat} {y : Value} {x : DataW H × List MemPlace} (h : DataW.trod enc P w base spare held n tVs [y] = some x) : ∀ v ∈ rowOf x.1, v.rng := by
  obtain ⟨a, len, cap, rfl, hlc⟩ := slice_keyC hVs h
  exact (read_row (v := .slice a len cap) T hVs h (fun cs e => by cases e)).2
theorem rng_rows {tRs tVs tV tI tJ tS : TypeId} (T : ValTy P tV tI tJ tS) (hVs : P.underlying tVs = some (.slice tV)) (hRs : P.underlying tRs = some (.slice tVs)) (cVs : P.cellsOf tVs = 1) {n : Nat} {y : Value} {x : DataW H × List MemPlace} (h : DataW.trod enc P w base spare held n tRs [y] = some x) :
    ∀ r ∈ slOf rowOf x.1, ∀ v ∈ r, v.rng := by
  rcases DataW.trod_slice hRs h with ⟨g5, q5⟩ | ⟨a, len, cap, elems, rest, q, rfl, g5, q5, hb, hlc, hmx, hel, hall, _, _⟩
  · subst q5
    exact fun r hr => absurd hr List.not_mem_nil
  · obtain ⟨xa, xb⟩ := x
    injection q5 with q5 q5'
    subst q5 q5'
    intro r hr
    have hr : r ∈ (elems.map (·.1)).map rowOf := hr
    obtain ⟨d, hd, rfl⟩ := List.mem_map.1 hr
    obtain ⟨el, he, rfl⟩ := List.mem_map.1 hd
    obtain ⟨i, hi⟩ := List.getElem?_of_mem he
    have hl := (List.getElem?_eq_some_iff.1 hi).1
    have hA := hall i (by omega)
    rw [hi, cVs] at hA
    obtain ⟨cs', hc1, hc2⟩ := Option.bind_eq_some_iff.1 hA
    obtain ⟨z1, z2, z3⟩ := cells_row hc1 (by omega)
    match cs', z2 with
    | [u], _ => exact rng_row T hVs hc2
theorem read_in {tB : TypeId} (hB : P.underlying tB = some (.int .i64)) {n : Nat} {cs : List Value} {x : DataW H × List MemPlace} (h : DataW.trod enc P w base spare held n tB cs = some x) : cs = kC (inOf x.1) ∧ True := by
  obtain ⟨k, rfl, rfl, _⟩ := DataW.trod_int hB h
  exact ⟨rfl, trivial⟩
theorem read_askG {tA tRs tVs tV tI tJ tS tBs tB : TypeId} (T : AskGTy P tA tRs tVs tV tI tJ tS tBs tB) {n : Nat} {cs : List Value} {x : DataW H × List MemPlace} (h : DataW.trod enc P w base spare held n tA cs = some x) :
    cs.length = 3 ∧ AskG (slOf rowOf (askG x.1).1) (slOf rowOf (askG x.1).2.1) (slOf inOf (askG x.1).2.2) (.agg cs.toArray) w ∧ (∀ r ∈ slOf rowOf (askG x.1).1, ∀ v ∈ r, v.rng) ∧ (∀ r ∈ slOf rowOf (askG x.1).2.1, ∀ v ∈ r, v.rng) := by
  obtain ⟨xs, m, rfl, rfl, hl, hn, hf⟩ := DataW.trod_struct T.hA h
  obtain ⟨f0, a0, b0, c0⟩ := field_at T.fA (i := 0) rfl
  obtain ⟨f1, a1, b1, c1⟩ := field_at T.fA (i := 1) rfl
  obtain ⟨f2, a2, b2, c2⟩ := field_at T.fA (i := 2) rfl
  have e0 := hf 0 f0 a0
  have e1 := hf 1 f1 a1
  have e2 := hf 2 f2 a2
  have hsz : (P.fieldsOf tA).size = 3 := by have := congrArg Array.size T.fA; simpa using this
  rw [b0, c0, T.cRs] at e0
  rw [b1, c1, T.cRs] at e1
  rw [b2, c2, T.cBs] at e2
  rw [hsz] at hn
  rw [T.cA] at hl
  match xs, hn with
  | [x0, x1, x2], _ =>
    match cs, hl with
    | [y0, y1, y2], _ =>
      have e0' : DataW.trod enc P w base spare held m tRs [y0] = some x0 := by simpa using e0
      have e1' : DataW.trod enc P w base spare held m tRs [y1] = some x1 := by simpa using e1
      have e2' : DataW.trod enc P w base spare held m tBs [y2] = some x2 := by simpa using e2
      have h0 := read_rows T.toValTy T.hVs T.hRs T.cVs e0'
      have h1 := read_rows T.toValTy T.hVs T.hRs T.cVs e1'
      obtain ⟨a, len, cap, rfl, hlc⟩ := slice_keyC T.hBs e2'
      obtain ⟨zs, k1, k2, _⟩ := read_sl (en := kC) (of := inOf) (rng := fun _ => True) T.cB (by omega) (fun n cs x => read_in T.hB) T.hBs (v := .slice a len cap) e2' (fun cs e => by cases e)
      have ez : slOf inOf x2.1 = zs := by
        rcases k1 with ⟨k1, rfl⟩ | ⟨es, sp, k1, rfl⟩ <;> rw [k1] <;> rfl
      obtain ⟨a', l', c', e', hR⟩ := k2
      injection e' with e1 e2 e3
      subst e1 e2 e3
      exact ⟨rfl, ⟨y0, y1, _, rfl, h0, h1, a, len, cap, rfl, hlc, by show RowG kC 1 (slOf inOf x2.1) a len w; rw [ez]; exact hR⟩, rng_rows T.toValTy T.hVs T.hRs T.cVs e0', rng_rows T.toValTy T.hVs T.hRs T.cVs e1'⟩
theorem pers_askG {tA tRs tVs tV tI tJ tS tBs tB : TypeId} (T : AskGTy P tA tRs tVs tV tI tJ tS tBs tB) (hl : laidOutB P = true) (hr : P.readableRec tA = true ∧ tA < P.types.size) {W : World} {v : Value} {d : DataW H} {ps : List MemPlace}
    (h : DataW.Trod enc P W 0 (fun _ => true) true tA v d ps) (hlt : ∀ p ∈ ps, p.block < W.heap.size) : Pers noX W (AskG (slOf rowOf (askG d).1) (slOf rowOf (askG d).2.1) (slOf inOf (askG d).2.2) v) ∧ ∀ r ∈ slOf rowOf (askG d).2.1, ∀ v ∈ r, v.rng := by
  obtain ⟨n, hn⟩ := h
  obtain ⟨h4, h3, hr1, hr2⟩ := read_askG T hn
  have hv : ∃ cs, v = .agg cs := by
    cases v with
    | agg cs => exact ⟨cs, rfl⟩
    | _ => simp [Value.cells] at h4
  obtain ⟨cs, rfl⟩ := hv
  refine ⟨fun W' hk => ?_, hr2⟩
  have := DataW.trod_stays (sp' := fun _ => true) (kids_book hl hr.1) (book_sized hr.1) (fun h => by cases h) ⟨hr.2, book_self tA⟩ hn (fun x hx => hk.below.same (hlt x hx)) (fun _ _ => rfl)
  obtain ⟨_, h3', _⟩ := read_askG T this
  simpa [Value.cells] using h3'
end
section
variable {P : Program} {c : Ctx} {K : List (Nat × Ty)} {L : List Own} {Φ : List (World → Prop)} {Q : Exit → Act → World → Prop}
theorem J.openAskG {x : Code} {s : Nat} {rows keys : List (List V3)} {dn : List Int} (h : Go.Vc.look K s = some (.rep (AskG rows keys dn)))
    (hj : ∀ rps ra rl rc rb ro kps ka kl kc kb ko da dl dc db do_, rps.map RV.row = rows → rps.length = rl → rl ≤ rc → (rl ≠ 0 → ra = some ⟨rb, ro, none⟩) → kps.map RV.row = keys → kps.length = kl → kl ≤ kc → (kl ≠ 0 → ka = some ⟨kb, ko, none⟩) → dn.length = dl → dl ≤ dc → (dl ≠ 0 → da = some ⟨db, do_, none⟩) →
      J P c ((s, .is (.agg [.slice ra rl rc, .slice ka kl kc, .slice da dl dc].toArray)) :: K) L (RowG RV.c 1 rps ra rl :: RVF rps :: RowG RV.c 1 kps ka kl :: RVF kps :: RowG kC 1 dn da dl :: Φ) x Q) : J P c K L Φ x Q := by
  refine ⟨fun E a w hs => ?_⟩
  have hp : Pers E w (AskG rows keys dn (a.tmps.getD s undef)) := hs.k s _ h
  obtain ⟨vr, vk, vd, hv, _, _, hd⟩ := hp.now
  have hall : ∀ w', Keeps E w w' → RowsR noG rows vr w' ∧ RowsR noG keys vk w' ∧ SlC kC 1 dn vd w' := fun w' hk => by
    obtain ⟨vr', vk', vd', e, h1, h2, h3⟩ := hp w' hk
    rw [hv] at e
    have e2 := agg_inj e
    simp at e2
    obtain ⟨rfl, rfl, rfl⟩ := e2
    exact ⟨h1, h2, h3⟩
  obtain ⟨rps, ra, rl, rc, h1, rfl, h3, h4, ⟨rb, ro, h5⟩, h6, h7, _⟩ := rows_fix (G := noG) (rows := rows) (E := E) (v := vr) (w := w) fun w' hk => (hall w' hk).1
  obtain ⟨kps, ka, kl, kc, k1, rfl, k3, k4, ⟨kb, ko, k5⟩, k6, k7, _⟩ := rows_fix (G := noG) (rows := keys) (E := E) (v := vk) (w := w) fun w' hk => (hall w' hk).2.1
  obtain ⟨da, dl, dc, rfl, d1, d2⟩ := hd
  have d3 : Pers E w (RowG kC 1 dn da dl) := fun w' hk => by
    obtain ⟨a', l', c', e, _, hR⟩ := (hall w' hk).2.2
    injection e with e1 e2 e3
    subst e1 e2 e3
    exact hR
  obtain ⟨db, dof, d5⟩ : ∃ b o, dl ≠ 0 → da = some ⟨b, o, none⟩ := by
    by_cases hn : dl = 0
    · exact ⟨0, 0, fun h => absurd hn h⟩
    · obtain ⟨b, o, e, _⟩ := d2.2 hn
      exact ⟨b, o, fun _ => e⟩
  refine (hj rps ra rl rc rb ro kps ka kl kc kb ko da dl dc db dof h1 h4 h3 h5 k1 k4 k3 k5 d2.1 d1 d5).out E a w ⟨hs.n, hs.d, hs.wf, fun s' T' hl' => ?_, hs.l, hs.ld, fun F hF => ?_, hs.x, hs.xs, hs.keeps, hs.may⟩
  · simp only [Go.Vc.look] at hl'
    cases hq : Nat.beq s s' with
    | true =>
      rw [hq, cond_true] at hl'
      injection hl' with hl'
      subst hl'
      rw [← Nat.eq_of_beq_eq_true hq]
      exact hv
    | false => rw [hq, cond_false] at hl'; exact hs.k s' T' hl'
  · rcases List.mem_cons.1 hF with rfl | hF
    · exact h6
    · rcases List.mem_cons.1 hF with rfl | hF
      · exact h7
      · rcases List.mem_cons.1 hF with rfl | hF
        · exact k6
        · rcases List.mem_cons.1 hF with rfl | hF
          · exact k7
          · rcases List.mem_cons.1 hF with rfl | hF
            · exact d3
            · exact hs.f F hF
end
end Go.Od
