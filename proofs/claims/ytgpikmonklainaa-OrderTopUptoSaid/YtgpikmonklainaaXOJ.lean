/- Order: what is asked, as an argument. No condition. -/
import Derived.Test.YtgpikmonklainaaXOI
import Derived.Test.YtgpikmonklainaaXG3
namespace Go.Od
open Go Go.Vc Go.Vl
theorem ps_of {Q : Nat → RV → Prop} : ∀ n, (∀ i, i < n → ∃ p, Q i p) → ∃ ps : List RV, ps.length = n ∧ ∀ (i : Nat) (p : RV), ps[i]? = some p → Q i p
  | 0, _ => ⟨[], rfl, fun i p h => by simp at h⟩
  | n + 1, h => by
    obtain ⟨ps, h1, h2⟩ := ps_of n fun i hi => h i (by omega)
    obtain ⟨p, hp⟩ := h n (by omega)
    refine ⟨ps ++ [p], by simp [h1], fun i q hq => ?_⟩
    by_cases hi : i < n
    · rw [List.getElem?_append_left (by omega)] at hq
      exact h2 i q hq
    · have hlt := (List.getElem?_eq_some_iff.1 hq).1
      have : i = n := by simp [h1] at hlt; omega
      subst this
      rw [List.getElem?_append_right (by omega), h1, Nat.sub_self] at hq
      simp at hq
      subst hq
      exact hp
def boOf {H : Type} : DataW H → Bool
  | .lit (.bool b) => b
  | _ => false
def askO {H : Type} : DataW H → DataW H × DataW H × DataW H × Int
  | .agg [r, k, d, .lit (.int _ n)] => (r, k, d, n)
  | _ => (.nil, .nil, .nil, 0)
def AskS (rows keys : List (List V3)) (dn : List Bool) (limit : Int) (v : Value) (w : World) : Prop :=
  ∃ vr vk vd, v = .agg [vr, vk, vd, .int .i64 limit].toArray ∧ RowsR noG rows vr w ∧ RowsR noG keys vk w ∧ SlC boC 1 dn vd w
structure AskSTy (P : Program) (tA tRs tVs tV tI tJ tS tBs tB tN : TypeId) : Prop extends ValTy P tV tI tJ tS where
  hA : P.underlying tA = some (.struct (P.fieldsOf tA))
  fA : (P.fieldsOf tA).map (fun f => (f.type, f.offset)) = #[(tRs, 0), (tRs, 1), (tBs, 2), (tN, 3)]
  cA : P.cellsOf tA = 4
  hRs : P.underlying tRs = some (.slice tVs)
  cRs : P.cellsOf tRs = 1
  hVs : P.underlying tVs = some (.slice tV)
  cVs : P.cellsOf tVs = 1
  hBs : P.underlying tBs = some (.slice tB)
  cBs : P.cellsOf tBs = 1
  hB : P.underlying tB = some .bool
  cB : P.cellsOf tB = 1
  hN : P.underlying tN = some (.int .i64)
  cN : P.cellsOf tN = 1
section
variable {H : Type} {enc : TypeId × Value → H} {P : Program} {w : World} {base : Nat} {spare : Nat → Bool} {held : Bool}
theorem slice_keyC {e tVs : TypeId} (hVs : P.underlying tVs = some (.slice e)) {n : Nat} {y : Value} {x : DataW H × List MemPlace} (h : DataW.trod enc P w base spare held n tVs [y] = some x) : ∃ a len cap, y = .slice a len cap ∧ len ≤ cap := by
  rcases DataW.trod_slice hVs h with ⟨g5, _⟩ | ⟨a, len, cap, _, _, _, _, g5, _, _, hlc, _⟩
  · simp at g5; exact ⟨none, 0, 0, g5, Nat.le_refl _⟩
  · simp at g5; exact ⟨some a, len, cap, g5, hlc⟩
theorem read_rowC {tVs tV tI tJ tS : TypeId} (T : ValTy P tV tI tJ tS) (hVs : P.underlying tVs = some (.slice tV)) {n : Nat} {y : Value} {x : DataW H × List MemPlace} (h : DataW.trod enc P w base spare held n tVs [y] = some x) : ∃ p : RV, y = p.v ∧ p.row = rowOf x.1 ∧ p.ok w := by
  obtain ⟨a, len, cap, rfl, hlc⟩ := slice_keyC hVs h
  obtain ⟨⟨a', len', cap', e, hR⟩, _⟩ := read_row (v := .slice a len cap) T hVs h (fun cs e => by cases e)
  injection e with e1 e2 e3
  subst e1 e2 e3
  exact ⟨⟨rowOf x.1, a, len, cap⟩, rfl, rfl, hlc, hR⟩
theorem read_rows {tRs tVs tV tI tJ tS : TypeId} (T : ValTy P tV tI tJ tS) (hVs : P.underlying tVs = some (.slice tV)) (hRs : P.underlying tRs = some (.slice tVs)) (cVs : P.cellsOf tVs = 1) {n : Nat} {y : Value} {x : DataW H × List MemPlace} (h : DataW.trod enc P w base spare held n tRs [y] = some x) :
    RowsR noG (slOf rowOf x.1) y w := by
  rcases DataW.trod_slice hRs h with ⟨g5, q5⟩ | ⟨a, len, cap, elems, rest, q, rfl, g5, q5, hb, hlc, hmx, hel, hall, _, _⟩
  · simp at g5
    subst g5 q5
    exact ⟨[], none, 0, 0, rfl, rfl, Nat.le_refl _, ⟨rfl, fun h => absurd rfl h⟩, (fun p hp => absurd hp List.not_mem_nil : RVF [] w), trivial⟩
  · simp at g5
    subst g5
    obtain ⟨xa, xb⟩ := x
    injection q5 with q5 q5'
    subst q5 q5'
    have hval : ∀ i, i < len → ∃ p : RV, w.cell? ⟨a.block, a.off + i, none⟩ = some p.v ∧ some p.row = ((elems.map (·.1)).map rowOf)[i]? ∧ p.ok w ∧ (i = 0 → a.spot = none) := by
      intro i hi
      have hA := hall i hi
      rw [List.getElem?_eq_getElem (by omega), cVs] at hA
      obtain ⟨cs', hc1, hc2⟩ := Option.bind_eq_some_iff.1 hA
      obtain ⟨z1, z2, z3⟩ := cells_row hc1 (by omega)
      match cs', z2 with
      | [u], _ =>
        obtain ⟨p, rfl, h2, h3⟩ := read_rowC T hVs hc2
        refine ⟨p, ?_, ?_, h3, fun h0 => ?_⟩
        · have := z3 0 p.v rfl
          rw [add_block, add_off] at this
          simpa using this
        · rw [h2]
          simp [List.getElem?_eq_getElem (show i < elems.length by omega)]
        · subst h0
          rwa [Nat.zero_mul, add_0] at z1
    obtain ⟨ps, hpl, hps⟩ := ps_of len hval
    refine ⟨ps, some a, len, cap, ?_, rfl, hlc, ⟨hpl, fun hne => ⟨a.block, a.off, ?_, fun i p hp => ?_⟩⟩, (fun p hp => ?_ : RVF ps w), trivial⟩
    · show ps.map RV.row = (elems.map (·.1)).map rowOf
      refine List.ext_getElem? fun i => ?_
      by_cases hi : i < len
      · have h1 : ps[i]? = some ps[i] := List.getElem?_eq_getElem (by omega)
        obtain ⟨_, h2, _⟩ := hps i _ h1
        rw [List.getElem?_map, h1, Option.map_some, h2]
      · rw [List.getElem?_eq_none (by simp; omega), List.getElem?_eq_none (by simp; omega)]
    · obtain ⟨p, _, _, _, hsp⟩ := hval 0 (by omega)
      replace hsp := hsp rfl
      cases a
      simp only at hsp
      subst hsp
      rfl
    · intro j u hu
      obtain ⟨h1, _⟩ := hps i p hp
      have : j = 0 ∧ u = p.v := by
        unfold RV.c at hu
        cases j with
        | zero => simp at hu; exact ⟨rfl, hu.symm⟩
        | succ j => simp at hu
      obtain ⟨rfl, rfl⟩ := this
      simpa using h1
    · obtain ⟨i, hi⟩ := List.getElem?_of_mem hp
      exact (hps i p hi).2.2.1
theorem read_boo {tB : TypeId} (hB : P.underlying tB = some .bool) {n : Nat} {cs : List Value} {x : DataW H × List MemPlace} (h : DataW.trod enc P w base spare held n tB cs = some x) : cs = boC (boOf x.1) ∧ True := by
  obtain ⟨b, rfl, rfl⟩ := DataW.trod_bool hB h
  exact ⟨rfl, trivial⟩
theorem read_askS {tA tRs tVs tV tI tJ tS tBs tB tN : TypeId} (T : AskSTy P tA tRs tVs tV tI tJ tS tBs tB tN) {n : Nat} {cs : List Value} {x : DataW H × List MemPlace} (h : DataW.trod enc P w base spare held n tA cs = some x) :
    cs.length = 4 ∧ AskS (slOf rowOf (askO x.1).1) (slOf rowOf (askO x.1).2.1) (slOf boOf (askO x.1).2.2.1) (askO x.1).2.2.2 (.agg cs.toArray) w := by
  obtain ⟨xs, m, rfl, rfl, hl, hn, hf⟩ := DataW.trod_struct T.hA h
  obtain ⟨f0, a0, b0, c0⟩ := field_at T.fA (i := 0) rfl
  obtain ⟨f1, a1, b1, c1⟩ := field_at T.fA (i := 1) rfl
  obtain ⟨f2, a2, b2, c2⟩ := field_at T.fA (i := 2) rfl
  obtain ⟨f3, a3, b3, c3⟩ := field_at T.fA (i := 3) rfl
  have e0 := hf 0 f0 a0
  have e1 := hf 1 f1 a1
  have e2 := hf 2 f2 a2
  have e3 := hf 3 f3 a3
  have hsz : (P.fieldsOf tA).size = 4 := by have := congrArg Array.size T.fA; simpa using this
  rw [b0, c0, T.cRs] at e0
  rw [b1, c1, T.cRs] at e1
  rw [b2, c2, T.cBs] at e2
  rw [b3, c3, T.cN] at e3
  rw [hsz] at hn
  rw [T.cA] at hl
  match xs, hn with
  | [x0, x1, x2, x3], _ =>
    match cs, hl with
    | [y0, y1, y2, y3], _ =>
      have e0' : DataW.trod enc P w base spare held m tRs [y0] = some x0 := by simpa using e0
      have e1' : DataW.trod enc P w base spare held m tRs [y1] = some x1 := by simpa using e1
      have e2' : DataW.trod enc P w base spare held m tBs [y2] = some x2 := by simpa using e2
      obtain ⟨k, g3, q3, r3⟩ := DataW.trod_int T.hN (x := x3) e3
      simp at g3
      subst g3 q3
      have h0 := read_rows T.toValTy T.hVs T.hRs T.cVs e0'
      have h1 := read_rows T.toValTy T.hVs T.hRs T.cVs e1'
      obtain ⟨a, len, cap, rfl, hlc⟩ := slice_keyC T.hBs e2'
      obtain ⟨zs, k1, k2, _⟩ := read_sl (en := boC) (of := boOf) (rng := fun _ => True) T.cB (by omega) (fun n cs x => read_boo T.hB) T.hBs (v := .slice a len cap) e2' (fun cs e => by cases e)
      have ez : slOf boOf x2.1 = zs := by
        rcases k1 with ⟨k1, rfl⟩ | ⟨es, sp, k1, rfl⟩ <;> rw [k1] <;> rfl
      obtain ⟨a', l', c', e', hR⟩ := k2
      injection e' with e1 e2 e3
      subst e1 e2 e3
      exact ⟨rfl, y0, y1, _, rfl, h0, h1, a, len, cap, rfl, hlc, by show RowG boC 1 (slOf boOf x2.1) a len w; rw [ez]; exact hR⟩
theorem pers_askS {tA tRs tVs tV tI tJ tS tBs tB tN : TypeId} (T : AskSTy P tA tRs tVs tV tI tJ tS tBs tB tN) (hl : laidOutB P = true) (hr : P.readableRec tA = true ∧ tA < P.types.size) {W : World} {v : Value} {d : DataW H} {ps : List MemPlace}
    (h : DataW.Trod enc P W 0 (fun _ => true) true tA v d ps) (hlt : ∀ p ∈ ps, p.block < W.heap.size) : Pers noX W (AskS (slOf rowOf (askO d).1) (slOf rowOf (askO d).2.1) (slOf boOf (askO d).2.2.1) (askO d).2.2.2 v) := by
  obtain ⟨n, hn⟩ := h
  obtain ⟨h4, h3⟩ := read_askS T hn
  have hv : ∃ cs, v = .agg cs := by
    cases v with
    | agg cs => exact ⟨cs, rfl⟩
    | _ => simp [Value.cells] at h4
  obtain ⟨cs, rfl⟩ := hv
  intro W' hk
  have := DataW.trod_stays (sp' := fun _ => true) (kids_book hl hr.1) (book_sized hr.1) (fun h => by cases h) ⟨hr.2, book_self tA⟩ hn (fun x hx => hk.below.same (hlt x hx)) (fun _ _ => rfl)
  obtain ⟨_, h3'⟩ := read_askS T this
  simpa [Value.cells] using h3'
end
section
variable {P : Program} {c : Ctx} {K : List (Nat × Ty)} {L : List Own} {Φ : List (World → Prop)} {Q : Exit → Act → World → Prop}
theorem J.openAskS {x : Code} {s : Nat} {rows keys : List (List V3)} {dn : List Bool} {limit : Int} (h : Go.Vc.look K s = some (.rep (AskS rows keys dn limit)))
    (hj : ∀ rps ra rl rc rb ro kps ka kl kc kb ko da dl dc db do_, rps.map RV.row = rows → rps.length = rl → rl ≤ rc → (rl ≠ 0 → ra = some ⟨rb, ro, none⟩) → kps.map RV.row = keys → kps.length = kl → kl ≤ kc → (kl ≠ 0 → ka = some ⟨kb, ko, none⟩) → dn.length = dl → dl ≤ dc → (dl ≠ 0 → da = some ⟨db, do_, none⟩) →
      J P c ((s, .is (.agg [.slice ra rl rc, .slice ka kl kc, .slice da dl dc, .int .i64 limit].toArray)) :: K) L (RowG RV.c 1 rps ra rl :: RVF rps :: RowG RV.c 1 kps ka kl :: RVF kps :: RowG boC 1 dn da dl :: Φ) x Q) : J P c K L Φ x Q := by
  refine ⟨fun E a w hs => ?_⟩
  have hp : Pers E w (AskS rows keys dn limit (a.tmps.getD s undef)) := hs.k s _ h
  obtain ⟨vr, vk, vd, hv, _, _, hd⟩ := hp.now
  have hall : ∀ w', Keeps E w w' → RowsR noG rows vr w' ∧ RowsR noG keys vk w' ∧ SlC boC 1 dn vd w' := fun w' hk => by
    obtain ⟨vr', vk', vd', e, h1, h2, h3⟩ := hp w' hk
    rw [hv] at e
    have e2 := agg_inj e
    simp at e2
    obtain ⟨rfl, rfl, rfl⟩ := e2
    exact ⟨h1, h2, h3⟩
  obtain ⟨rps, ra, rl, rc, h1, rfl, h3, h4, ⟨rb, ro, h5⟩, h6, h7, _⟩ := rows_fix (G := noG) (rows := rows) (E := E) (v := vr) (w := w) fun w' hk => (hall w' hk).1
  obtain ⟨kps, ka, kl, kc, k1, rfl, k3, k4, ⟨kb, ko, k5⟩, k6, k7, _⟩ := rows_fix (G := noG) (rows := keys) (E := E) (v := vk) (w := w) fun w' hk => (hall w' hk).2.1
  obtain ⟨da, dl, dc, rfl, d1, d2⟩ := hd
  have d3 : Pers E w (RowG boC 1 dn da dl) := fun w' hk => by
    obtain ⟨a', l', c', e, _, hR⟩ := (hall w' hk).2.2
    injection e with e1 e2 e3
    subst e1 e2 e3
    exact hR
  obtain ⟨db, dof, d5⟩ : ∃ b o, dl ≠ 0 → da = some ⟨b, o, none⟩ := by
    by_cases hn : dl = 0
    · exact ⟨0, 0, fun h => absurd hn h⟩
    · obtain ⟨b, o, e, _⟩ := d2.2 hn
      exact ⟨b, o, fun _ => e⟩
  refine (hj rps ra rl rc rb ro kps ka kl kc kb ko da dl dc db dof h1 h4 h3 h5 k1 k4 k3 k5 d2.1 d1 d5).out E a w ⟨hs.n, hs.d, hs.wf, fun s' T' hl' => ?_, hs.l, hs.ld, fun F hF => ?_, hs.x, hs.xs, hs.keeps, hs.may⟩
  · simp only [Go.Vc.look] at hl'
    cases hq : Nat.beq s s' with
    | true =>
      rw [hq, cond_true] at hl'
      injection hl' with hl'
      subst hl'
      rw [← Nat.eq_of_beq_eq_true hq]
      exact hv
    | false => rw [hq, cond_false] at hl'; exact hs.k s' T' hl'
  · rcases List.mem_cons.1 hF with rfl | hF
    · exact h6
    · rcases List.mem_cons.1 hF with rfl | hF
      · exact h7
      · rcases List.mem_cons.1 hF with rfl | hF
        · exact k6
        · rcases List.mem_cons.1 hF with rfl | hF
          · exact k7
          · rcases List.mem_cons.1 hF with rfl | hF
            · exact d3
            · exact hs.f F hF
theorem Sub.rowsF {rps : List RV} {rows : List (List V3)} {ra : Option Addr} {rl rc : Nat} (h : RowG RV.c 1 rps ra rl ∈ Φ) (hF : RVF rps ∈ Φ) (hc : rl ≤ rc) (hm : rps.map RV.row = rows) : Sub L Φ (.is (.slice ra rl rc)) (.rep (RowsR noG rows)) := fun E v w hf e => by
  rw [show v = _ from e]
  exact fun w' hk => ⟨rps, ra, rl, rc, hm, rfl, hc, hf.2 _ h w' hk, hf.2 _ hF w' hk, trivial⟩
end
theorem topO_mem {rows keys : List (List V3)} {dn : List Bool} {limit : Int} {r : List V3} (h : r ∈ topO rows keys dn limit) : r ∈ rows := by
  unfold topO at h
  split at h
  · unfold topRows at h
    obtain ⟨x, hx, rfl⟩ := List.mem_map.1 h
    have h1 : x ∈ srt (ltL dn) (rows.zip keys) := by
      unfold cut at hx
      split at hx
      · exact hx
      · exact List.mem_of_mem_take hx
    exact (List.of_mem_zip ((srt_perm _).mem_iff.1 h1)).1
  · cases h
theorem topO_len {rows keys : List (List V3)} {dn : List Bool} {limit : Int} : (topO rows keys dn limit).length ≤ rows.length := by
  unfold topO
  split
  · rw [topRows_len, List.length_zip]
    split <;> omega
  · exact Nat.zero_le _
end Go.Od
