/- 'append' upon nothing; a block of one's own that is written no more. No condition. -/
import Derived.Test.YtjlojkchgfeenaaXVc20
namespace Go.Vc
open Go
section
variable {P : Program}
theorem run_append_none {t tx ty e : TypeId} {i : TypeInfo} {z : Value} (ht : P.underlying t = some (.slice e)) (hi : P.info? e = some i) (hz : i.zero = some z) (hzs : z.cells.size = i.size)
    {w : World} {a : Option Addr} {n : Nat} {news : List Value} {x : Value} (hs : Src P i.size tx x n news w) (hn : n ≠ 0) (hfit : n * i.bytes ≤ 140737488355328) (h63 : n ≤ 9223372036854775807) :
    ∃ (cap' : Nat) (cs' : List Value) (w' : World), (Builtin.append_ #[t, tx] ty #[.slice a 0 0, x]).run P w = .ok (.slice (some ⟨w.heap.size, 0, none⟩) n cap') w' ∧ cs'.length = cap' * i.size ∧ n ≤ cap' ∧
      cs'.take (n * i.size) = news ∧ w'.heap[w.heap.size]? = some (.cells cs'.toArray e (0, 0)) ∧ Keeps noX w w' := by
  have hnl := hs.newsLen
  have hold : (Builtin.firstCells i.size 0 (.slice a 0 0)).run P w.drew = .ok ([] : List Value).toArray w.drew := by
    cases a with
    | none => rfl
    | some a => exact run_firstCells_some _ _ _ _ _ _ _ (by simp) fun j v hj => by simp at hj
  have hg : 0 < 0 + n := by omega
  have hr := run_append_grow_src (P := P) w t tx ty e i z ht hi hz a 0 0 [] hold x n news hs hg (by omega) (growslice_fits hg (by rw [Nat.zero_add]; exact hfit))
  have hge := grownCap_ge w (0 + n) 0 e
  simp only [Nat.zero_add, List.nil_append] at hr hge
  refine ⟨grownCap w n 0 e, news ++ (Builtin.zeroCells z.cells (grownCap w n 0 e - n)).toList, _, hr, ?_, hge, ?_, ?_, ((Keeps.drew w).trans (Keeps.alloc _ _))⟩
  · have : (Builtin.zeroCells z.cells (grownCap w n 0 e - n)).size = (grownCap w n 0 e - n) * i.size := by simp [Builtin.zeroCells, hzs]
    simp only [List.length_append, Array.length_toList, this, hnl]
    rw [← Nat.add_mul]
    congr 1
    omega
  · rw [List.take_append_of_le_length (by omega), List.take_of_length_le (by omega)]
  · have := heap_alloc_at w.drew (.cells (news.toArray ++ Builtin.zeroCells z.cells (grownCap w n 0 e - n)) e (0, 0))
    rw [show w.drew.heap.size = w.heap.size from rfl] at this
    rw [this]
    congr 2
    apply Array.ext'
    simp
theorem run_append_nothing {t tx ty e : TypeId} {i : TypeInfo} (ht : P.underlying t = some (.slice e)) (hi : P.info? e = some i) {w : World} {a : Option Addr} {news : List Value} {x : Value} (hs : Src P i.size tx x 0 news w) :
    (Builtin.append_ #[t, tx] ty #[.slice a 0 0, x]).run P w = .ok (.slice a 0 0) w := by
  have hnl : news = [] := List.length_eq_zero_iff.1 (by have := hs.newsLen; omega)
  have hc := hs.cells
  rw [hnl] at hc
  cases a with
  | none => rcases hs.kind with ⟨e', hk⟩ | hk <;> simp [Builtin.append_, run_underlying ht, run_underlying hk, sizeOf, typeInfo, hi, hs.len, hc]
  | some a => rcases hs.kind with ⟨e', hk⟩ | hk <;> simp [Builtin.append_, run_underlying ht, run_underlying hk, sizeOf, typeInfo, hi, hs.len, hc, storeCells]
variable {c : Ctx} {K : List (Nat × Ty)} {L : List Own} {Φ : List (World → Prop)} {Q : Exit → Act → World → Prop}
theorem SA.fresh {E : Nat → Prop} {a : Act} {w w' : World} {d : Nat} {ety : TypeId} {u v : Value} (hs : SA c K L Φ E a w) (hk : Keeps noX w w') (hat : w'.heap[w.heap.size]? = some (.cells u.cells ety (0, 0))) (hd : d < c.n) :
    ∃ E', SA c ((d, .is v) :: K) (⟨w.heap.size, ety, .is u⟩ :: L) Φ E' (a.put (some d) v) w' := by
  have hev : Ev E w (fun b => E b ∨ b = w.heap.size) w' := ⟨hk.of_noX, fun b hb => ⟨fun h => h.elim id (fun e => absurd hb (by omega)), .inl⟩⟩
  refine ⟨fun b => E b ∨ b = w.heap.size, hs.put (dst := some d) (T := .is v) hev ?_ rfl (fun d' e => by injection e with e; omega) ?_ ?_ (hs.keeps.step hk fun _ => False.elim) ?_⟩
  · rintro b (hb | rfl)
    · have := hs.wf b hb; have := hk.size; omega
    · exact lt_of_get hat
  · intro o ho
    rcases List.mem_cons.1 ho with rfl | ho
    · exact ⟨.inr rfl, u, hat, rfl⟩
    · exact Own.keep0 (hs.l o ho) hev hk
  · rw [List.map_cons, List.nodup_cons]
    refine ⟨fun h => ?_, hs.ld⟩
    obtain ⟨m, hm, e⟩ := List.mem_map.1 h
    have h1 := hs.wf m.b (hs.l m hm).1
    have e' : m.b = w.heap.size := e
    omega
  · intro o ho
    rcases List.mem_cons.1 ho with rfl | ho
    · exact .inr hs.keeps.size
    · exact hs.may o ho
theorem JO.append0 {ops : Array Oper} {rest : List Oper} {d : Nat} {ty t tx e : TypeId} {pos : String} {after : Array Edge} {s x : Operand} {i : TypeInfo} {z : Value} {n : Nat} {news : List Value} {TX T0 : Ty}
    (ht : P.underlying t = some (.slice e)) (hi : P.info? e = some i) (hz : i.zero = some z) (hzs : z.cells.size = i.size)
    (h0 : opTy K s = some T0) (hT0 : ∀ E v w, T0.p E v w → ∃ a, v = .slice a 0 0) (hx : opTy K x = some TX) (hS : SrcOf P L Φ i.size tx TX n news) (hfit : n * i.bytes ≤ 140737488355328) (h63 : n ≤ 9223372036854775807) (hd : Nat.blt d c.n = true)
    (hn0 : n = 0 → ∀ a, JO P c ((d, .is (.slice a 0 0)) :: K) L Φ ops rest Q)
    (hn1 : n ≠ 0 → ∀ (b' cap' : Nat) (cs' : List Value), cs'.length = cap' * i.size → n ≤ cap' → cs'.take (n * i.size) = news → JO P c ((d, .is (.slice (some ⟨b', 0, none⟩) n cap')) :: K) (⟨b', e, .is (.agg cs'.toArray)⟩ :: L) Φ ops rest Q) :
    JO P c K L Φ ops (⟨some d, .call { callee := .builtin .append, args := #[s, x], argTypes := #[t, tx] }, ty, pos, after, none⟩ :: rest) Q := by
  refine ⟨?_⟩
  intro E a w hs
  refine wpList_plain rfl fun K' hK => ?_
  obtain ⟨ad, e1⟩ := hT0 E _ w (opTy_eval hs h0)
  have e2 := hS E w (a.eval x) hs.l hs.f (opTy_eval hs hx)
  unfold Oper.wp
  by_cases h : n = 0
  · subst h
    have hr := run_append_nothing (P := P) (ty := ty) (a := ad) ht hi e2
    have hrun : (execOp a.eval ⟨some d, .call { callee := .builtin .append, args := #[s, x], argTypes := #[t, tx] }, ty, pos, after, none⟩).run P w = .ok (.value (.slice ad 0 0)) w := by
      simp [execOp, resolve, invoke, builtin, e1, hr]
    rw [hrun]
    have hs' : SA c ((d, .is (.slice ad 0 0)) :: K) L Φ E (a.put (some d) (.slice ad 0 0)) w := hs.put (dst := some d) (T := .is (.slice ad 0 0)) (Ev.of_keeps (.refl _ _)) hs.wf rfl (fun d' e => by injection e with e; subst e; exact Nat.le_of_ble_eq_true hd) hs.l hs.ld hs.keeps hs.may
    exact hK _ _ ((hn0 rfl ad).out E _ _ hs')
  · obtain ⟨cap', cs', w', hr, h1, h2, h3, h4, h5⟩ := run_append_none (P := P) (tx := tx) (ty := ty) (a := ad) ht hi hz hzs e2 h hfit h63
    obtain ⟨E', hs'⟩ := hs.fresh (d := d) (u := .agg cs'.toArray) (v := .slice (some ⟨w.heap.size, 0, none⟩) n cap') h5 h4 (Nat.le_of_ble_eq_true hd)
    have hrun : (execOp a.eval ⟨some d, .call { callee := .builtin .append, args := #[s, x], argTypes := #[t, tx] }, ty, pos, after, none⟩).run P w = .ok (.value (.slice (some ⟨w.heap.size, 0, none⟩) n cap')) w' := by
      simp [execOp, resolve, invoke, builtin, e1, hr]
    rw [hrun]
    exact hK _ _ ((hn1 h _ cap' cs' h1 h2 h3).out E' _ _ hs')
theorem src_row {L : List Own} {Φ : List (World → Prop)} {tx e' : TypeId} {vals : List V3} (hk : P.underlying tx = some (.slice e')) : SrcOf P L Φ 3 tx (.rep (RowS vals)) vals.length (vals.flatMap V3.cells) := fun E w v _ _ h => by
  obtain ⟨a, len, cap, rfl, hl, hr⟩ := Pers.now h
  have hlen : (vals.flatMap V3.cells).length = vals.length * 3 := by
    clear hl hr h
    induction vals with
    | nil => rfl
    | cons x xs ih => rw [List.flatMap_cons, List.length_append, ih, List.length_cons]; show 3 + _ = _; omega
  have h1 : ∀ u ∈ vals.flatMap V3.cells, u.oneCell' = true := fun u hu => by
    obtain ⟨y, _, hy⟩ := List.mem_flatMap.1 hu
    simp only [V3.cells, List.mem_cons, List.not_mem_nil, or_false] at hy
    rcases hy with rfl | rfl | rfl <;> rfl
  by_cases h0 : len = 0
  · have hv : vals = [] := List.length_eq_zero_iff.1 (by omega)
    subst hv h0
    cases a with
    | none => exact Src.ofNil w hk cap
    | some a => exact Src.ofSlice w hk a 0 cap [] rfl (fun j u hj => by simp at hj) (fun u hu => by cases hu)
  · obtain ⟨b, o, rfl, hR⟩ := hr h0
    rw [hl] at hlen ⊢
    refine Src.ofSlice w hk ⟨b, o, none⟩ len cap _ hlen (fun j u hj => ?_) h1
    rw [add_at]
    have hat : ∀ (vs : List V3) (k : Nat), (∀ i v, vs[i]? = some v → RowAt v.cells b (o + 3 * (k + i)) w) → ∀ (j : Nat) (u : Value), (vs.flatMap V3.cells)[j]? = some u → w.cell? ⟨b, o + 3 * k + j, none⟩ = some u := by
      intro vs
      induction vs with
      | nil => intro k _ j u hj; simp at hj
      | cons x xs ih =>
        intro k hx j u hj
        rw [List.flatMap_cons] at hj
        by_cases hj3 : j < 3
        · rw [List.getElem?_append_left (by exact hj3)] at hj
          have := hx 0 x rfl j u hj
          simpa using this
        · rw [List.getElem?_append_right (by show 3 ≤ j; omega)] at hj
          have := ih (k + 1) (fun i v hv => by have := hx (i + 1) v (by simpa using hv); rwa [show k + (i + 1) = k + 1 + i by omega] at this) (j - 3) u hj
          rwa [show o + 3 * (k + 1) + (j - 3) = o + 3 * k + j by omega] at this
    have := hat vals 0 (fun i v hv => by rw [Nat.zero_add]; exact hR i v hv) j u hj
    simpa using this
def HeapIs (b : Nat) (cs : List Value) (e : TypeId) (w : World) : Prop := w.heap[b]? = some (.cells cs.toArray e (0, 0))
theorem SA.freeze {E : Nat → Prop} {a : Act} {w : World} {b : Nat} {e : TypeId} {cs : List Value} (hs : SA c K (⟨b, e, .is (.agg cs.toArray)⟩ :: L) Φ E a w) (h0 : ∀ q, ¬ c.X0 q) (hK : ∀ s T, look K s = some T → T.out = true) (hL : ∀ o ∈ L, o.T.out = true) :
    ∃ E', SA c K L (HeapIs b cs e :: Φ) E' a w := by
  have hb := own_blk (hs.l _ List.mem_cons_self) rfl
  have hbW : c.W0.heap.size ≤ b := (hs.may _ List.mem_cons_self).resolve_left (h0 b)
  have hsub : ∀ q, q < w.heap.size → (E q ∧ q ≠ b) → E q := fun q _ h => h.1
  have hld := hs.ld
  rw [List.map_cons, List.nodup_cons] at hld
  refine ⟨fun q => E q ∧ q ≠ b, hs.n, hs.d, fun q h => hs.wf q h.1, fun s T h => Ty.weak hsub (hK s T h) (hs.k s T h), fun o ho => ?_, hld.2, fun F hF => ?_, fun q hq => ⟨hs.x q hq, fun e => ?_⟩, hs.xs, hs.keeps, fun o ho => hs.may o (List.mem_cons_of_mem _ ho)⟩
  · obtain ⟨h1, v, h2, h3⟩ := hs.l o (List.mem_cons_of_mem _ ho)
    exact ⟨⟨h1, fun e => hld.1 (List.mem_map.2 ⟨o, ho, e⟩)⟩, v, h2, Ty.weak hsub (hL o ho) h3⟩
  · rcases List.mem_cons.1 hF with rfl | hF
    · intro w' hk
      exact hk.get hb fun h => h.2 rfl
    · exact Pers.weak (hs.f F hF) hsub
  · have := hs.xs q hq
    omega
end
end Go.Vc
namespace Go.Vc
open Go
section
variable {P : Program} {c : Ctx} {K : List (Nat × Ty)} {L : List Own} {Φ : List (World → Prop)} {Q : Exit → Act → World → Prop}
theorem look_out : ∀ {K : List (Nat × Ty)}, K.all (fun p => p.2.out) = true → ∀ s T, look K s = some T → T.out = true
  | [], _, s, T, h => by cases h
  | (t, U) :: K, ha, s, T, h => by
    simp only [List.all_cons, Bool.and_eq_true] at ha
    unfold look at h
    cases hb : Nat.beq t s
    · rw [hb] at h
      exact look_out ha.2 s T h
    · rw [hb] at h
      injection h with h
      subst h
      exact ha.1
theorem row_of_heap {vals : List V3} {cs : List Value} {b n : Nat} {e : TypeId} {w : World} (hn : vals.length = n) (hc : cs.take (n * 3) = vals.flatMap V3.cells) (h : HeapIs b cs e w) (cap : Nat) : RowS vals (.slice (some ⟨b, 0, none⟩) n cap) w := by
  refine ⟨_, _, _, rfl, hn, fun _ => ⟨b, 0, rfl, fun i v hv j u hj => ?_⟩⟩
  have hcell : ∀ (vs : List V3) (i : Nat) (v : V3), vs[i]? = some v → ∀ j u, v.cells[j]? = some u → (vs.flatMap V3.cells)[3 * i + j]? = some u := by
    intro vs
    induction vs with
    | nil => intro i v hv; simp at hv
    | cons x xs ih =>
      intro i v hv j u hj
      have hj3 : j < 3 := (List.getElem?_eq_some_iff.1 hj).1
      rw [List.flatMap_cons]
      cases i with
      | zero =>
        simp only [List.getElem?_cons_zero, Option.some.injEq] at hv
        subst hv
        rw [List.getElem?_append_left (by show 3 * 0 + j < 3; omega), show 3 * 0 + j = j by omega]
        exact hj
      | succ i =>
        rw [List.getElem?_append_right (by show 3 ≤ 3 * (i + 1) + j; omega)]
        have := ih i v (by simpa using hv) j u hj
        rwa [show 3 * (i + 1) + j - (V3.cells x).length = 3 * i + j by show 3 * (i + 1) + j - 3 = _; omega]
  have hu := hcell vals i v hv j u hj
  rw [← hc, List.getElem?_take] at hu
  split at hu
  · rw [cell_of_blk (h : w.heap[b]? = some (.cells cs.toArray e (0, 0))), Nat.zero_add]
    simpa using hu
  · cases hu
theorem JX.rowOwn {d b n cap : Nat} {e : TypeId} {cs : List Value} {vals : List V3} {K0 : List (Nat × Ty)} (h0 : ∀ q, ¬ c.X0 q) (hd : look K d = some (.is (.slice (some ⟨b, 0, none⟩) n cap))) (hn : vals.length = n) (hc : cs.take (n * 3) = vals.flatMap V3.cells)
    (hK : K.all (fun p => p.2.out) = true) (hL : L.all (fun o => o.T.out) = true) (ss : List Nat) (hs : Sel K ss K0) :
    JX c K (⟨b, e, .is (.agg cs.toArray)⟩ :: L) Φ .normal (Exit.then (fun a w => ∃ E, SA c ((d, .rep (RowS vals)) :: K0) L Φ E a w) Q) := by
  refine ⟨fun E a w h => ?_⟩
  obtain ⟨E', h'⟩ := h.freeze h0 (look_out hK) (fun o ho => List.all_eq_true.1 hL o ho)
  refine ⟨E', h'.n, h'.d, h'.wf, fun s T hl => ?_, h'.l, h'.ld, fun F hF => h'.f F (List.mem_cons_of_mem _ hF), h'.x, h'.xs, h'.keeps, h'.may⟩
  unfold look at hl
  cases hb : Nat.beq d s
  · rw [hb] at hl
    exact h'.k s T (hs.look s T hl)
  · rw [hb] at hl
    injection hl with hl
    subst hl
    have e1 : d = s := Nat.eq_of_beq_eq_true hb
    subst e1
    have h2 := h'.k d _ hd
    rw [show a.tmps.getD d undef = _ from h2]
    intro w' hk
    exact row_of_heap hn hc (h'.f _ List.mem_cons_self w' hk) cap
theorem JX.rowNone {d : Nat} {ad : Option Addr} {K0 : List (Nat × Ty)} (hd : look K d = some (.is (.slice ad 0 0))) (ss : List Nat) (hs : Sel K ss K0) :
    JX c K L Φ .normal (Exit.then (fun a w => ∃ E, SA c ((d, .rep (RowS [])) :: K0) L Φ E a w) Q) := by
  refine ⟨fun E a w h => ⟨E, h.n, h.d, h.wf, fun s T hl => ?_, h.l, h.ld, h.f, h.x, h.xs, h.keeps, h.may⟩⟩
  unfold look at hl
  cases hb : Nat.beq d s
  · rw [hb] at hl
    exact h.k s T (hs.look s T hl)
  · rw [hb] at hl
    injection hl with hl
    subst hl
    have e1 : d = s := Nat.eq_of_beq_eq_true hb
    subst e1
    rw [show a.tmps.getD d undef = _ from h.k d _ hd]
    exact fun w' _ => ⟨ad, 0, 0, rfl, rfl, fun h => absurd rfl h⟩
end
end Go.Vc
namespace Go.Vc
open Go
structure ApTy (P : Program) (t e : TypeId) (sz bytes : Nat) : Prop where
  ht : P.underlying t = some (.slice e)
  hi : (P.info? e).map (fun i => (i.size, i.bytes, i.zero.map (·.cells.size))) = some (sz, bytes, some sz)
theorem ApTy.get {P : Program} {t e : TypeId} {sz bytes : Nat} (h : ApTy P t e sz bytes) : ∃ i z, P.info? e = some i ∧ i.zero = some z ∧ z.cells.size = i.size ∧ i.size = sz ∧ i.bytes = bytes := by
  have h1 := h.hi
  cases hq : P.info? e with
  | none => rw [hq] at h1; cases h1
  | some i =>
    rw [hq, Option.map_some, Option.some.injEq, Prod.mk.injEq, Prod.mk.injEq] at h1
    obtain ⟨h2, h3, h4⟩ := h1
    cases hz : i.zero with
    | none => rw [hz] at h4; cases h4
    | some z => rw [hz, Option.map_some, Option.some.injEq] at h4; exact ⟨i, z, rfl, hz, h4.trans h2.symm, h2, h3⟩
section
variable {P : Program} {c : Ctx} {K : List (Nat × Ty)} {L : List Own} {Φ : List (World → Prop)} {Q : Exit → Act → World → Prop}
theorem JO.ap {ops : Array Oper} {rest : List Oper} {d : Nat} {ty t tx e : TypeId} {pos : String} {after : Array Edge} {s x : Operand} {sz bytes : Nat} {b len cap n : Nat} {cs news : List Value} {TX : Ty}
    (hT : ApTy P t e sz bytes) (h0 : opTy K s = some (.is (.slice (some ⟨b, 0, none⟩) len cap))) (hx : opTy K x = some TX) (hS : SrcOf P (⟨b, e, .is (.agg cs.toArray)⟩ :: L) Φ sz tx TX n news) (hc : cs.length = cap * sz) (hl : len ≤ cap) (hfit : (len + n) * bytes ≤ 140737488355328) (h63 : len + n ≤ 9223372036854775807) (hd : Nat.blt d c.n = true)
    (hn : ∀ (b' cap' : Nat) (cs' : List Value), cs'.length = cap' * sz → len + n ≤ cap' → cs'.take ((len + n) * sz) = cs.take (len * sz) ++ news → JO P c ((d, .is (.slice (some ⟨b', 0, none⟩) (len + n) cap')) :: K) (⟨b', e, .is (.agg cs'.toArray)⟩ :: L) Φ ops rest Q) :
    JO P c K (⟨b, e, .is (.agg cs.toArray)⟩ :: L) Φ ops (⟨some d, .call { callee := .builtin .append, args := #[s, x], argTypes := #[t, tx] }, ty, pos, after, none⟩ :: rest) Q := by
  obtain ⟨i, z, hi, hz, hzs, rfl, rfl⟩ := hT.get
  exact JO.append hT.ht hi hz hzs h0 hx hS hc hl hfit h63 hd hn
theorem JO.ap0 {ops : Array Oper} {rest : List Oper} {d : Nat} {ty t tx e : TypeId} {pos : String} {after : Array Edge} {s x : Operand} {sz bytes : Nat} {n : Nat} {news : List Value} {TX T0 : Ty}
    (hT : ApTy P t e sz bytes) (h0 : opTy K s = some T0) (hT0 : ∀ E v w, T0.p E v w → ∃ a, v = .slice a 0 0) (hx : opTy K x = some TX) (hS : SrcOf P L Φ sz tx TX n news) (hfit : n * bytes ≤ 140737488355328) (h63 : n ≤ 9223372036854775807) (hd : Nat.blt d c.n = true)
    (hn0 : n = 0 → ∀ a, JO P c ((d, .is (.slice a 0 0)) :: K) L Φ ops rest Q)
    (hn1 : n ≠ 0 → ∀ (b' cap' : Nat) (cs' : List Value), cs'.length = cap' * sz → n ≤ cap' → cs'.take (n * sz) = news → JO P c ((d, .is (.slice (some ⟨b', 0, none⟩) n cap')) :: K) (⟨b', e, .is (.agg cs'.toArray)⟩ :: L) Φ ops rest Q) :
    JO P c K L Φ ops (⟨some d, .call { callee := .builtin .append, args := #[s, x], argTypes := #[t, tx] }, ty, pos, after, none⟩ :: rest) Q := by
  obtain ⟨i, z, hi, hz, hzs, rfl, rfl⟩ := hT.get
  exact JO.append0 hT.ht hi hz hzs h0 hT0 hx hS hfit h63 hd hn0 hn1
end
end Go.Vc
namespace Go.Vc
open Go
theorem J.cutS {P : Program} {c : Ctx} {K : List (Nat × Ty)} {L : List Own} {Φ : List (World → Prop)} {Q : Exit → Act → World → Prop} {K1 : List (Nat × Ty)} {x y : Code} (h : J P c K L Φ x (Exit.then (fun a w => ∃ E, SA c K1 L Φ E a w) Q)) (hy : J P c K1 L Φ y Q) : J P c K L Φ (.seq x y) Q := J.cut h hy
end Go.Vc
