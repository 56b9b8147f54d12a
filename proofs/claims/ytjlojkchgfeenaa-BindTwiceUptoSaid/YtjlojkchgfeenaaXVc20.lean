/- 'append', upon a block of one's own. No condition. -/
import Derived.Test.YtjlojkchgfeenaaXVc19
import Derived.Deep.AppendSrc
import Derived.Laws.AppendOwn
import Derived.Laws.CopyRow
namespace Go.Vc
open Go
section
variable {P : Program}
theorem run_append_own {t tx ty e : TypeId} {i : TypeInfo} {z : Value} (ht : P.underlying t = some (.slice e)) (hi : P.info? e = some i) (hz : i.zero = some z) (hzs : z.cells.size = i.size)
    {w : World} {b len cap n : Nat} {cs news : List Value} {x : Value} (hb : w.heap[b]? = some (.cells cs.toArray e (0, 0))) (hc : cs.length = cap * i.size) (hl : len ≤ cap) (hs : Src P i.size tx x n news w) (hfit : (len + n) * i.bytes ≤ 140737488355328) (h63 : len + n ≤ 9223372036854775807) :
    ∃ (b' cap' : Nat) (cs' : List Value) (w' : World), (Builtin.append_ #[t, tx] ty #[.slice (some ⟨b, 0, none⟩) len cap, x]).run P w = .ok (.slice (some ⟨b', 0, none⟩) (len + n) cap') w' ∧ cs'.length = cap' * i.size ∧ len + n ≤ cap' ∧
      cs'.take ((len + n) * i.size) = cs.take (len * i.size) ++ news ∧ w'.heap[b']? = some (.cells cs'.toArray e (0, 0)) ∧ Keeps (fun q => q = b) w w' ∧ (b' = b ∨ w.heap.size ≤ b') := by
  have hnl := hs.newsLen
  by_cases hroom : len + n ≤ cap
  · have hm : len * i.size + n * i.size ≤ cap * i.size := by rw [← Nat.add_mul]; exact Nat.mul_le_mul_right _ hroom
    have hst := run_storeCells_at (P := P) b (len * i.size) e news 0 cs.toArray w hb (by simp; omega) hs.one
    refine ⟨b, cap, cs.take (len * i.size) ++ news ++ cs.drop (len * i.size + news.length), w.setRow b (cs.take (len * i.size) ++ news ++ cs.drop (len * i.size + news.length)).toArray, ?_, ?_, hroom, ?_, heap_setRow w b _ _ _ _ hb, Keeps.setRow w b _ _ _ hb ?_, Or.inl rfl⟩
    · simp only [Nat.add_zero] at hst
      have ha : ∀ m, (⟨b, 0, none⟩ : Addr).add m = ⟨b, m, none⟩ := fun m => by rw [add_at]; simp
      rcases hs.kind with ⟨e', hk⟩ | hk <;> simp [Builtin.append_, run_underlying ht, run_underlying hk, sizeOf, typeInfo, hi, hs.len, hroom, hs.cells, ha, hst]
    · simp; omega
    · rw [List.take_append_of_le_length (by simp; rw [Nat.add_mul]; omega), List.take_of_length_le (by simp; rw [Nat.add_mul]; omega)]
    · simp; omega
  · have hold : (Builtin.firstCells i.size len (.slice (some ⟨b, 0, none⟩) len cap)).run P w.drew = .ok (cs.take (len * i.size)).toArray w.drew := by
      have hle : len * i.size ≤ cap * i.size := Nat.mul_le_mul_right _ hl
      refine run_firstCells_some _ _ _ _ _ _ _ (by simp; omega) fun j v hj => ?_
      have hd : w.drew.heap[b]? = some (.cells cs.toArray e (0, 0)) := hb
      rw [add_at, cell_of_blk hd, Nat.zero_add]
      rw [List.getElem?_take] at hj
      split at hj
      · simpa using hj
      · cases hj
    have hg : cap < len + n := by omega
    have hr := run_append_grow_src (P := P) w t tx ty e i z ht hi hz (some ⟨b, 0, none⟩) len cap (cs.take (len * i.size)) hold x n news hs hg (by omega) (growslice_fits hg hfit)
    have hge := grownCap_ge w (len + n) cap e
    refine ⟨w.heap.size, grownCap w (len + n) cap e, (cs.take (len * i.size) ++ news) ++ (Builtin.zeroCells z.cells (grownCap w (len + n) cap e - (len + n))).toList, _, hr, ?_, hge, ?_, ?_, ?_, Or.inr (Nat.le_refl _)⟩
    · have hle : len * i.size ≤ cap * i.size := Nat.mul_le_mul_right _ hl
      have : (Builtin.zeroCells z.cells (grownCap w (len + n) cap e - (len + n))).size = (grownCap w (len + n) cap e - (len + n)) * i.size := by simp [Builtin.zeroCells, hzs]
      simp only [List.length_append, List.length_take, Array.length_toList, this, hnl]
      rw [Nat.min_eq_left (by omega), ← Nat.add_mul, ← Nat.add_mul]
      congr 1
      omega
    · have hle : len * i.size ≤ cap * i.size := Nat.mul_le_mul_right _ hl
      rw [List.take_append_of_le_length (by simp [hnl]; rw [Nat.add_mul]; omega), List.take_of_length_le (by simp [hnl]; rw [Nat.add_mul]; omega)]
    · have := heap_alloc_at w.drew (.cells ((cs.take (len * i.size) ++ news).toArray ++ Builtin.zeroCells z.cells (grownCap w (len + n) cap e - (len + n))) e (0, 0))
      rw [show w.drew.heap.size = w.heap.size from rfl] at this
      rw [this]
      congr 2
      apply Array.ext'
      simp
    · exact ((Keeps.drew w).trans (Keeps.alloc _ _)).mono fun _ _ h => h.elim
end
end Go.Vc
namespace Go.Vc
open Go
section
variable {P : Program} {c : Ctx} {K : List (Nat × Ty)} {L : List Own} {Φ : List (World → Prop)} {Q : Exit → Act → World → Prop}
theorem SA.swap {E : Nat → Prop} {a : Act} {w w' : World} {b b' d : Nat} {ety : TypeId} {T : Ty} {u v : Value} (hs : SA c K (⟨b, ety, T⟩ :: L) Φ E a w) (hk : Keeps (fun q => q = b) w w') (hb' : b' = b ∨ w.heap.size ≤ b')
    (hat : w'.heap[b']? = some (.cells u.cells ety (0, 0))) (hd : d < c.n) : ∃ E', SA c ((d, .is v) :: K) (⟨b', ety, .is u⟩ :: L) Φ E' (a.put (some d) v) w' := by
  have hE : E b := (hs.l _ List.mem_cons_self).1
  have hev : Ev E w (fun q => E q ∨ q = b') w' := ⟨hk.mono fun q _ e => by rw [e]; exact hE, fun q hq => ⟨fun h => h.elim id fun e => by
    rcases hb' with h | h
    · rw [e, h]; exact hE
    · exact absurd hq (by omega), .inl⟩⟩
  have hne : ∀ o ∈ L, o.b ≠ b := fun o ho e => by
    have := hs.ld
    rw [List.map_cons, List.nodup_cons] at this
    exact this.1 (List.mem_map.2 ⟨o, ho, e⟩)
  have hmay := hs.may _ List.mem_cons_self
  refine ⟨fun q => E q ∨ q = b', hs.put (dst := some d) (T := .is v) hev ?_ rfl (fun d' e => by injection e with e; omega) ?_ ?_ (hs.keeps.step hk fun q e => by rw [e]; exact hmay) ?_⟩
  · rintro q (hq | rfl)
    · have := hs.wf q hq; have := hk.size; omega
    · exact lt_of_get hat
  · intro o ho
    rcases List.mem_cons.1 ho with rfl | ho
    · exact ⟨.inr rfl, u, hat, rfl⟩
    · have h := hs.l o (List.mem_cons_of_mem _ ho)
      exact Own.keep h hev (hk.blk _ (hs.wf _ h.1) (hne o ho))
  · have := hs.ld
    rw [List.map_cons, List.nodup_cons] at this ⊢
    refine ⟨fun h => ?_, this.2⟩
    obtain ⟨m, hm, e⟩ := List.mem_map.1 h
    have e' : m.b = b' := e
    rcases hb' with h | h
    · exact hne m hm (e'.trans h)
    · have := hs.wf m.b (hs.l m (List.mem_cons_of_mem _ hm)).1
      omega
  · intro o ho
    rcases List.mem_cons.1 ho with rfl | ho
    · rcases hb' with h | h
      · show c.X0 b' ∨ c.W0.heap.size ≤ b'
        rw [h]; exact hmay
      · have := hs.keeps.size
        exact .inr (by show c.W0.heap.size ≤ b'; omega)
    · exact hs.may o (List.mem_cons_of_mem _ ho)
def SrcOf (P : Program) (L : List Own) (Φ : List (World → Prop)) (size : Nat) (tx : TypeId) (T : Ty) (n : Nat) (news : List Value) : Prop := ∀ E w v, (∀ m ∈ L, m.at E w) → (∀ F ∈ Φ, Pers E w F) → T.p E v w → Src P size tx v n news w
theorem JO.append {ops : Array Oper} {rest : List Oper} {d : Nat} {ty t tx e : TypeId} {pos : String} {after : Array Edge} {s x : Operand} {i : TypeInfo} {z : Value} {b len cap n : Nat} {cs news : List Value} {TX : Ty}
    (ht : P.underlying t = some (.slice e)) (hi : P.info? e = some i) (hz : i.zero = some z) (hzs : z.cells.size = i.size)
    (h0 : opTy K s = some (.is (.slice (some ⟨b, 0, none⟩) len cap))) (hx : opTy K x = some TX) (hS : SrcOf P (⟨b, e, .is (.agg cs.toArray)⟩ :: L) Φ i.size tx TX n news) (hc : cs.length = cap * i.size) (hl : len ≤ cap) (hfit : (len + n) * i.bytes ≤ 140737488355328) (h63 : len + n ≤ 9223372036854775807) (hd : Nat.blt d c.n = true)
    (hn : ∀ (b' cap' : Nat) (cs' : List Value), cs'.length = cap' * i.size → len + n ≤ cap' → cs'.take ((len + n) * i.size) = cs.take (len * i.size) ++ news → JO P c ((d, .is (.slice (some ⟨b', 0, none⟩) (len + n) cap')) :: K) (⟨b', e, .is (.agg cs'.toArray)⟩ :: L) Φ ops rest Q) :
    JO P c K (⟨b, e, .is (.agg cs.toArray)⟩ :: L) Φ ops (⟨some d, .call { callee := .builtin .append, args := #[s, x], argTypes := #[t, tx] }, ty, pos, after, none⟩ :: rest) Q := by
  refine ⟨?_⟩
  intro E a w hs
  refine wpList_plain rfl fun K' hK => ?_
  have e1 : a.eval s = .slice (some ⟨b, 0, none⟩) len cap := opTy_eval hs h0
  have e2 := hS E w (a.eval x) hs.l hs.f (opTy_eval hs hx)
  have hb := own_blk (hs.l _ List.mem_cons_self) rfl
  obtain ⟨b', cap', cs', w', hr, h1, h2, h3, h4, h5, h6⟩ := run_append_own (P := P) (tx := tx) (ty := ty) ht hi hz hzs hb hc hl e2 hfit h63
  obtain ⟨E', hs'⟩ := hs.swap (d := d) (u := .agg cs'.toArray) (v := .slice (some ⟨b', 0, none⟩) (len + n) cap') h5 h6 h4 (Nat.le_of_ble_eq_true hd)
  unfold Oper.wp
  have hrun : (execOp a.eval ⟨some d, .call { callee := .builtin .append, args := #[s, x], argTypes := #[t, tx] }, ty, pos, after, none⟩).run P w = .ok (.value (.slice (some ⟨b', 0, none⟩) (len + n) cap')) w' := by
    simp [execOp, resolve, invoke, builtin, e1, hr]
  rw [hrun]
  exact hK _ _ ((hn b' cap' cs' h1 h2 h3).out E' _ _ hs')
end
end Go.Vc
