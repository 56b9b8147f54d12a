/- Slices of plain structures, all alike. No condition. -/
import Derived.Test.YtjlojkchgfeenaaXVc21
namespace Go.Vc
open Go
def RowG {α : Type} (enc : α → List Value) (sz : Nat) (xs : List α) (a : Option Addr) (len : Nat) (w : World) : Prop := xs.length = len ∧ (len ≠ 0 → ∃ b o, a = some ⟨b, o, none⟩ ∧ ∀ i x, xs[i]? = some x → RowAt (enc x) b (o + sz * i) w)
def SlG {α : Type} (enc : α → List Value) (sz : Nat) (xs : List α) (v : Value) (w : World) : Prop := ∃ a len cap, v = .slice a len cap ∧ RowG enc sz xs a len w
theorem rowG_eq (vals : List V3) (a : Option Addr) (len : Nat) (w : World) : RowG V3.cells 3 vals a len w = RowR vals a len w := rfl
theorem slG_eq (vals : List V3) (v : Value) (w : World) : SlG V3.cells 3 vals v w = RowS vals v w := rfl
section
variable {α : Type} {enc : α → List Value} {sz : Nat}
variable {P : Program} {L : List Own} {Φ : List (World → Prop)} {H : Know} {dst : Option Nat} {ty : TypeId} {pos : String} {after : Array Edge} {g : Option (Nat × Bool)}
theorem rowG_get {xs : List α} {b o len i : Nat} {x : α} {w : World} (h : RowG enc sz xs (some ⟨b, o, none⟩) len w) (hi : xs[i]? = some x) : RowAt (enc x) b (o + sz * i) w := by
  obtain ⟨hl, hk⟩ := h
  have hne : len ≠ 0 := fun e => by rw [e] at hl; rw [List.length_eq_zero_iff.1 hl] at hi; simp at hi
  obtain ⟨b', o', e, hK⟩ := hk hne
  injection e with e
  injection e with e1 e2
  subst e1 e2
  exact hK i x hi
theorem ob_loadG {t : TypeId} {x : Operand} {b o off i len : Nat} {xs : List α} {y : α} {a : Option Addr} {cs : List Value} (hs : szOf P t = some (some cs.length)) (hx : H x (.is (.pointer (some ⟨b, off, none⟩)))) (hF : RowG enc sz xs a len ∈ Φ) (ha : a = some ⟨b, o, none⟩) (hi : xs[i]? = some y) (ho : off = o + sz * i) (hc : enc y = cs) :
    Ob P L Φ H ⟨dst, .load t x, ty, pos, after, g⟩ (.is (.agg cs.toArray)) :=
  ob_load hx fun E w hf => run_loadRow (cs := cs) hs (by rw [ho, ← hc]; exact rowG_get (by subst ha; exact (hf.2 _ hF).now) hi)
theorem ob_loadGP {t : TypeId} {x : Operand} {b o off i j n len : Nat} {xs : List α} {y : α} {a : Option Addr} {cs : List Value} (hs : szOf P t = some (some cs.length)) (hx : H x (.is (.pointer (some ⟨b, off, none⟩)))) (hF : RowG enc sz xs a len ∈ Φ) (ha : a = some ⟨b, o, none⟩) (hi : xs[i]? = some y) (ho : off = o + sz * i + j) (hc : ((enc y).drop j).take n = cs) :
    Ob P L Φ H ⟨dst, .load t x, ty, pos, after, g⟩ (.is (.agg cs.toArray)) :=
  ob_load hx fun E w hf => run_loadRow (cs := cs) hs fun k u hk => by
    have hr := rowG_get (by subst ha; exact (hf.2 _ hF).now) hi
    rw [← hc, List.getElem?_take] at hk
    split at hk
    · rw [List.getElem?_drop] at hk
      have := hr (j + k) u hk
      rw [ho]
      rwa [show o + sz * i + (j + k) = o + sz * i + j + k by omega] at this
    · cases hk
theorem ob_loadG1 {t : TypeId} {x : Operand} {b o off i j len : Nat} {xs : List α} {y : α} {u : Value} {a : Option Addr} (hs : szOf P t = some none) (hx : H x (.is (.pointer (some ⟨b, off, none⟩)))) (hF : RowG enc sz xs a len ∈ Φ) (ha : a = some ⟨b, o, none⟩) (hi : xs[i]? = some y) (ho : off = o + sz * i + j) (hu : (enc y)[j]? = some u) :
    Ob P L Φ H ⟨dst, .load t x, ty, pos, after, g⟩ (.is u) :=
  ob_load hx fun E w hf => run_load1 hs (by rw [ho]; exact rowG_get (by subst ha; exact (hf.2 _ hF).now) hi j u hu)
theorem Sub.slNil : Sub L Φ (.is (.slice none 0 0)) (.rep (SlG enc sz [])) := fun E v w hf e => by
  rw [show v = _ from e]
  exact fun w' _ => ⟨none, 0, 0, rfl, rfl, fun h => absurd rfl h⟩
theorem Sub.slFact {xs : List α} {a : Option Addr} {len cap : Nat} (h : RowG enc sz xs a len ∈ Φ) : Sub L Φ (.is (.slice a len cap)) (.rep (SlG enc sz xs)) := fun E v w hf e => by
  rw [show v = _ from e]
  exact fun w' hk => ⟨a, len, cap, rfl, hf.2 _ h w' hk⟩
variable {c : Ctx} {K : List (Nat × Ty)} {Q : Exit → Act → World → Prop}
theorem J.openSl {x : Code} {s : Nat} {xs : List α} (h : look K s = some (.rep (SlG enc sz xs)))
    (hj : ∀ a len cap b o, xs.length = len → (len ≠ 0 → a = some ⟨b, o, none⟩) → J P c ((s, .is (.slice a len cap)) :: K) L (RowG enc sz xs a len :: Φ) x Q) : J P c K L Φ x Q := by
  refine J.open_ h ?_
  rintro v ⟨w, a, len, cap, rfl, hl, hk⟩
  obtain ⟨b, o, hbo⟩ : ∃ b o, len ≠ 0 → a = some ⟨b, o, none⟩ := by
    by_cases hn : len = 0
    · exact ⟨0, 0, fun h => absurd hn h⟩
    · obtain ⟨b, o, e, _⟩ := hk hn; exact ⟨b, o, fun _ => e⟩
  refine J.fact (RowG enc sz xs a len) (fun E w hG _ => ?_) (J.subΦ (Φ' := RowG enc sz xs a len :: Φ) (fun F hF => ?_) (hj a len cap b o hl hbo))
  · intro w' hk'
    obtain ⟨a', len', cap', e, hK⟩ := hG _ List.mem_cons_self w' hk'
    injection e with e1 e2 e3
    subst e1 e2
    exact hK
  · rcases List.mem_cons.1 hF with rfl | hF
    · exact List.mem_cons_self
    · exact List.mem_cons_of_mem _ (List.mem_cons_of_mem _ hF)
end
section
variable {α : Type} {enc : α → List Value} {sz : Nat} {P : Program}
theorem flat_get {xs : List α} (hsz : ∀ x, (enc x).length = sz) : ∀ (i : Nat) (x : α), xs[i]? = some x → ∀ (j : Nat) (u : Value), (enc x)[j]? = some u → (xs.flatMap enc)[sz * i + j]? = some u := by
  induction xs with
  | nil => intro i x hx; simp at hx
  | cons y ys ih =>
    intro i x hx j u hj
    have hjs : j < sz := by have := (List.getElem?_eq_some_iff.1 hj).1; rwa [hsz] at this
    rw [List.flatMap_cons]
    cases i with
    | zero =>
      simp only [List.getElem?_cons_zero, Option.some.injEq] at hx
      subst hx
      rw [List.getElem?_append_left (by rw [hsz]; omega), show sz * 0 + j = j by omega]
      exact hj
    | succ i =>
      have e : sz * (i + 1) = sz * i + sz := by rw [Nat.mul_add, Nat.mul_one]
      rw [List.getElem?_append_right (by rw [hsz]; omega), hsz, show sz * (i + 1) + j - sz = sz * i + j by omega]
      exact ih i x (by simpa using hx) j u hj
theorem flat_len {xs : List α} (hsz : ∀ x, (enc x).length = sz) : (xs.flatMap enc).length = xs.length * sz := by
  induction xs with
  | nil => simp
  | cons y ys ih => rw [List.flatMap_cons, List.length_append, hsz, ih, List.length_cons, Nat.add_mul, Nat.one_mul]; omega
theorem flat_at {xs : List α} (hsz : ∀ x, (enc x).length = sz) (hp : 0 < sz) {j : Nat} {u : Value} (h : (xs.flatMap enc)[j]? = some u) : ∃ x, xs[j / sz]? = some x ∧ (enc x)[j % sz]? = some u := by
  have hj : j < xs.length * sz := by have := (List.getElem?_eq_some_iff.1 h).1; rwa [flat_len hsz] at this
  have hi : j / sz < xs.length := by rwa [Nat.div_lt_iff_lt_mul hp]
  have hm : j % sz < (enc xs[j / sz]).length := by rw [hsz]; exact Nat.mod_lt _ hp
  refine ⟨xs[j / sz], List.getElem?_eq_getElem hi, ?_⟩
  rw [List.getElem?_eq_getElem hm]
  have h1 := flat_get (xs := xs) hsz (j / sz) _ (List.getElem?_eq_getElem hi) (j % sz) _ (List.getElem?_eq_getElem hm)
  rw [Nat.div_add_mod, h] at h1
  exact h1.symm
theorem src_sl {L : List Own} {Φ : List (World → Prop)} {tx e' : TypeId} {xs : List α} (hsz : ∀ x, (enc x).length = sz) (hp : 0 < sz) (h1 : ∀ x, ∀ u ∈ enc x, u.oneCell' = true) (hk : P.underlying tx = some (.slice e')) : SrcOf P L Φ sz tx (.rep (SlG enc sz xs)) xs.length (xs.flatMap enc) := fun E w v _ _ h => by
  obtain ⟨a, len, cap, rfl, hl, hr⟩ := Pers.now h
  have hlen := flat_len (xs := xs) hsz
  have hone : ∀ u ∈ xs.flatMap enc, u.oneCell' = true := fun u hu => by
    obtain ⟨y, _, hy⟩ := List.mem_flatMap.1 hu
    exact h1 y u hy
  by_cases h0 : len = 0
  · have hv : xs = [] := List.length_eq_zero_iff.1 (by omega)
    subst hv h0
    cases a with
    | none => exact Src.ofNil w hk cap
    | some a => exact Src.ofSlice w hk a 0 cap [] (by simp) (fun j u hj => by simp at hj) (fun u hu => by cases hu)
  · obtain ⟨b, o, rfl, hR⟩ := hr h0
    rw [hl] at hlen ⊢
    refine Src.ofSlice w hk ⟨b, o, none⟩ len cap _ hlen (fun j u hj => ?_) hone
    obtain ⟨x, hx, hu⟩ := flat_at hsz hp hj
    have := hR _ x hx _ u hu
    rw [add_at]
    rwa [show o + sz * (j / sz) + j % sz = o + j by rw [Nat.add_assoc, Nat.div_add_mod]] at this
theorem sl_of_heap {xs : List α} (hsz : ∀ x, (enc x).length = sz) {cs : List Value} {b n : Nat} {e : TypeId} {w : World} (hn : xs.length = n) (hc : cs.take (n * sz) = xs.flatMap enc) (h : HeapIs b cs e w) (cap : Nat) : SlG enc sz xs (.slice (some ⟨b, 0, none⟩) n cap) w := by
  refine ⟨_, _, _, rfl, hn, fun _ => ⟨b, 0, rfl, fun i x hx j u hj => ?_⟩⟩
  have hu := flat_get hsz i x hx j u hj
  rw [← hc, List.getElem?_take] at hu
  split at hu
  · rw [cell_of_blk (h : w.heap[b]? = some (.cells cs.toArray e (0, 0))), Nat.zero_add]
    simpa using hu
  · cases hu
variable {c : Ctx} {K : List (Nat × Ty)} {L : List Own} {Φ : List (World → Prop)} {Q : Exit → Act → World → Prop}
theorem JX.slOwn {d b n cap : Nat} {e : TypeId} {cs : List Value} {xs : List α} {K0 : List (Nat × Ty)} (hsz : ∀ x, (enc x).length = sz) (h0 : ∀ q, ¬ c.X0 q) (hd : look K d = some (.is (.slice (some ⟨b, 0, none⟩) n cap))) (hn : xs.length = n) (hc : cs.take (n * sz) = xs.flatMap enc)
    (hK : K.all (fun p => p.2.out) = true) (hL : L.all (fun o => o.T.out) = true) (ss : List Nat) (hs : Sel K ss K0) :
    JX c K (⟨b, e, .is (.agg cs.toArray)⟩ :: L) Φ .normal (Exit.then (fun a w => ∃ E, SA c ((d, .rep (SlG enc sz xs)) :: K0) L Φ E a w) Q) := by
  refine ⟨fun E a w h => ?_⟩
  obtain ⟨E', h'⟩ := h.freeze h0 (look_out hK) (fun o ho => List.all_eq_true.1 hL o ho)
  refine ⟨E', h'.n, h'.d, h'.wf, fun s T hl => ?_, h'.l, h'.ld, fun F hF => h'.f F (List.mem_cons_of_mem _ hF), h'.x, h'.xs, h'.keeps, h'.may⟩
  unfold look at hl
  cases hb : Nat.beq d s
  · rw [hb] at hl
    exact h'.k s T (hs.look s T hl)
  · rw [hb] at hl
    injection hl with hl
    subst hl
    have e1 : d = s := Nat.eq_of_beq_eq_true hb
    subst e1
    have h2 := h'.k d _ hd
    rw [show a.tmps.getD d undef = _ from h2]
    intro w' hk
    exact sl_of_heap hsz hn hc (h'.f _ List.mem_cons_self w' hk) cap
theorem JX.slNone {d : Nat} {ad : Option Addr} {cap : Nat} {K0 : List (Nat × Ty)} (hd : look K d = some (.is (.slice ad 0 cap))) (ss : List Nat) (hs : Sel K ss K0) :
    JX c K L Φ .normal (Exit.then (fun a w => ∃ E, SA c ((d, .rep (SlG enc sz [])) :: K0) L Φ E a w) Q) := by
  refine ⟨fun E a w h => ⟨E, h.n, h.d, h.wf, fun s T hl => ?_, h.l, h.ld, h.f, h.x, h.xs, h.keeps, h.may⟩⟩
  unfold look at hl
  cases hb : Nat.beq d s
  · rw [hb] at hl
    exact h.k s T (hs.look s T hl)
  · rw [hb] at hl
    injection hl with hl
    subst hl
    have e1 : d = s := Nat.eq_of_beq_eq_true hb
    subst e1
    rw [show a.tmps.getD d undef = _ from h.k d _ hd]
    exact fun w' _ => ⟨ad, 0, cap, rfl, rfl, fun h => absurd rfl h⟩
end
section
variable {H : Type} {enc : TypeId × Value → H} {P : Program} {w : World} {base : Nat} {spare : Nat → Bool} {held : Bool}
theorem read_sl {α : Type} {en : α → List Value} {of : DataW H → α} {rng : α → Prop} {tVs tV : TypeId} {sz : Nat} (hsz : P.cellsOf tV = sz) (hp : 0 < sz) (hel : ∀ (n : Nat) (cs : List Value) (x : DataW H × List MemPlace), DataW.trod enc P w base spare held n tV cs = some x → cs = en (of x.1) ∧ rng (of x.1))
    (hVs : P.underlying tVs = some (.slice tV)) {n : Nat} {v : Value} {x : DataW H × List MemPlace} (h : DataW.trod enc P w base spare held n tVs v.cells.toList = some x) (hv : ∀ cs, v ≠ .agg cs) :
    ∃ xs : List α, (x.1 = .nil ∧ xs = [] ∨ ∃ es sp, x.1 = .slice es sp ∧ xs = es.map of) ∧ SlG en sz xs v w ∧ ∀ y ∈ xs, rng y := by
  have hc : v.cells.toList = [v] := by
    cases v <;> first | rfl | exact absurd rfl (hv _)
  rw [hc] at h
  rcases DataW.trod_slice hVs h with ⟨g5, q5⟩ | ⟨a, len, cap, elems, rest, q, rfl, g5, q5, hb, hlc, hmx, hel', hall, _, _⟩
  · simp at g5
    subst g5 q5
    exact ⟨[], .inl ⟨rfl, rfl⟩, ⟨none, 0, 0, rfl, rfl, fun h => absurd rfl h⟩, fun y hy => by simp at hy⟩
  · simp at g5
    subst g5
    obtain ⟨xa, xb⟩ := x
    injection q5 with q5 q5'
    subst q5 q5'
    have hval : ∀ i y, ((elems.map (·.1)).map of)[i]? = some y → RowAt (en y) a.block (a.off + sz * i) w ∧ rng y ∧ (i = 0 → a.spot = none) := by
      intro i y hy
      have hi : i < len := by
        have := (List.getElem?_eq_some_iff.1 hy).1
        simpa [hel'] using this
      have hA := hall i hi
      rw [List.getElem?_eq_getElem (by omega), hsz] at hA
      obtain ⟨cs', hc1, hc2⟩ := Option.bind_eq_some_iff.1 hA
      obtain ⟨z1, z2, z3⟩ := cells_row hc1 hp
      obtain ⟨j1, j2⟩ := hel _ _ _ hc2
      have hy' : y = of elems[i].1 := by
        simp [List.getElem?_eq_getElem (show i < elems.length by omega)] at hy
        exact hy.symm
      subst hy'
      refine ⟨?_, j2, fun h0 => ?_⟩
      · rw [add_block, add_off] at z3
        rw [← j1, Nat.mul_comm sz i]
        exact z3
      · subst h0
        rwa [Nat.zero_mul, add_0] at z1
    refine ⟨_, .inr ⟨_, _, rfl, rfl⟩, ⟨some a, len, cap, rfl, by simp [hel'], fun hne => ⟨a.block, a.off, ?_, fun i y hy => (hval i y hy).1⟩⟩, fun y hy => ?_⟩
    · have h0 : ((elems.map (·.1)).map of)[0]? = some (((elems.map (·.1)).map of)[0]'(by simp [hel']; omega)) := List.getElem?_eq_getElem _
      obtain ⟨_, _, hsp⟩ := hval 0 _ h0
      replace hsp := hsp rfl
      cases a
      simp only at hsp
      subst hsp
      rfl
    · obtain ⟨i, hi⟩ := List.getElem?_of_mem hy
      exact (hval i y hi).2.1
end
end Go.Vc
namespace Go.Vc
open Go
section
variable {P : Program} {c : Ctx} {K : List (Nat × Ty)} {L : List Own} {Φ : List (World → Prop)} {Q : Exit → Act → World → Prop}
theorem J.freeze {x : Code} {b : Nat} {e : TypeId} {cs : List Value} (h0 : ∀ q, ¬ c.X0 q) (hK : K.all (fun p => p.2.out) = true) (hL : L.all (fun o => o.T.out) = true) (h : J P c K L (HeapIs b cs e :: Φ) x Q) : J P c K (⟨b, e, .is (.agg cs.toArray)⟩ :: L) Φ x Q :=
  ⟨fun E a w hs => by
    obtain ⟨E', hs'⟩ := hs.freeze h0 (look_out hK) (fun o ho => List.all_eq_true.1 hL o ho)
    exact h.out E' a w hs'⟩
theorem SA.cell {E : Nat → Prop} {a : Act} {w : World} {b : Nat} {e : TypeId} {v : Value} (hv : v.cells = #[v]) (hs : SA c K (⟨b, e, .is v⟩ :: L) Φ E a w) : SA c K (⟨b, e, .is (.agg #[v])⟩ :: L) Φ E a w :=
  ⟨hs.n, hs.d, hs.wf, hs.k, fun o ho => by
    rcases List.mem_cons.1 ho with rfl | ho
    · obtain ⟨h1, u, h2, h3⟩ := hs.l _ List.mem_cons_self
      rw [show u = v from h3] at h2
      exact ⟨h1, .agg #[v], by rw [h2, hv]; rfl, rfl⟩
    · exact hs.l o (List.mem_cons_of_mem _ ho), hs.ld, hs.f, hs.x, hs.xs, hs.keeps, fun o ho => by
    rcases List.mem_cons.1 ho with rfl | ho
    · exact hs.may ⟨b, e, .is v⟩ List.mem_cons_self
    · exact hs.may o (List.mem_cons_of_mem _ ho)⟩
theorem J.freeze1 {x : Code} {b : Nat} {e : TypeId} {v : Value} (hv : v.cells = #[v]) (h0 : ∀ q, ¬ c.X0 q) (hK : K.all (fun p => p.2.out) = true) (hL : L.all (fun o => o.T.out) = true) (h : J P c K L (HeapIs b [v] e :: Φ) x Q) : J P c K (⟨b, e, .is v⟩ :: L) Φ x Q :=
  ⟨fun E a w hs => by
    obtain ⟨E', hs'⟩ := (hs.cell hv).freeze (cs := [v]) h0 (look_out hK) (fun o ho => List.all_eq_true.1 hL o ho)
    exact h.out E' a w hs'⟩
end
def PtrR (cs : List Value) (e : TypeId) (v : Value) (w : World) : Prop := ∃ b, v = .pointer (some ⟨b, 0, none⟩) ∧ HeapIs b cs e w
section
variable {P : Program} {L : List Own} {Φ : List (World → Prop)} {H : Know} {dst : Option Nat} {ty : TypeId} {pos : String} {after : Array Edge} {g : Option (Nat × Bool)}
theorem ob_ldF1 {t e : TypeId} {x : Operand} {b off : Nat} {cs : List Value} {u : Value} (hs : szOf P t = some none) (hx : H x (.is (.pointer (some ⟨b, off, none⟩)))) (hF : HeapIs b cs e ∈ Φ) (hu : cs[off]? = some u) :
    Ob P L Φ H ⟨dst, .load t x, ty, pos, after, g⟩ (.is u) :=
  ob_load hx fun E w hf => run_load1 hs (by rw [cell_of_blk (show w.heap[b]? = some (.cells cs.toArray e (0, 0)) from (hf.2 _ hF).now)]; simpa using hu)
theorem Sub.ptr {b : Nat} {cs : List Value} {e : TypeId} (hF : HeapIs b cs e ∈ Φ) : Sub L Φ (.is (.pointer (some ⟨b, 0, none⟩))) (.rep (PtrR cs e)) := fun E v w hf h => by
  rw [show v = _ from h]
  exact fun w' hk => ⟨b, rfl, hf.2 _ hF w' hk⟩
end
section
variable {P : Program} {c : Ctx} {K : List (Nat × Ty)} {L : List Own} {Φ : List (World → Prop)} {Q : Exit → Act → World → Prop}
theorem J.openPtr {x : Code} {s : Nat} {cs : List Value} {e : TypeId} (h : look K s = some (.rep (PtrR cs e))) (hj : ∀ b, J P c ((s, .is (.pointer (some ⟨b, 0, none⟩))) :: K) L (HeapIs b cs e :: Φ) x Q) : J P c K L Φ x Q := by
  refine J.open_ h ?_
  rintro v ⟨w, b, rfl, hb⟩
  refine J.fact (HeapIs b cs e) (fun E w hG _ => ?_) (J.subΦ (Φ' := HeapIs b cs e :: Φ) (fun F hF => ?_) (hj b))
  · intro w' hk
    obtain ⟨b', e', h'⟩ := hG _ List.mem_cons_self w' hk
    injection e' with e'
    injection e' with e'
    injection e' with e1
    subst e1
    exact h'
  · rcases List.mem_cons.1 hF with rfl | hF
    · exact List.mem_cons_self
    · exact List.mem_cons_of_mem _ (List.mem_cons_of_mem _ hF)
end
end Go.Vc
