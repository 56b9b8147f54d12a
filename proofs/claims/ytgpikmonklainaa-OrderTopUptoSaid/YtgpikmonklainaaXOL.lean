/- Order: rows that change places in memory; rows written over. No condition. -/
import Derived.Test.YtgpikmonklainaaXOK
import Derived.Test.YtgpikmonklainaaXG5
namespace Go.Od
open Go Go.Vc Go.Vl
theorem gr_nth {xs : List RV} {b cap i off : Nat} {cs : List Value} (h : Grows RV.c 1 xs (some (b, cs)) cap) (hi : i < xs.length) (e : off = i) : nth (Value.agg cs.toArray).cells.toList off = some (xs.getD i rv0).v := by
  subst e
  obtain ⟨h1, h2, h3⟩ := h
  rw [nth_eq]
  show cs.toArray.toList[off]? = _
  have h4 : (cs.take (xs.length * 1))[off]? = some (xs.getD off rv0).v := by
    rw [h3, flatC, List.getElem?_map, getD_some (d := rv0) hi]
    rfl
  rw [List.getElem?_take, if_pos (by omega)] at h4
  simpa using h4
theorem gr_set {xs : List RV} {b cap i off : Nat} {cs : List Value} (h : Grows RV.c 1 xs (some (b, cs)) cap) (hi : i < xs.length) (p : RV) (e : off = i) : Grows RV.c 1 (xs.set i p) (some (b, splice cs off [p.v])) cap := by
  subst e
  obtain ⟨h1, h2, h3⟩ := h
  have hl : off < cs.length := by omega
  have e1 : splice cs off [p.v] = cs.set off p.v := by
    unfold splice
    rw [List.set_eq_take_append_cons_drop, if_pos hl]
    simp
  refine ⟨by rw [e1, List.length_set]; exact h1, by rw [List.length_set]; exact h2, ?_⟩
  rw [e1, List.length_set, List.take_set, h3, flatC, flatC, List.map_set]
theorem gr_len {xs : List RV} {b cap : Nat} {cs : List Value} (h : Grows RV.c 1 xs (some (b, cs)) cap) : xs.length ≤ cs.length := by
  obtain ⟨h1, h2, h3⟩ := h
  omega
theorem map_swp {α β : Type} {d : α} {d' : β} (f : α → β) {l : List α} {i j : Nat} (hi : i < l.length) (hj : j < l.length) : ((l.map f).set i ((l.map f).getD j d')).set j ((l.map f).getD i d') = (swp d l i j).map f := by
  have e1 : (l.map f).getD i d' = f (l.getD i d) := by rw [getD_lt (by simpa using hi), getD_lt hi, List.getElem_map]
  have e2 : (l.map f).getD j d' = f (l.getD j d) := by rw [getD_lt (by simpa using hj), getD_lt hj, List.getElem_map]
  unfold swp
  rw [e1, e2, List.map_set, List.map_set]
theorem allOk_perm {r k r' k' : List (List V3)} {dn : List Bool} (h1 : r.length = k.length) (h2 : r'.length = k'.length) (hp : (r'.zip k').Perm (r.zip k)) : allOk r' k' dn = allOk r k dn := by
  unfold allOk
  rw [h1, h2, beq_self_eq_true, beq_self_eq_true, Bool.true_and, Bool.true_and]
  rw [Bool.eq_iff_iff, List.all_eq_true, List.all_eq_true]
  exact ⟨fun h x hx => h x (hp.mem_iff.2 hx), fun h x hx => h x (hp.mem_iff.1 hx)⟩
theorem allOk_len {r k : List (List V3)} {dn : List Bool} (h : allOk r k dn = true) : r.length = k.length ∧ ∀ x ∈ r.zip k, x.2.length = dn.length := by
  unfold allOk at h
  rw [Bool.and_eq_true, beq_iff_eq, List.all_eq_true] at h
  refine ⟨h.1, fun x hx => ?_⟩
  have := h.2 x hx
  simp only [okL, Bool.and_eq_true, beq_iff_eq] at this
  exact this.1.1
theorem topO_perm {r k r' k' : List (List V3)} {dn : List Bool} {limit : Int} (h1 : r'.length = k'.length) (hok : allOk r k dn = true) (hp : (r'.zip k').Perm (r.zip k)) : topO r' k' dn limit = topO r k dn limit ∧ topE r' k' dn = topE r k dn := by
  obtain ⟨h2, hv⟩ := allOk_len hok
  have e := allOk_perm (dn := dn) h2 h1 hp
  have hok' := e.trans hok
  rw [topO_ok hok', topO_ok hok, topE_ok hok', topE_ok hok]
  exact ⟨(topRows_perm limit dn hv hp.symm).symm, rfl⟩
theorem zip_lines (ls : List LV) : ((ls.map LV.r).map RV.row).zip ((ls.map LV.k).map RV.row) = ls.map LV.ln := by
  induction ls with
  | nil => rfl
  | cons x ls ih =>
    show (x.r.row, x.k.row) :: ((ls.map LV.r).map RV.row).zip ((ls.map LV.k).map RV.row) = _
    rw [ih]
    rfl
theorem lvs_r {rps kps : List RV} (h : rps.length = kps.length) : (lvs rps kps).map LV.r = rps := by
  refine List.ext_getElem? fun i => ?_
  by_cases hi : i < rps.length
  · rw [List.getElem?_map, lvs_get hi (by omega), getD_some (d := rv0) hi]; rfl
  · rw [List.getElem?_eq_none (by rw [List.length_map, lvs_len h]; omega), List.getElem?_eq_none (by omega)]
theorem lvs_k {rps kps : List RV} (h : rps.length = kps.length) : (lvs rps kps).map LV.k = kps := by
  refine List.ext_getElem? fun i => ?_
  by_cases hi : i < kps.length
  · rw [List.getElem?_map, lvs_get (by omega) hi, getD_some (d := rv0) hi]; rfl
  · rw [List.getElem?_eq_none (by rw [List.length_map, lvs_len h]; omega), List.getElem?_eq_none (by omega)]
theorem rowG_take {α : Type} {en : α → List Value} {sz n len : Nat} {xs : List α} {a : Option Addr} {w : World} (h : RowG en sz xs a len w) (hn : n ≤ len) : RowG en sz (xs.take n) a n w := by
  obtain ⟨h1, h2⟩ := h
  refine ⟨by rw [List.length_take]; omega, fun hne => ?_⟩
  obtain ⟨b, o, e, h3⟩ := h2 (by omega)
  refine ⟨b, o, e, fun i x hx => h3 i x ?_⟩
  rw [List.getElem?_take] at hx
  split at hx
  · exact hx
  · cases hx
theorem take_cut {rows keys : List (List V3)} {dn : List Bool} {limit : Int} (hok : allOk rows keys dn = true) : topO rows keys dn limit = (topO rows keys dn (-1)).take (if limit < 0 then rows.length else min limit.toNat rows.length) ∧ (topO rows keys dn (-1)).length = rows.length := by
  obtain ⟨h1, _⟩ := allOk_len hok
  have hz : (rows.zip keys).length = rows.length := by rw [List.length_zip]; omega
  rw [topO_ok hok, topO_ok hok, topRows_take, hz]
  exact ⟨rfl, by rw [topRows_len, hz, if_pos (by omega)]⟩
def OutF (bq : Nat) (qs : List RV) (ts : TypeId) (w : World) : Prop := qs.length ≠ 0 → HeapIs bq (qs.flatMap RV.c) ts w
def ShpAll (N : Nat) (tv : TypeId) (qs : List RV) (w : World) : Prop := ∀ p ∈ qs, p.len ≠ 0 → ∃ b n, p.a = some ⟨b, 0, none⟩ ∧ N ≤ b ∧ p.len * 3 ≤ n ∧ Shp b tv n w
theorem stay_out {tv ts : TypeId} {E0 : Nat → Prop} {w0 : World} {bq : Nat} {qs : List RV} (hne : tv ≠ ts) : Stay tv E0 w0 (OutF bq qs ts) := fun E w hk hF b n hN hS w' hk' hl => stay_heap (E0 := E0) (w0 := w0) hne E w hk (fun w2 hk2 => hF w2 hk2 hl) b n hN hS w' hk'
theorem stay_shp {tv : TypeId} {N : Nat} {E0 : Nat → Prop} {w0 : World} {qs : List RV} : Stay tv E0 w0 (ShpAll N tv qs) := stay_any fun w w' _ hs h p hp hl => by
  obtain ⟨b, n, h1, h2, h3, cs, h4, h5⟩ := h p hp hl
  obtain ⟨cs', h6, h7⟩ := hs b cs tv (0, 0) h4
  exact ⟨b, n, h1, h2, h3, cs', h6, h7.trans h5⟩
section
variable {P : Program} {c : Ctx} {K : List (Nat × Ty)} {L : List Own} {Φ Φm : List (World → Prop)} {Q : Exit → Act → World → Prop}
theorem J.toStay {x : Code} {E0 : Nat → Prop} {w0 : World} {tv ts : TypeId} {qs : List RV} {qa : Option Addr} {cap : Nat} (h0 : ∀ F ∈ Φm, Pers E0 w0 F) (hM : Keeps E0 w0 ∈ Φ) (hΦ : ∀ F ∈ Φm, F ∈ Φ) (hG : frG w0.heap.size tv ts qs qa qs.length cap ∈ Φ) (hR : RVF qs ∈ Φ)
    (h : ∀ bq, (qs.length ≠ 0 → qa = some ⟨bq, 0, none⟩) → J P c K L (Keeps E0 w0 :: OutF bq qs ts :: ShpAll w0.heap.size tv qs :: Φm) x Q) : J P c K L Φ x Q := by
  refine J.know (∃ bq, qs.length ≠ 0 → qa = some ⟨bq, 0, none⟩) (fun E w hf _ => ?_) (fun ⟨bq, hbq⟩ => ?_)
  · by_cases hl : qs.length = 0
    · exact ⟨0, fun h => absurd hl h⟩
    · obtain ⟨b, e, _⟩ := (hf _ hG).now.1 hl
      exact ⟨b, fun _ => e⟩
  · refine J.fact (ShpAll w0.heap.size tv qs) (fun E w hf _ => fun w' hk p hp hl => ?_) (J.fact (OutF bq qs ts) (fun E w hf _ => fun w' hk hl => ?_) (J.subΦ (fun F hF => ?_) (h bq hbq)))
    · obtain ⟨b, cs, e1, e2, e3, e4⟩ := (hf _ hG w' hk).2 p hp hl
      have := (hf _ hR w' hk p hp).1
      exact ⟨b, p.cap * 3, e1, e2, by omega, cs, e3, e4⟩
    · obtain ⟨b, e, hh⟩ := (hf _ (List.mem_cons_of_mem _ hG) w' hk).1 hl
      rw [hbq hl] at e
      injection e with e
      injection e with e
      subst e
      exact hh
    · rcases List.mem_cons.1 hF with rfl | hF
      · exact List.mem_cons_of_mem _ (List.mem_cons_of_mem _ hM)
      · rcases List.mem_cons.1 hF with rfl | hF
        · exact List.mem_cons_self
        · rcases List.mem_cons.1 hF with rfl | hF
          · exact List.mem_cons_of_mem _ List.mem_cons_self
          · exact List.mem_cons_of_mem _ (List.mem_cons_of_mem _ (hΦ F hF))
theorem J.outRow {x : Code} {bq : Nat} {qs : List RV} {ts : TypeId} {qa : Option Addr} (hO : OutF bq qs ts ∈ Φ) (hl : qs.length ≠ 0) (ha : qs.length ≠ 0 → qa = some ⟨bq, 0, none⟩) (h : J P c K L (RowG RV.c 1 qs qa qs.length :: Φ) x Q) : J P c K L Φ x Q :=
  J.fact _ (fun E w hf _ => fun w' hk => by
    have hh := hf _ hO w' hk hl
    obtain ⟨a, len, cap, e1, hr⟩ := sl_of_heap (enc := RV.c) (sz := 1) RV.c_len (xs := qs) (n := qs.length) rfl (by rw [Nat.mul_one, List.take_of_length_le (by rw [flatC]; simp)]) hh qs.length
    injection e1 with e1 e2 e3
    subst e1 e2
    rw [ha hl]
    exact hr) h
theorem J.claimRow {x : Code} {E0 : Nat → Prop} {w0 : World} {tv ts : TypeId} {bq : Nat} {qs : List RV} {p : RV} (hW : c.W0.heap.size ≤ w0.heap.size) (h0 : ∀ F ∈ Φm, Pers E0 w0 F) (hne : tv ≠ ts) (hM : Keeps E0 w0 ∈ Φ) (hO : OutF bq qs ts ∈ Φ) (hS : ShpAll w0.heap.size tv qs ∈ Φ) (hΦ : ∀ F ∈ Φm, F ∈ Φ) (hp : p ∈ qs) (hl : p.len ≠ 0) (hKi : K.all (fun p => p.2.isIs) = true)
    (h : ∀ (b n : Nat) (cs : List Value), p.a = some ⟨b, 0, none⟩ → p.len * 3 ≤ n → cs.length = n → J P c K [⟨b, tv, .is (.agg cs.toArray)⟩] (Keeps E0 w0 :: Shp b tv n :: OutF bq qs ts :: ShpAll w0.heap.size tv qs :: Φm) x Q) : J P c K L Φ x Q := by
  refine J.know (∃ b n, p.a = some ⟨b, 0, none⟩ ∧ w0.heap.size ≤ b ∧ p.len * 3 ≤ n) (fun E w hf _ => ?_) (fun ⟨b, n, h1, h2, h3⟩ => ?_)
  · obtain ⟨b, n, h1, h2, h3, _⟩ := (hf _ hS).now p hp hl
    exact ⟨b, n, h1, h2, h3⟩
  refine J.know (∃ n, p.len * 3 ≤ n ∧ True) (fun E w hf _ => ⟨n, h3, trivial⟩) (fun _ => ?_)
  refine ⟨fun E a w hs => ?_⟩
  obtain ⟨b', n', h1', _, h3', hsh⟩ := (hs.f _ hS).now p hp hl
  have eb : b' = b := by
    rw [h1] at h1'
    injection h1' with h1'
    injection h1' with h1'
    exact h1'.symm
  subst eb
  have hj : J P c K L (Shp b' tv n' :: Φ) x Q := J.claimS hW h2 (Φ0 := OutF bq qs ts :: ShpAll w0.heap.size tv qs :: Φm) (fun F hF => by
    rcases List.mem_cons.1 hF with rfl | hF
    · exact stay_out hne
    · rcases List.mem_cons.1 hF with rfl | hF
      · exact stay_shp
      · exact stay_old (h0 F hF)) (fun F hF => by
    rcases List.mem_cons.1 hF with rfl | hF
    · exact List.mem_cons_of_mem _ hO
    · rcases List.mem_cons.1 hF with rfl | hF
      · exact List.mem_cons_of_mem _ hS
      · exact List.mem_cons_of_mem _ (hΦ F hF)) (fun _ _ h => h) hKi List.mem_cons_self (List.mem_cons_of_mem _ hM) (fun cs hc => h b' n' cs h1 h3' hc)
  refine hj.out E a w ⟨hs.n, hs.d, hs.wf, hs.k, hs.l, hs.ld, fun F hF => ?_, hs.x, hs.xs, hs.keeps, hs.may⟩
  rcases List.mem_cons.1 hF with rfl | hF
  · exact Shp.pers hsh
  · exact hs.f F hF
theorem J.rvSub {x : Code} {rps ps : List RV} (hF : RVF rps ∈ Φ) (hm : ∀ p ∈ ps, p ∈ rps) (h : J P c K L (RVF ps :: Φ) x Q) : J P c K L Φ x Q :=
  J.fact _ (fun E w hf _ => fun w' hk p hp => hf _ hF w' hk p (hm p hp)) h
theorem J.rowTake {x : Code} {α : Type} {en : α → List Value} {sz n len : Nat} {xs : List α} {a : Option Addr} (hF : RowG en sz xs a len ∈ Φ) (hn : n ≤ len) (h : J P c K L (RowG en sz (xs.take n) a n :: Φ) x Q) : J P c K L Φ x Q :=
  J.fact _ (fun E w hf _ => fun w' hk => rowG_take (hf _ hF w' hk) hn) h
end
theorem tl_own {b : Nat} {cs : List Value} {e : TypeId} {L : List Own} : Tl e (⟨b, e, .is (.agg cs.toArray)⟩ :: L) (some (b, cs)) L := by
  have h : Tl e (ownO (some (b, cs)) e L) (some (b, cs)) L := .here
  exact h
end Go.Od
