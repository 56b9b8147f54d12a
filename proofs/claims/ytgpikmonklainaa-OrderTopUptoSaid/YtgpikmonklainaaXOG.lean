/- Order: what Top answers; its rows in memory. No condition. -/
import Derived.Test.YtgpikmonklainaaXOF
import Derived.Test.YtgpikmonklainaaXG5
namespace Go.Od
open Go Go.Vc Go.Vl
def okL (dn : List Bool) (p : Ln) : Bool := p.2.length == dn.length && p.1.all okV && p.2.all okV
def allOk (rows keys : List (List V3)) (dn : List Bool) : Bool := rows.length == keys.length && (rows.zip keys).all (okL dn)
def topO (rows keys : List (List V3)) (dn : List Bool) (limit : Int) : List (List V3) := if allOk rows keys dn then topRows limit dn (rows.zip keys) else []
def topE (rows keys : List (List V3)) (dn : List Bool) : Int := if allOk rows keys dn then 0 else 1
theorem topO_bad {rows keys : List (List V3)} {dn : List Bool} {limit : Int} (h : allOk rows keys dn = false) : topO rows keys dn limit = [] := by unfold topO; rw [h]; rfl
theorem topE_bad {rows keys : List (List V3)} {dn : List Bool} (h : allOk rows keys dn = false) : topE rows keys dn = 1 := by unfold topE; rw [h]; rfl
theorem topO_ok {rows keys : List (List V3)} {dn : List Bool} {limit : Int} (h : allOk rows keys dn = true) : topO rows keys dn limit = topRows limit dn (rows.zip keys) := by unfold topO; rw [h]; rfl
theorem topE_ok {rows keys : List (List V3)} {dn : List Bool} (h : allOk rows keys dn = true) : topE rows keys dn = 0 := by unfold topE; rw [h]; rfl
def lvs (rps kps : List RV) : List LV := List.zipWith LV.mk rps kps
theorem lvs_len {rps kps : List RV} (h : rps.length = kps.length) : (lvs rps kps).length = rps.length := by unfold lvs; rw [List.length_zipWith]; omega
theorem lvs_get {rps kps : List RV} {i : Nat} (h1 : i < rps.length) (h2 : i < kps.length) : (lvs rps kps)[i]? = some ⟨rps.getD i rv0, kps.getD i rv0⟩ := by
  unfold lvs
  rw [List.getElem?_zipWith, List.getElem?_eq_getElem h1, List.getElem?_eq_getElem h2, ← getD_lt (d := rv0) h1, ← getD_lt (d := rv0) h2]
theorem lvs_ln : ∀ (rps kps : List RV), (lvs rps kps).map LV.ln = (rps.map RV.row).zip (kps.map RV.row)
  | [], _ => rfl
  | _ :: _, [] => rfl
  | r :: rps, k :: kps => by
    show (r.row, k.row) :: (lvs rps kps).map LV.ln = _
    rw [lvs_ln rps kps]
    rfl
theorem lvs_mem {rps kps : List RV} {p : LV} (h : p ∈ lvs rps kps) : p.r ∈ rps ∧ p.k ∈ kps := by
  unfold lvs at h
  induction rps generalizing kps with
  | nil => cases h
  | cons r rps ih =>
    cases kps with
    | nil => cases h
    | cons k kps =>
      rw [List.zipWith_cons_cons] at h
      rcases List.mem_cons.1 h with rfl | h
      · exact ⟨List.mem_cons_self, List.mem_cons_self⟩
      · exact ⟨List.mem_cons_of_mem _ (ih h).1, List.mem_cons_of_mem _ (ih h).2⟩
def good (dn : List Bool) (l : List LV) : List LV := l.filter fun p => okL dn p.ln
theorem good_len {dn : List Bool} {l : List LV} {p : LV} (h : p ∈ good dn l) : p.k.row.length = dn.length := by
  have := (List.mem_filter.1 h).2
  simp only [okL, Bool.and_eq_true, beq_iff_eq] at this
  exact this.1.1
structure Upto (dn : List Bool) (limit : Int) (ls : List LV) (i : Nat) (l : List LV) : Prop where
  h : l = heapOf (ltL dn) LV.ln lv0 limit (ls.take i)
  ok : ∀ p ∈ ls.take i, okL dn p.ln = true
section
variable {dn : List Bool} {limit : Int} {ls l : List LV} {i : Nat}
theorem Upto.hq (u : Upto dn limit ls i l) : Hq (ltL dn) LV.ln lv0 l (cut limit (srt (ltL dn) ((ls.take i).map LV.ln))) ∧ ∀ a ∈ l, a ∈ ls.take i := by
  have := heapOf_spec (key := LV.ln) (d := lv0) (ordL dn) limit _ (ls.take i) rfl fun a ha => by
    have := u.ok a ha
    simp only [okL, Bool.and_eq_true, beq_iff_eq] at this
    exact this.1.1
  rw [← u.h] at this
  exact this
theorem Upto.mem (u : Upto dn limit ls i l) : ∀ a ∈ l, a ∈ good dn ls := fun a ha => by
  have h1 := u.hq.2 a ha
  exact List.mem_filter.2 ⟨List.take_subset _ _ h1, u.ok a h1⟩
theorem Upto.len (u : Upto dn limit ls i l) : l.length ≤ i := by
  have h1 := u.hq.1.pm.length_eq
  rw [List.length_map, cut_len, srt_len, List.length_map] at h1
  have h2 : (ls.take i).length ≤ i := by rw [List.length_take]; omega
  split at h1 <;> omega
theorem Upto.zero : Upto dn limit ls 0 [] := ⟨rfl, fun p hp => by simp at hp⟩
theorem Upto.step {x : LV} (u : Upto dn limit ls i l) (hx : ls[i]? = some x) (ok : okL dn x.ln = true) : Upto dn limit ls (i + 1) (step1 (ltL dn) LV.ln lv0 limit l x) := by
  have e : ls.take (i + 1) = ls.take i ++ [x] := by rw [List.take_add_one, hx]; rfl
  refine ⟨by rw [e, heapOf_snoc, ← u.h], fun p hp => ?_⟩
  rw [e] at hp
  rcases List.mem_append.1 hp with hp | hp
  · exact u.ok p hp
  · rw [List.mem_singleton.1 hp]; exact ok
end
def frG (N : Nat) (tv ts : TypeId) : RvG := fun ps a len _ w => (len ≠ 0 → ∃ b, a = some ⟨b, 0, none⟩ ∧ HeapIs b (ps.flatMap RV.c) ts w) ∧ ∀ p ∈ ps, FreshW N tv p.a p.len p.cap 3 w
def DoneF (N : Nat) (tv : TypeId) (ps : List RV) (w : World) : Prop := RVF ps w ∧ ∀ p ∈ ps, FreshW N tv p.a p.len p.cap 3 w
theorem DoneF.cons {N : Nat} {tv : TypeId} {ps : List RV} {xs : List V3} {a : Option Addr} {len cap : Nat} {w : World} (h : DoneF N tv ps w) (h1 : len ≤ cap) (h2 : RowG V3.cells 3 xs a len w) (h3 : FreshW N tv a len cap 3 w) : DoneF N tv (⟨xs, a, len, cap⟩ :: ps) w :=
  ⟨fun p hp => by
    rcases List.mem_cons.1 hp with rfl | hp
    · exact ⟨h1, h2⟩
    · exact h.1 p hp, fun p hp => by
    rcases List.mem_cons.1 hp with rfl | hp
    · exact h3
    · exact h.2 p hp⟩
def outC (k : Nat) (ps : List RV) : List Value := (List.replicate k rv0 ++ ps).flatMap RV.c
theorem flatC : ∀ ps : List RV, ps.flatMap RV.c = ps.map RV.v
  | [] => rfl
  | p :: ps => by rw [List.flatMap_cons, flatC ps]; rfl
theorem outC_start (n : Nat) : List.replicate n (.slice none 0 0) = outC n [] := by
  unfold outC
  rw [List.append_nil, flatC, List.map_replicate]
  rfl
theorem outC_len (k : Nat) (ps : List RV) : (outC k ps).length = k + ps.length := by
  unfold outC
  rw [flatC]
  simp
theorem outC_set (m : Nat) (p : RV) (ps : List RV) : splice (outC (m + 1) ps) m [p.v] = outC m (p :: ps) := by
  unfold outC
  rw [flatC, flatC, List.replicate_succ', List.append_assoc]
  simp only [splice, List.map_append, List.map_replicate, List.map_cons, List.map_nil]
  have e : List.replicate m rv0.v ++ ([rv0.v] ++ ps.map RV.v) = (List.replicate m rv0.v ++ [rv0.v]) ++ ps.map RV.v := by simp
  have h1 : (List.replicate m rv0.v ++ ([rv0.v] ++ ps.map RV.v)).take m = List.replicate m rv0.v := List.take_left' (by simp)
  have h2 : (List.replicate m rv0.v ++ ([rv0.v] ++ ps.map RV.v)).drop (m + 1) = ps.map RV.v := by
    rw [e]
    exact List.drop_left' (by simp)
  simp only [List.length_cons, List.length_nil, Nat.zero_add]
  rw [h1, h2]
  simp
section
variable {L : List Own} {Φ : List (World → Prop)} {P : Program} {c : Ctx} {K : List (Nat × Ty)} {Q : Exit → Act → World → Prop}
theorem Sub.lvC {U : List LV} {p : LV} (hF : LVF U ∈ Φ) (hp : p ∈ U) : Sub L Φ (.is (.slice p.r.a p.r.len p.r.cap)) (.rep (SlC V3.cells 3 p.r.row)) := fun E v w hf e => by
  rw [show v = _ from e]
  exact fun w' hk => ⟨p.r.a, p.r.len, p.r.cap, rfl, (hf.2 _ hF w' hk p hp).1⟩
theorem J.bigger {N : Nat} {x : Code} (hN : N ≤ c.W0.heap.size) (h : J P c K L ((fun w => N ≤ w.heap.size) :: Φ) x Q) : J P c K L Φ x Q := by
  refine ⟨fun E a w hs => h.out E a w ⟨hs.n, hs.d, hs.wf, hs.k, hs.l, hs.ld, fun F hF => ?_, hs.x, hs.xs, hs.keeps, hs.may⟩⟩
  rcases List.mem_cons.1 hF with rfl | hF
  · exact fun w' hk => Nat.le_trans hN (Nat.le_trans hs.keeps.size hk.size)
  · exact hs.f F hF
theorem J.lvF {rps kps : List RV} {U : List LV} {x : Code} (h1 : RVF rps ∈ Φ) (h2 : RVF kps ∈ Φ) (hU : ∀ p ∈ U, p ∈ lvs rps kps) (h : J P c K L (LVF U :: Φ) x Q) : J P c K L Φ x Q :=
  J.fact (LVF U) (fun E w hG _ => fun w' hk p hp => ⟨hG _ h1 w' hk _ (lvs_mem (hU p hp)).1, hG _ h2 w' hk _ (lvs_mem (hU p hp)).2⟩) h
theorem Sub.rowsNew {N n b : Nat} {tv ts : TypeId} {ps : List RV} {rows : List (List V3)} (hl : ps.length = n) (hm : ps.map RV.row = rows) (hH : HeapIs b (ps.flatMap RV.c) ts ∈ Φ) (hF : DoneF N tv ps ∈ Φ) : Sub L Φ (.is (.slice (some ⟨b, 0, none⟩) n n)) (.rep (RowsR (frG N tv ts) rows)) := fun E v w hf e => by
  rw [show v = _ from e]
  intro w' hk
  have h1 := hf.2 _ hH w' hk
  have h2 := hf.2 _ hF w' hk
  have h3 : RowG RV.c 1 ps (some ⟨b, 0, none⟩) n w' := by
    obtain ⟨a, len, cap, e1, hr⟩ := sl_of_heap (enc := RV.c) (sz := 1) RV.c_len (n := n) hl (by rw [Nat.mul_one, List.take_of_length_le (by rw [flatC]; simp [hl])]) h1 n
    injection e1 with e1 e2 e3
    subst e1 e2
    exact hr
  exact ⟨ps, _, _, _, hm, rfl, Nat.le_refl _, h3, h2.1, fun _ => ⟨b, rfl, h1⟩, h2.2⟩
theorem Sub.rowsNilW {N : Nat} {tv ts : TypeId} : Sub L Φ (.is (.slice none 0 0)) (.rep (RowsR (frG N tv ts) [])) := fun E v w hf e => by
  rw [show v = _ from e]
  exact fun w' _ => ⟨[], none, 0, 0, rfl, rfl, Nat.le_refl _, ⟨rfl, fun h => absurd rfl h⟩, (fun p hp => absurd hp List.not_mem_nil : RVF [] w'), fun h => absurd rfl h, fun p hp => absurd hp List.not_mem_nil⟩
theorem Sub.rowsW {G : RvG} {rows : List (List V3)} : Sub L Φ (.rep (RowsR G rows)) (.rep (RowsR noG rows)) := fun E v w hf h => fun w' hk => by
  obtain ⟨ps, a, len, cap, h1, h2, h3, h4, h5, _⟩ := h w' hk
  exact ⟨ps, a, len, cap, h1, h2, h3, h4, h5, trivial⟩
end
theorem cut_map {β γ : Type} (f : β → γ) (limit : Int) (S : List β) : (cut limit S).map f = cut limit (S.map f) := by
  unfold cut
  split
  · rfl
  · rw [List.map_take]
theorem getD_some {α : Type} {d : α} {l : List α} {i : Nat} (h : i < l.length) : l[i]? = some (l.getD i d) := by simp [List.getElem?_eq_getElem h]
theorem getD_mem {α : Type} {d : α} {l : List α} {i : Nat} (h : i < l.length) : l.getD i d ∈ l := List.mem_of_getElem? (getD_some h)
theorem drop_get {α : Type} {l : List α} {k : Nat} {x : α} (h : l[k]? = some x) : l.drop k = x :: l.drop (k + 1) := by
  obtain ⟨h1, h2⟩ := List.getElem?_eq_some_iff.1 h
  rw [List.drop_eq_getElem_cons h1, h2]
theorem allOk_bad {dn : List Bool} {rps kps : List RV} {i : Nat} (h1 : i < rps.length) (h2 : i < kps.length) (h : okL dn ((rps.getD i rv0).row, (kps.getD i rv0).row) = false) : allOk (rps.map RV.row) (kps.map RV.row) dn = false := by
  unfold allOk
  rw [← lvs_ln, Bool.and_eq_false_iff]
  right
  rw [List.all_eq_false]
  exact ⟨_, List.mem_map_of_mem (List.mem_of_getElem? (lvs_get h1 h2)), by simpa using h⟩
theorem allOk_good {dn : List Bool} {rps kps : List RV} (hl : rps.length = kps.length) (h : ∀ p ∈ (lvs rps kps).take rps.length, okL dn p.ln = true) : allOk (rps.map RV.row) (kps.map RV.row) dn = true := by
  unfold allOk
  rw [← lvs_ln, Bool.and_eq_true]
  refine ⟨by simpa using hl, ?_⟩
  rw [List.all_eq_true]
  intro y hy
  obtain ⟨p, hp, rfl⟩ := List.mem_map.1 hy
  refine h p ?_
  rwa [List.take_of_length_le (by rw [lvs_len hl]; omega)]
theorem Upto.pushMem {dn : List Bool} {limit : Int} {ls l : List LV} {i : Nat} {x : LV} (u : Upto dn limit ls i l) (hx : x ∈ good dn ls) : ∀ p ∈ push (ltL dn) LV.ln lv0 l x, p ∈ good dn ls := fun p hp => by
  have h := (push_perm (d := lv0) (key := LV.ln) (x := x) (ordL dn) u.hq.1 (fun a ha => good_len (u.mem a ha)) (good_len hx)).2
  rcases List.mem_cons.1 (h.mem_iff.1 hp) with rfl | hp
  · exact hx
  · exact u.mem p hp
theorem Upto.all {dn : List Bool} {limit : Int} {ls l : List LV} {i : Nat} (u : Upto dn limit ls i l) (hi : ls.length ≤ i) : Hq (ltL dn) LV.ln lv0 l (cut limit (srt (ltL dn) (ls.map LV.ln))) := by
  have h := u.hq.1
  rwa [List.take_of_length_le hi] at h
end Go.Od
