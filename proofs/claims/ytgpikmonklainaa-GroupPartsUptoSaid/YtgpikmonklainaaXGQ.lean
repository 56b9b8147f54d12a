/- Group: groups, where they lie; how rows come to them. No condition. -/
import Derived.Test.YtgpikmonklainaaXGP
import Derived.Test.YtgpikmonklainaaXM2
namespace Go.Proofs.Ytgpikmonklainaa
open Go Go.Vc Go.Vl Go.Od
structure GV where
  k : RV
  gb : Nat
  st : Option (Nat × List Value)
  cap : Nat
  ts : List TV
def GV.own (m : Nat) (g : GV) : List Own := ⟨g.gb, ty_group_group, .is (.agg [.slice g.k.a g.k.len g.k.cap, sliceO g.st m g.cap].toArray)⟩ :: ownO g.st ty_group_teller (g.ts.map tO)
abbrev GPr := List V3 × List (List V3)
def GV.abs (g : GV) : GPr := (g.k.row, g.ts.map fun t => t.2.2)
structure GV.ok (ks : List Int) (g : GV) : Prop where
  kinds : g.ts.map Prod.fst = ks
  gr : GrV (g.ts.map tI) g.st g.cap
def ptrs (rg : List GV) : List Value := rg.reverse.map fun g => ptrG g.gb
theorem ptrs_len (rg : List GV) : (ptrs rg).length = rg.length := by unfold ptrs; rw [List.length_map, List.length_reverse]
theorem ptrs_cons (g : GV) (rg : List GV) : ptrs (g :: rg) = ptrs rg ++ [ptrG g.gb] := by unfold ptrs; rw [List.reverse_cons, List.map_append]; rfl
theorem ptrs_last (g : GV) (rg : List GV) : (ptrs (g :: rg))[rg.length]? = some (ptrG g.gb) := by
  rw [ptrs_cons, List.getElem?_append_right (by rw [ptrs_len]; omega), ptrs_len, Nat.sub_self]
  rfl
theorem grV_some {xs : List Value} {st : Option (Nat × List Value)} {cap : Nat} (h : GrV xs st cap) (hn : xs.length ≠ 0) : ∃ b cs, st = some (b, cs) := by
  cases st with
  | none => exact absurd (congrArg List.length (show xs = [] from h)) hn
  | some p => exact ⟨p.1, p.2, rfl⟩
theorem flat_vC : ∀ xs : List Value, xs.flatMap vC = xs
  | [] => rfl
  | x :: xs => by rw [List.flatMap_cons, flat_vC xs]; rfl
theorem grV_nth {xs : List Value} {b : Nat} {cs : List Value} {cap i off : Nat} {v : Value} (h : GrV xs (some (b, cs)) cap) (hi : xs[i]? = some v) (e : off = i) : nth (Value.agg cs.toArray).cells.toList off = some v := by
  subst e
  obtain ⟨h1, h2, h3⟩ := h
  rw [flat_vC, Nat.mul_one] at h3
  have hl := (List.getElem?_eq_some_iff.1 hi).1
  rw [nth_eq]
  show cs.toArray.toList[off]? = _
  rw [← hi, ← h3, List.getElem?_take, if_pos hl]
theorem mem_own {m : Nat} {rg : List GV} {g : GV} {x : Own} (hg : g ∈ rg) (hx : x ∈ g.own m) : x ∈ rg.flatMap (GV.own m) := List.mem_flatMap.2 ⟨g, hg, hx⟩
theorem mem_gb {m : Nat} {rg : List GV} {g : GV} (hg : g ∈ rg) : (⟨g.gb, ty_group_group, .is (.agg [.slice g.k.a g.k.len g.k.cap, sliceO g.st m g.cap].toArray)⟩ : Own) ∈ rg.flatMap (GV.own m) := mem_own hg List.mem_cons_self
theorem mem_tb {m : Nat} {rg : List GV} {g : GV} {b : Nat} {cs : List Value} (hg : g ∈ rg) (hs : g.st = some (b, cs)) : (⟨b, ty_group_teller, .is (.agg cs.toArray)⟩ : Own) ∈ rg.flatMap (GV.own m) := mem_own hg (by unfold GV.own; rw [hs]; exact List.mem_cons_of_mem _ List.mem_cons_self)
theorem mem_tO {m : Nat} {rg : List GV} {g : GV} {t : TV} (hg : g ∈ rg) (ht : t ∈ g.ts) : tO t ∈ rg.flatMap (GV.own m) := mem_own hg (List.mem_cons_of_mem _ (mem_ownO (List.mem_map_of_mem ht)))
theorem owns_is (m : Nat) (rg : List GV) : (rg.flatMap (GV.own m)).all (fun o => o.T.isIs) = true := by
  rw [List.all_eq_true]
  intro o ho
  obtain ⟨g, _, ho⟩ := List.mem_flatMap.1 ho
  unfold GV.own at ho
  rcases List.mem_cons.1 ho with rfl | ho
  · rfl
  · exact List.all_eq_true.1 (ownO_is _ _ (tO_is _)) o ho
theorem own_set {m : Nat} {k : RV} {gb : Nat} {st : Option (Nat × List Value)} {cap j : Nat} {ts : List TV} {t : TV} {r : List GV} {B : Own} {s : Option (Nat × List Value)} {e : TypeId} (h : ts[j]? = some t) :
    ∃ Q, (B :: ownO s e ((⟨k, gb, st, cap, ts⟩ :: r : List GV).flatMap (GV.own m))).Perm (tO t :: Q) ∧ ∀ t2, (tO t2 :: Q).Perm (B :: ownO s e ((⟨k, gb, st, cap, ts.set j t2⟩ :: r : List GV).flatMap (GV.own m))) := by
  obtain ⟨hj, rfl⟩ := List.getElem?_eq_some_iff.1 h
  have key : ∀ t2, (B :: ownO s e ((⟨k, gb, st, cap, ts.set j t2⟩ :: r : List GV).flatMap (GV.own m))).Perm (tO t2 :: (B :: ownO s e (⟨gb, ty_group_group, .is (.agg [.slice k.a k.len k.cap, sliceO st m cap].toArray)⟩ :: ownO st ty_group_teller ((ts.eraseIdx j).map tO ++ r.flatMap (GV.own m))))) := by
    intro t2
    have h1 : ((ts.set j t2).map tO).Perm (tO t2 :: (ts.eraseIdx j).map tO) := by
      rw [← List.map_cons]
      refine List.Perm.map tO ?_
      rw [List.set_eq_take_append_cons_drop, if_pos hj, List.eraseIdx_eq_take_drop_succ]
      exact List.perm_middle
    rw [List.flatMap_cons]
    show (B :: ownO s e ((_ :: ownO st ty_group_teller ((ts.set j t2).map tO)) ++ _)).Perm _
    rw [List.cons_append, ownO_app]
    refine (List.Perm.cons _ (ownO_perm _ _ (List.Perm.cons _ (ownO_perm _ _ (h1.append_right _))))).trans ?_
    refine (List.Perm.cons _ ((ownO_perm _ _ ((List.Perm.cons _ (ownO_mid _ _ _ _).symm).trans (List.Perm.swap _ _ _))).trans (ownO_mid _ _ _ _).symm)).trans ?_
    exact List.Perm.swap _ _ _
  refine ⟨_, ?_, fun t2 => (key t2).symm⟩
  have := key ts[j]
  rwa [List.set_getElem_self hj] at this
theorem own_new {m n : Nat} {k : RV} {z : GZ} {rg : List GV} {b : Nat} {e : TypeId} (hn : n = rg.length) : (⟨b, e, .is (sliceO z.st2 (n + 1) z.cap2)⟩ :: ownO z.st2 ty_p_group_group (⟨z.gb, ty_group_group, .is (.agg [.slice k.a k.len k.cap, sliceO z.st m z.cap].toArray)⟩ :: ownO z.st ty_group_teller (z.ts.map tO))) ++ rg.flatMap (GV.own m) =
    ⟨b, e, .is (sliceO z.st2 (⟨k, z.gb, z.st, z.cap, z.ts⟩ :: rg : List GV).length z.cap2)⟩ :: ownO z.st2 ty_p_group_group ((⟨k, z.gb, z.st, z.cap, z.ts⟩ :: rg : List GV).flatMap (GV.own m)) := by
  subst hn
  rw [List.cons_append, ownO_app, List.cons_append, ownO_app, List.flatMap_cons, List.length_cons]
  unfold GV.own
  rw [List.cons_append, ownO_app]
def addV (us : List (List V3)) (vals : List V3) : List (List V3) := List.zipWith (fun u v => if v.k != 0 then u ++ [v] else u) us vals
def gnew (m : Nat) (rg : List GPr) (k : List V3) : List GPr :=
  match rg with
  | [] => [(k, List.replicate m [])]
  | g :: r => if rowsC g.1 k != 0 then (k, List.replicate m []) :: g :: r else g :: r
def gadd (vals : List V3) : List GPr → List GPr
  | [] => []
  | g :: r => (g.1, addV g.2 vals) :: r
def gstep (m : Nat) (rg : List GPr) (p : List V3 × List V3) : List GPr := gadd p.2 (gnew m rg p.1)
def gfold (m : Nat) (ps : List (List V3 × List V3)) : List GPr := ps.foldl (gstep m) []
theorem rowsC_zero {a b : List V3} : rowsC a b = 0 ↔ a = b := to_V.lex.zero a b
theorem gnew_head (m : Nat) (rg : List GPr) (k : List V3) : ∃ g r, gnew m rg k = g :: r ∧ g.1 = k := by
  unfold gnew
  cases rg with
  | nil => exact ⟨_, _, rfl, rfl⟩
  | cons g r =>
    simp only
    by_cases h : rowsC g.1 k = 0
    · rw [h]; exact ⟨_, _, rfl, rowsC_zero.1 h⟩
    · rw [if_pos (by simpa using h)]; exact ⟨_, _, rfl, rfl⟩
theorem gfold_snoc (m : Nat) (ps : List (List V3 × List V3)) (p : List V3 × List V3) : gfold m (ps ++ [p]) = gadd p.2 (gnew m (gfold m ps) p.1) := by unfold gfold; rw [List.foldl_append]; rfl
theorem gfold_head {m : Nat} {ps : List (List V3 × List V3)} {i : Nat} {p : List V3 × List V3} (h : ps[i]? = some p) : ∃ g r, gfold m (ps.take (i + 1)) = g :: r ∧ g.1 = p.1 := by
  rw [List.take_add_one, h, Option.toList_some, gfold_snoc]
  obtain ⟨g, r, h1, h2⟩ := gnew_head m (gfold m (ps.take i)) p.1
  rw [h1]
  exact ⟨_, _, rfl, h2⟩
theorem gfold_step {m : Nat} {ps : List (List V3 × List V3)} {i : Nat} {p : List V3 × List V3} (h : ps[i]? = some p) : gfold m (ps.take (i + 1)) = gadd p.2 (gnew m (gfold m (ps.take i)) p.1) := by
  rw [List.take_add_one, h, Option.toList_some, gfold_snoc]
theorem gnew_yes {m : Nat} {ps : List (List V3 × List V3)} {i : Nat} {p : List V3 × List V3} {k : List V3} (h : ps[i]? = some p) (hc : rowsC p.1 k ≠ 0) : gnew m (gfold m (ps.take (i + 1))) k = (k, List.replicate m []) :: gfold m (ps.take (i + 1)) := by
  obtain ⟨g, r, h1, h2⟩ := gfold_head (m := m) h
  rw [h1]
  unfold gnew
  simp only
  rw [h2, if_pos (by simpa using hc)]
theorem gnew_no {m : Nat} {ps : List (List V3 × List V3)} {i : Nat} {p : List V3 × List V3} {k : List V3} (h : ps[i]? = some p) (hc : rowsC p.1 k = 0) : gnew m (gfold m (ps.take (i + 1))) k = gfold m (ps.take (i + 1)) := by
  obtain ⟨g, r, h1, h2⟩ := gfold_head (m := m) h
  rw [h1]
  unfold gnew
  simp only
  rw [h2, if_neg (by simpa using hc)]
def addP (j : Nat) (us : List (List V3)) (vals : List V3) : List (List V3) := addV (us.take j) (vals.take j) ++ us.drop j
theorem addP_zero (us : List (List V3)) (vals : List V3) : addP 0 us vals = us := by simp [addP, addV]
theorem addP_end {us : List (List V3)} {vals : List V3} {j : Nat} (h1 : us.length ≤ j) (h2 : vals.length ≤ j) : addP j us vals = addV us vals := by
  unfold addP
  rw [List.take_of_length_le h1, List.take_of_length_le h2, List.drop_eq_nil_of_le h1, List.append_nil]
theorem addP_get {us : List (List V3)} {vals : List V3} {j : Nat} (h1 : j < us.length) (h2 : j < vals.length) : (addP j us vals)[j]? = us[j]? := by
  unfold addP addV
  rw [List.getElem?_append_right (by simp; omega), List.getElem?_drop]
  congr 1
  simp
  omega
theorem addP_step {us : List (List V3)} {vals : List V3} {j : Nat} {u : List V3} {v : V3} (h1 : us[j]? = some u) (h2 : vals[j]? = some v) : addP (j + 1) us vals = (addP j us vals).set j (if v.k != 0 then u ++ [v] else u) := by
  have l1 := (List.getElem?_eq_some_iff.1 h1).1
  have l2 := (List.getElem?_eq_some_iff.1 h2).1
  unfold addP addV
  rw [List.take_add_one, List.take_add_one, h1, h2, Option.toList_some, Option.toList_some, List.zipWith_append (by simp; omega), List.set_append_right _ _ (by simp; omega), drop_get h1]
  have e : j - (List.zipWith (fun u v => if (v.k != 0) = true then u ++ [v] else u) (List.take j us) (List.take j vals)).length = 0 := by simp; omega
  rw [e]
  simp
theorem addP_skip {us : List (List V3)} {vals : List V3} {j : Nat} {u : List V3} {v : V3} (h1 : us[j]? = some u) (h2 : vals[j]? = some v) (hk : v.k = 0) : addP (j + 1) us vals = addP j us vals := by
  have l1 := (List.getElem?_eq_some_iff.1 h1).1
  have l2 := (List.getElem?_eq_some_iff.1 h2).1
  rw [addP_step h1 h2, if_neg (by simpa using hk)]
  have : (addP j us vals)[j]? = some u := by rw [addP_get l1 l2, h1]
  obtain ⟨h3, h4⟩ := List.getElem?_eq_some_iff.1 this
  rw [← h4, List.set_getElem_self]
def gB (n : Nat) (Q : V3 → Prop) (rg : List GPr) : Prop := ∀ g ∈ rg, ∀ u ∈ g.2, u.length ≤ n ∧ ∀ v ∈ u, Q v
theorem gB.mono {n n2 : Nat} {Q : V3 → Prop} {rg : List GPr} (h : gB n Q rg) (hn : n ≤ n2) : gB n2 Q rg := fun g hg u hu => ⟨Nat.le_trans (h g hg u hu).1 hn, (h g hg u hu).2⟩
theorem gB.new {n m : Nat} {Q : V3 → Prop} {rg : List GPr} {k : List V3} (h : gB n Q rg) : gB n Q (gnew m rg k) := by
  have h0 : ∀ u ∈ List.replicate m ([] : List V3), u.length ≤ n ∧ ∀ v ∈ u, Q v := fun u hu => by
    rw [(List.mem_replicate.1 hu).2]
    exact ⟨Nat.zero_le _, fun v hv => absurd hv List.not_mem_nil⟩
  cases rg with
  | nil =>
    intro g hg
    have hg : g ∈ [(k, List.replicate m ([] : List V3))] := hg
    rw [List.mem_singleton.1 hg]
    exact h0
  | cons g r =>
    unfold gnew
    simp only
    split
    · intro g2 hg2
      rcases List.mem_cons.1 hg2 with rfl | hg2
      · exact h0
      · exact h g2 hg2
    · exact h
theorem addV_mem {us : List (List V3)} {vals : List V3} {x : List V3} (h : x ∈ addV us vals) : ∃ u ∈ us, ∃ v ∈ vals, x = u ++ [v] ∨ x = u := by
  unfold addV at h
  induction us generalizing vals with
  | nil => simp at h
  | cons u us ih =>
    cases vals with
    | nil => simp at h
    | cons v vals =>
      rw [List.zipWith_cons_cons] at h
      rcases List.mem_cons.1 h with rfl | h
      · refine ⟨u, List.mem_cons_self, v, List.mem_cons_self, ?_⟩
        split
        · exact .inl rfl
        · exact .inr rfl
      · obtain ⟨u2, h1, v2, h2, h3⟩ := ih h
        exact ⟨u2, List.mem_cons_of_mem _ h1, v2, List.mem_cons_of_mem _ h2, h3⟩
theorem gB.add {n : Nat} {Q : V3 → Prop} {rg : List GPr} {vals : List V3} (h : gB n Q rg) (hv : ∀ v ∈ vals, Q v) : gB (n + 1) Q (gadd vals rg) := by
  cases rg with
  | nil => exact h.mono (by omega)
  | cons g r =>
    intro g2 hg2 x hx
    rcases List.mem_cons.1 hg2 with rfl | hg2
    · obtain ⟨u, hu, v, hv2, h3⟩ := addV_mem hx
      have h1 := h g List.mem_cons_self u hu
      rcases h3 with rfl | rfl
      · refine ⟨by rw [List.length_append]; show u.length + 1 ≤ _; omega, fun w hw => ?_⟩
        rcases List.mem_append.1 hw with hw | hw
        · exact h1.2 w hw
        · rw [List.mem_singleton.1 hw]; exact hv v hv2
      · exact ⟨by omega, h1.2⟩
    · have h1 := h g2 (List.mem_cons_of_mem _ hg2) x hx
      exact ⟨by omega, h1.2⟩
theorem gB_fold {m : Nat} {Q : V3 → Prop} : ∀ (ps : List (List V3 × List V3)), (∀ p ∈ ps, ∀ v ∈ p.2, Q v) → ∀ i, i ≤ ps.length → gB i Q (gfold m (ps.take i))
  | _, _, 0, _ => fun g hg => absurd hg List.not_mem_nil
  | ps, h, i + 1, hi => by
    have e : ps[i]? = some ps[i] := List.getElem?_eq_getElem (by omega)
    rw [gfold_step e]
    exact ((gB_fold ps h i (by omega)).new).add (h _ (List.getElem_mem _))
theorem gfold_len (m : Nat) (ps : List (List V3 × List V3)) : ∀ i, (gfold m (ps.take i)).length ≤ i
  | 0 => by simp [gfold]
  | i + 1 => by
    have ih := gfold_len m ps i
    rw [List.take_add_one]
    cases h : ps[i]? with
    | none => rw [Option.toList_none, List.append_nil]; omega
    | some p =>
      rw [Option.toList_some, gfold_snoc]
      have h1 : ∀ (vals : List V3) (rg : List GPr), (gadd vals rg).length = rg.length := fun vals rg => by cases rg <;> rfl
      rw [h1]
      unfold gnew
      split
      · simp
      · split
        · simp_all
        · simp_all; omega
theorem gnew_len (m : Nat) (rg : List GPr) (k : List V3) : (gnew m rg k).length ≤ rg.length + 1 := by
  unfold gnew
  split
  · simp
  · split <;> simp
theorem has_drop {o : Own} : ∀ {L : List Own}, Has (o :: L) L
  | [] => .nil
  | _ :: _ => .cons (.there .here) has_drop
theorem ptrs_get {rg : List GV} {i : Nat} {g : GV} (h : rg.reverse[i]? = some g) : (ptrs rg)[i]? = some (ptrG g.gb) := by
  unfold ptrs
  rw [List.getElem?_map, h]
  rfl
theorem isNew.vs {ks : List Int} {ts : List TV} (h : isNew ks ts) : ts.map (fun t => t.2.2) = List.replicate ks.length [] := by
  rw [List.eq_replicate_iff]
  refine ⟨by rw [List.length_map, h.len], fun u hu => ?_⟩
  obtain ⟨t, ht, rfl⟩ := List.mem_map.1 hu
  exact h.2 t ht
theorem nthZ {Z : List Nat} {i off : Nat} (h : i < Z.length) (e : off = i) : (Z.map iC)[off]? = some (.int .i64 ((Z.getD i 0 : Nat))) := by
  subst e
  rw [List.getElem?_map, getD_some (d := 0) h]
  rfl
section
variable {P : Program} {L : List Own} {Φ : List (World → Prop)} {H : Know} {dst : Option Nat} {ty : TypeId} {pos : String} {after : Array Edge} {g : Option (Nat × Bool)}
theorem ob_lenN {α : Type} {en : α → List Value} {sz n : Nat} {xs : List α} {st : Option (Nat × List Value)} {cap : Nat} {t e : TypeId} {x : Operand} (hG : Grows en sz xs st cap) (hn : xs.length = n) (hu : P.underlying t = some (.slice e)) (hx : H x (.is (sliceO st n cap))) : Ob P L Φ H ⟨dst, .call { callee := .builtin .len, args := #[x], argTypes := #[t] }, ty, pos, after, g⟩ (.is (.int .i64 (n : Nat))) := by
  subst hn
  exact ob_lenG hG hu hx
end
end Go.Proofs.Ytgpikmonklainaa
