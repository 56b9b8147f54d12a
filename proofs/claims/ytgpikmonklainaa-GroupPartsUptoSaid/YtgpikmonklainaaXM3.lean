/- Group: what tellers tell hangs not on the order; groups by their keys; plain laws. No condition. -/
import Derived.Test.YtgpikmonklainaaXGR
namespace Go.Proofs.Ytgpikmonklainaa
open Go Go.Vc Go.Vl Go.Od
theorem snoc_ind {α : Type} {M : List α → Prop} (h0 : M []) (h1 : ∀ l a, M l → M (l ++ [a])) (l : List α) : M l := by
  rw [← List.reverse_reverse l]
  generalize l.reverse = r
  induction r with
  | nil => exact h0
  | cons a r ih => rw [List.reverse_cons]; exact h1 _ _ ih
theorem rself (a : List V3) : rowsC a a = 0 := rowsC_zero.2 rfl
theorem pkA_spec {sg : Int} (hs : sg = 1 ∨ sg = -1) : ∀ (vs : List V3), (∀ v ∈ vs, v.k ≠ 0) → vs ≠ [] → pkA sg vs ∈ vs ∧ ∀ v ∈ vs, sg * cmpV v (pkA sg vs) ≤ 0 := by
  intro vs
  induction vs using snoc_ind with
  | h0 => intro _ h; exact absurd rfl h
  | h1 l v ih =>
    intro hn _
    rw [pkA_snoc]
    have hnl : ∀ v ∈ l, v.k ≠ 0 := fun x hx => hn x (List.mem_append_left _ hx)
    unfold pk1
    by_cases hl : l = []
    · subst hl
      rw [if_pos (by simp [pkA])]
      refine ⟨by simp, fun w hw => ?_⟩
      rw [show w = v by simpa using hw, cmp_eq]
      omega
    · obtain ⟨h1, h2⟩ := ih hnl hl
      by_cases hc : 0 < sg * cmpV v (pkA sg l)
      · rw [if_pos (by simp [hc])]
        refine ⟨by simp, fun w hw => ?_⟩
        rcases List.mem_append.1 hw with hw | hw
        · have h3 := h2 w hw
          rcases hs with rfl | rfl
          · have := cmp_trans (a := w) (b := pkA 1 l) (c := v) (by omega) (by have := cmp_neg v (pkA 1 l); omega)
            omega
          · have := cmp_trans (a := v) (b := pkA (-1) l) (c := w) (by omega) (by have := cmp_neg w (pkA (-1) l); omega)
            have := cmp_neg v w
            omega
        · rw [List.mem_singleton.1 hw, cmp_eq]; omega
      · rw [if_neg (by simp [hc, hnl _ h1])]
        refine ⟨List.mem_append_left _ h1, fun w hw => ?_⟩
        rcases List.mem_append.1 hw with hw | hw
        · exact h2 w hw
        · rw [List.mem_singleton.1 hw]; omega
theorem pkA_uniq {sg : Int} (hs : sg = 1 ∨ sg = -1) {vs : List V3} {b : V3} (hn : ∀ v ∈ vs, v.k ≠ 0) (hb : b ∈ vs) (h : ∀ v ∈ vs, sg * cmpV v b ≤ 0) : pkA sg vs = b := by
  obtain ⟨h1, h2⟩ := pkA_spec hs vs hn (fun e => by rw [e] at hb; cases hb)
  have h3 := h2 b hb
  have h4 := h _ h1
  have h5 := cmp_neg b (pkA sg vs)
  refine (cmp_zero _ _).1 ?_
  rcases hs with rfl | rfl <;> omega
theorem pkA_perm {sg : Int} (hs : sg = 1 ∨ sg = -1) {vs vs' : List V3} (hp : vs.Perm vs') (hn : ∀ v ∈ vs, v.k ≠ 0) : pkA sg vs = pkA sg vs' := by
  by_cases hv : vs = []
  · subst hv
    rw [List.nil_perm.1 hp]
  · have hn' : ∀ v ∈ vs', v.k ≠ 0 := fun v h => hn v (hp.mem_iff.2 h)
    obtain ⟨h1, h2⟩ := pkA_spec hs vs' hn' (fun e => hv (by rw [e] at hp; exact List.perm_nil.1 hp))
    exact pkA_uniq hs hn (hp.mem_iff.2 h1) (fun v hv => h2 v (hp.mem_iff.1 hv))
theorem sgK_sg (k : Int) : sgK k = 1 ∨ sgK k = -1 := by unfold sgK; split <;> simp
theorem tellV_perm {k : Int} {vs vs' : List V3} (hp : vs.Perm vs') (hn : ∀ v ∈ vs, v.k ≠ 0) : tellV k vs = tellV k vs' := by
  unfold tellV
  rw [hp.length_eq, sm_perm hp, pkA_perm (sgK_sg k) hp hn]
def nn (l : List V3) : List V3 := l.filter fun v => v.k != 0
theorem nn_ne (l : List V3) : ∀ v ∈ nn l, v.k ≠ 0 := fun v hv => by
  have := (List.mem_filter.1 hv).2
  simpa using this
theorem nn_perm {l l' : List V3} (h : l.Perm l') : (nn l).Perm (nn l') := h.filter _
abbrev KA := List V3 × List V3
def col (ps : List KA) (key : List V3) (k : Nat) : List V3 := (ps.filter fun p => rowsC p.1 key == 0).map fun p => p.2.getD k v3E
def cols (m : Nat) (ps : List KA) (key : List V3) : List (List V3) := (List.range m).map fun k => nn (col ps key k)
theorem col_perm {ps ps' : List KA} (h : ps.Perm ps') (key : List V3) (k : Nat) : (col ps key k).Perm (col ps' key k) := (h.filter _).map _
def tellsG (ks : List Int) (g : GPr) : List (V3 × Int) := List.zipWith tellV ks g.2
theorem tellsG_perm {ks : List Int} {m : Nat} {ps ps' : List KA} (h : ps.Perm ps') (key : List V3) : tellsG ks (key, cols m ps key) = tellsG ks (key, cols m ps' key) := by
  unfold tellsG cols
  simp only [List.zipWith_map_right]
  congr 1
  funext a b
  exact tellV_perm (nn_perm (col_perm h key b)) (nn_ne _)
theorem cols_len (m : Nat) (ps : List KA) (key : List V3) : (cols m ps key).length = m := by unfold cols; simp
theorem cols_none {m : Nat} {ps : List KA} {key : List V3} (h : ∀ p ∈ ps, p.1 ≠ key) : cols m ps key = List.replicate m [] := by
  unfold cols col
  have : ps.filter (fun p => rowsC p.1 key == 0) = [] := by
    rw [List.filter_eq_nil_iff]
    intro p hp
    have := h p hp
    simpa [rowsC_zero] using this
  rw [this]
  exact List.ext_getElem (by simp) fun i h1 h2 => by simp [nn]
theorem cols_ne {m : Nat} {ps : List KA} {p : KA} {key : List V3} (h : p.1 ≠ key) : cols m (ps ++ [p]) key = cols m ps key := by
  unfold cols col
  have : [p].filter (fun p => rowsC p.1 key == 0) = [] := by
    rw [List.filter_eq_nil_iff]
    intro q hq
    rw [List.mem_singleton.1 hq]
    simpa [rowsC_zero] using h
  simp only [List.filter_append, this, List.append_nil]
theorem cols_eq {m : Nat} {ps : List KA} {p : KA} {key : List V3} (h : p.1 = key) (hl : p.2.length = m) : cols m (ps ++ [p]) key = addV (cols m ps key) p.2 := by
  subst h
  have h1 : [p].filter (fun q => rowsC q.1 p.1 == 0) = [p] := by
    rw [List.filter_eq_self]
    intro q hq
    rw [List.mem_singleton.1 hq]
    simpa using rself p.1
  unfold addV
  refine List.ext_getElem (by rw [List.length_zipWith, cols_len, cols_len, hl, Nat.min_self]) fun i h2 h3 => ?_
  rw [cols_len] at h2
  rw [List.getElem_zipWith]
  have e : p.2.getD i v3E = p.2[i]'(by omega) := getD_lt (by omega)
  simp only [cols, col, List.getElem_map, List.getElem_range, List.filter_append, h1, List.map_append, List.map_cons, List.map_nil, e]
  unfold nn
  rw [List.filter_append]
  by_cases hk : (p.2[i]'(by omega)).k = 0
  · simp [hk]
  · simp [hk]
abbrev ltR (a b : List V3) : Bool := decide (rowsC a b < 0)
theorem ordR : Ord ltR (fun _ => True) := by
  have T := to_V.lex
  refine ⟨fun a => decide_eq_false (by rw [rself]; omega), fun a b c h1 h2 => decide_eq_true (T.tr a b c (of_decide_eq_true h1) (of_decide_eq_true h2)), fun a b _ _ h1 h2 => ?_⟩
  have h1 : ¬ rowsC a b < 0 := of_decide_eq_false h1
  have h2 : ¬ rowsC b a < 0 := of_decide_eq_false h2
  have n : rowsC b a = -rowsC a b := T.neg a b
  exact rowsC_zero.1 (by omega)
structure Came (m : Nat) (ps : List KA) (rg : List GPr) : Prop where
  ord : rg.Pairwise fun g h => ltR h.1 g.1 = true
  mem : ∀ key, key ∈ rg.map Prod.fst ↔ key ∈ ps.map Prod.fst
  col : ∀ g ∈ rg, g.2 = cols m ps g.1
theorem Came.step {m : Nat} {ps : List KA} {rg : List GPr} {p : KA} (c : Came m ps rg) (hl : p.2.length = m) (hs : ∀ q ∈ ps, ltR p.1 q.1 = false) : Came m (ps ++ [p]) (gstep m rg p) := by
  unfold gstep
  have hmem : ∀ g ∈ rg, ∃ q ∈ ps, q.1 = g.1 := fun g hg => by
    obtain ⟨q, h1, h2⟩ := List.mem_map.1 ((c.mem g.1).1 (List.mem_map_of_mem hg))
    exact ⟨q, h1, h2⟩
  have hle : ∀ g ∈ rg, ltR p.1 g.1 = false := fun g hg => by
    obtain ⟨q, h1, h2⟩ := hmem g hg
    rw [← h2]; exact hs q h1
  have hnew : (∀ g ∈ rg, ltR g.1 p.1 = true) → Came m (ps ++ [p]) ((p.1, addV (List.replicate m []) p.2) :: rg) := fun h => by
    have hne : ∀ q ∈ ps, q.1 ≠ p.1 := fun q hq e => by
      obtain ⟨g, h1, h2⟩ := List.mem_map.1 ((c.mem q.1).2 (List.mem_map_of_mem hq))
      have := h g h1
      rw [h2, e, ordR.irr] at this
      cases this
    refine ⟨List.pairwise_cons.2 ⟨fun g hg => h g hg, c.ord⟩, fun key => ?_, fun g hg => ?_⟩
    · rw [List.map_cons, List.mem_cons, c.mem, List.map_append, List.mem_append]
      simp [or_comm]
    · rcases List.mem_cons.1 hg with rfl | hg
      · show addV _ _ = cols m (ps ++ [p]) p.1
        rw [cols_eq rfl hl, cols_none hne]
      · rw [cols_ne, c.col g hg]
        intro e
        have := h g hg
        rw [e, ordR.irr] at this
        cases this
  cases rg with
  | nil => exact hnew (fun g hg => absurd hg List.not_mem_nil)
  | cons g r =>
    have ho := List.pairwise_cons.1 c.ord
    unfold gnew
    simp only
    by_cases h0 : rowsC g.1 p.1 = 0
    · rw [if_neg (by simpa using h0)]
      have e := rowsC_zero.1 h0
      refine ⟨List.pairwise_cons.2 ⟨fun x hx => ho.1 x hx, ho.2⟩, fun key => ?_, fun x hx => ?_⟩
      · show key ∈ (g.1 :: r.map Prod.fst) ↔ _
        have := c.mem key
        rw [List.map_cons] at this
        rw [this, List.map_append, List.mem_append]
        refine ⟨.inl, fun h => h.elim id fun h => ?_⟩
        rw [List.map_cons, List.map_nil, List.mem_singleton] at h
        rw [← this, List.mem_cons, h, e]
        exact .inl rfl
      · rcases List.mem_cons.1 hx with rfl | hx
        · show addV g.2 p.2 = cols m (ps ++ [p]) g.1
          rw [cols_eq e.symm hl, c.col g List.mem_cons_self]
        · rw [cols_ne, c.col x (List.mem_cons_of_mem _ hx)]
          intro e2
          have := ho.1 x hx
          rw [← e2, ← e, ordR.irr] at this
          cases this
    · rw [if_pos (by simpa using h0)]
      refine hnew fun x hx => ?_
      have h1 : ltR g.1 p.1 = true := by
        cases h2 : ltR g.1 p.1
        · exact absurd (rowsC_zero.2 (ordR.tot _ _ trivial trivial h2 (hle g List.mem_cons_self))) h0
        · rfl
      rcases List.mem_cons.1 hx with rfl | hx
      · exact h1
      · exact ordR.tr _ _ _ (ho.1 x hx) h1
theorem came_fold {m : Nat} : ∀ (ps : List KA), (∀ p ∈ ps, p.2.length = m) → ps.Pairwise (fun a b => ltR b.1 a.1 = false) → Came m ps (gfold m ps) := by
  intro ps
  induction ps using snoc_ind with
  | h0 => exact fun _ _ => ⟨.nil, fun _ => Iff.rfl, fun g hg => absurd hg List.not_mem_nil⟩
  | h1 l p ih =>
    intro hl hs
    rw [gfold_snoc]
    rw [List.pairwise_append] at hs
    exact (ih (fun q hq => hl q (List.mem_append_left _ hq)) hs.1).step (hl p (by simp)) (fun q hq => hs.2.2 q hq p List.mem_cons_self)
def ddP (p : List V3) : List (List V3) → List (List V3)
  | [] => []
  | a :: l => if rowsC p a == 0 then ddP a l else a :: ddP a l
def dd : List (List V3) → List (List V3)
  | [] => []
  | a :: l => a :: ddP a l
theorem ddP_spec : ∀ (l : List (List V3)) (p : List V3), Srt ltR (p :: l) → (p :: ddP p l).Pairwise (fun a b => ltR a b = true) ∧ ∀ x, x ∈ p :: ddP p l ↔ x ∈ p :: l
  | [], p, _ => ⟨by simp [ddP], fun x => Iff.rfl⟩
  | a :: l, p, h => by
    have h1 := List.pairwise_cons.1 h
    obtain ⟨i1, i2⟩ := ddP_spec l a h1.2
    unfold ddP
    by_cases h0 : rowsC p a = 0
    · have e := rowsC_zero.1 h0
      rw [if_pos (by simpa using h0)]
      subst e
      refine ⟨i1, fun x => ?_⟩
      rw [i2 x]
      simp
    · rw [if_neg (by simpa using h0)]
      have hpa : ltR p a = true := by
        cases h2 : ltR p a
        · exact absurd (rowsC_zero.2 (ordR.tot _ _ trivial trivial h2 (h1.1 a List.mem_cons_self))) h0
        · rfl
      refine ⟨List.pairwise_cons.2 ⟨fun x hx => ?_, i1⟩, fun x => ?_⟩
      · rcases List.mem_cons.1 hx with rfl | hx
        · exact hpa
        · exact ordR.tr _ _ _ hpa ((List.pairwise_cons.1 i1).1 x hx)
      · rw [List.mem_cons, i2 x, List.mem_cons (a := x) (b := p)]
theorem dd_spec {l : List (List V3)} (h : Srt ltR l) : (dd l).Pairwise (fun a b => ltR a b = true) ∧ ∀ x, x ∈ dd l ↔ x ∈ l := by
  cases l with
  | nil => exact ⟨.nil, fun _ => Iff.rfl⟩
  | cons a l => exact ddP_spec l a h
theorem rise_uniq {S T : List (List V3)} (hS : S.Pairwise (fun a b => ltR a b = true)) (hT : T.Pairwise (fun a b => ltR a b = true)) (hm : ∀ x, x ∈ S ↔ x ∈ T) : S = T := by
  have nd : ∀ {X : List (List V3)}, X.Pairwise (fun a b => ltR a b = true) → X.Nodup := fun h => h.imp fun {a b} hab e => by
    rw [e, ordR.irr] at hab
    cases hab
  have st : ∀ {X : List (List V3)}, X.Pairwise (fun a b => ltR a b = true) → Srt ltR X := fun h => h.imp fun {a b} hab => ordR.asym hab
  exact srt_uniq ordR (fun _ _ => trivial) (st hS) (st hT) ((List.perm_ext_iff_of_nodup (nd hS) (nd hT)).2 hm)
end Go.Proofs.Ytgpikmonklainaa
namespace Go.Proofs.Ytgpikmonklainaa
open Go Go.Vc Go.Vl Go.Od
def rowT (ks : List Int) (g : GPr) : List V3 := g.1 ++ (tellsG ks g).map Prod.fst
def okT (ks : List Int) (g : GPr) : Bool := (tellsG ks g).all fun p => p.2 == 0
def outR (ks : List Int) (gs : List GPr) : List (List V3) × Int := if gs.all (okT ks) then (gs.map (rowT ks), 0) else ([], 35)
def gsF (whole : Bool) (m : Nat) (rg : List GPr) : List GPr := if whole && rg.isEmpty then [([], List.replicate m [])] else rg.reverse
def cgD (keys args : List (List V3)) (m : Nat) (D : List (List V3)) : List GPr := D.map fun key => (key, cols m (keys.zip args) key)
def keysD (keys : List (List V3)) (whole : Bool) : List (List V3) := if whole && keys.isEmpty then [[]] else dd (srt ltR keys)
def grpO (keys args : List (List V3)) (ks : List Int) (whole : Bool) : List (List V3) × Int :=
  if chk keys args ks != 0 then ([], chk keys args ks) else outR ks (cgD keys args ks.length (keysD keys whole))
abbrev prs (kps aps : List RV) (Z : List Nat) : List (List V3 × List V3) := Z.map fun i => (rwA kps i, rwA aps i)
theorem gB_fin {n : Nat} {Q : V3 → Prop} {rg : List GPr} {whole : Bool} {m : Nat} (h : gB n Q rg) : gB n Q (gsF whole m rg) := by
  unfold gsF
  split
  · intro g hg u hu
    rw [List.mem_singleton.1 hg] at hu
    rw [(List.mem_replicate.1 hu).2]
    exact ⟨Nat.zero_le _, fun v hv => absurd hv List.not_mem_nil⟩
  · exact fun g hg => h g (List.mem_reverse.1 hg)
theorem gsF_len {rg : List GPr} {whole : Bool} {m : Nat} (h : rg.length ≤ 1048575) : (gsF whole m rg).length ≤ 1048576 := by
  unfold gsF
  split
  · simp
  · rw [List.length_reverse]; omega
theorem set_same {α : Type} {l : List α} {j : Nat} {x : α} (h : l[j]? = some x) : l.set j x = l := by
  obtain ⟨h1, rfl⟩ := List.getElem?_eq_some_iff.1 h
  exact List.set_getElem_self h1
theorem tellV_err (k : Int) (vs : List V3) : (tellV k vs).2 = 0 ∨ (tellV k vs).2 = 35 := by
  unfold tellV
  split
  · exact .inl rfl
  · split
    · split
      · exact .inl rfl
      · split
        · exact .inl rfl
        · exact .inr rfl
    · exact .inl rfl
theorem okT_bad {ks : List Int} {g : GPr} {j : Nat} {p : V3 × Int} (h : (tellsG ks g)[j]? = some p) (hp : p.2 ≠ 0) : okT ks g = false := by
  unfold okT
  rw [List.all_eq_false]
  exact ⟨p, List.mem_of_getElem? h, by simpa using hp⟩
theorem outR_bad {ks : List Int} {gs : List GPr} {g : GPr} (hg : g ∈ gs) (h : okT ks g = false) : outR ks gs = ([], 35) := by
  unfold outR
  rw [if_neg]
  intro ha
  rw [List.all_eq_true] at ha
  rw [ha g hg] at h
  cases h
theorem outR_ok {ks : List Int} {gs : List GPr} (h : ∀ g ∈ gs, okT ks g = true) : outR ks gs = (gs.map (rowT ks), 0) := by
  unfold outR
  rw [if_pos (by rw [List.all_eq_true]; exact h)]
theorem chk_ok {keys args : List (List V3)} {ks : List Int} (h : chk keys args ks = 0) : keys.length = args.length ∧ (∀ k ∈ ks, 20 ≤ k ∧ k ≤ 23) ∧ ∀ r ∈ args, r.length = ks.length := by
  unfold chk at h
  split at h
  · cases h
  rename_i h1
  split at h
  · cases h
  rename_i h2
  rw [Bool.or_eq_true, not_or, bne_iff_ne, Decidable.not_not] at h1
  refine ⟨h1.1, fun k hk => ?_, fun r hr => ?_⟩
  · have h3 := h1.2
    rw [Bool.not_eq_true, List.any_eq_false] at h3
    have h4 := h3 k hk
    simp only [badK, Bool.not_eq_true, kOk, Bool.not_eq_false', Bool.and_eq_true, decide_eq_true_eq] at h4
    exact h4
  · simp only [Bool.not_eq_true, Bool.not_eq_false'] at h2
    rw [List.all_eq_true] at h2
    obtain ⟨i, hi⟩ := List.getElem?_of_mem hr
    have hl := (List.getElem?_eq_some_iff.1 hi).1
    have h5 := h2 (keys[i]'(by omega), r) (List.mem_of_getElem? (i := i) (by rw [List.getElem?_zip_eq_some]; exact ⟨List.getElem?_eq_getElem _, hi⟩))
    simp only [okR, Bool.and_eq_true, beq_iff_eq] at h5
    exact h5.1.1
theorem outR_cols {ks : List Int} {m : Nat} {ps ps' : List KA} (h : ps.Perm ps') (D : List (List V3)) : outR ks (D.map fun key => (key, cols m ps key)) = outR ks (D.map fun key => (key, cols m ps' key)) := by
  have h1 : (fun key => okT ks (key, cols m ps key)) = fun key => okT ks (key, cols m ps' key) := funext fun key => by unfold okT; rw [tellsG_perm h]
  have h2 : (fun key => rowT ks (key, cols m ps key)) = fun key => rowT ks (key, cols m ps' key) := funext fun key => by unfold rowT; rw [tellsG_perm h]
  unfold outR
  rw [List.all_map, List.all_map, List.map_map, List.map_map]
  show (if (D.all fun key => okT ks (key, cols m ps key)) = true then (D.map (fun key => rowT ks (key, cols m ps key)), (0 : Int)) else _) = (if (D.all fun key => okT ks (key, cols m ps' key)) = true then (D.map (fun key => rowT ks (key, cols m ps' key)), (0 : Int)) else _)
  rw [h1, h2]
theorem prs_zip {kps aps : List RV} (h : kps.length = aps.length) : prs kps aps (List.range kps.length) = (kps.map RV.row).zip (aps.map RV.row) := by
  refine List.ext_getElem? fun i => ?_
  by_cases hi : i < kps.length
  · rw [zip_row hi (by omega), List.getElem?_map, List.getElem?_range hi]
    rfl
  · rw [List.getElem?_eq_none (by simp; omega), List.getElem?_eq_none (by simp; omega)]
theorem grp_fin {kps aps : List RV} {ks : List Int} {Z : List Nat} {whole : Bool} (hc : chk (kps.map RV.row) (aps.map RV.row) ks = 0) (hZ : Z.Perm (List.range kps.length)) (hS : Srt (ltF (cfK kps)) Z) :
    outR ks (gsF whole ks.length (gfold ks.length (prs kps aps Z))) = grpO (kps.map RV.row) (aps.map RV.row) ks whole := by
  obtain ⟨hl, _, hm⟩ := chk_ok hc
  rw [List.length_map, List.length_map] at hl
  have hpz : (prs kps aps Z).Perm ((kps.map RV.row).zip (aps.map RV.row)) := by
    rw [← prs_zip hl]
    exact hZ.map _
  have hlen : ∀ p ∈ prs kps aps Z, p.2.length = ks.length := fun p hp => by
    obtain ⟨i, hi, rfl⟩ := List.mem_map.1 hp
    have h1 := List.mem_range.1 (hZ.mem_iff.1 hi)
    exact hm _ (List.mem_map_of_mem (getD_mem (d := rv0) (by omega)))
  have hsort : (prs kps aps Z).Pairwise (fun a b => ltR b.1 a.1 = false) := by
    unfold prs
    rw [List.pairwise_map]
    exact hS
  have c := came_fold (prs kps aps Z) hlen hsort
  unfold grpO
  rw [if_neg (by rw [hc]; decide)]
  unfold cgD
  rw [← outR_cols hpz]
  congr 1
  unfold gsF keysD
  have hemp : (gfold ks.length (prs kps aps Z)).isEmpty = (kps.map RV.row).isEmpty := by
    have h1 : (gfold ks.length (prs kps aps Z)) = [] ↔ kps = [] := by
      constructor
      · intro h
        have h2 := fun key => (c.mem key).2
        rw [h] at h2
        cases hz : Z with
        | nil =>
          rw [hz] at hZ
          have := hZ.length_eq
          rw [List.length_range] at this
          exact List.length_eq_zero_iff.1 this.symm
        | cons i Z' =>
          have := h2 (rwA kps i) (by rw [hz]; exact List.mem_cons_self)
          cases this
      · intro h
        have : Z = [] := by rw [h] at hZ; exact List.perm_nil.1 hZ
        rw [this]
        rfl
    rw [List.isEmpty_map]
    cases h2 : kps.isEmpty
    · rw [List.isEmpty_eq_false_iff] at h2 ⊢
      exact fun h => h2 (h1.1 h)
    · rw [List.isEmpty_iff] at h2 ⊢
      exact h1.2 h2
  rw [hemp]
  split
  · rename_i hw
    rw [Bool.and_eq_true, List.isEmpty_iff, List.map_eq_nil_iff] at hw
    have : Z = [] := by rw [hw.2] at hZ; exact List.perm_nil.1 hZ
    rw [this]
    show _ = [([], cols ks.length [] [])]
    rw [cols_none (fun p hp => absurd hp List.not_mem_nil)]
  · have hD : (gfold ks.length (prs kps aps Z)).reverse.map Prod.fst = dd (srt ltR (kps.map RV.row)) := by
      obtain ⟨d1, d2⟩ := dd_spec (srt_srt (lt := ltR) ordR (S := kps.map RV.row) (fun _ _ => trivial))
      refine rise_uniq ?_ d1 fun x => ?_
      · rw [List.pairwise_map, List.pairwise_reverse]
        exact c.ord
      · rw [d2, (srt_perm _).mem_iff, List.map_reverse, List.mem_reverse, c.mem, (hpz.map Prod.fst).mem_iff, List.map_fst_zip (by rw [List.length_map, List.length_map]; omega)]
    rw [← hD, List.map_map]
    refine List.ext_getElem (by simp) fun i h1 h2 => ?_
    rw [List.getElem_map]
    exact Prod.ext rfl (c.col _ (List.mem_reverse.1 (List.getElem_mem _)))
end Go.Proofs.Ytgpikmonklainaa
