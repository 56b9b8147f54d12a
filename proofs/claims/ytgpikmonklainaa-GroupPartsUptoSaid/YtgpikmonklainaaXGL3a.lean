/- Group: parts and the whole; plain laws. No condition. -/
import Derived.Test.YtgpikmonklainaaXGL2
namespace Go.Proofs.Ytgpikmonklainaa
open Go Go.Vc Go.Vl Go.Od
abbrev row4 (v : V3) : List V3 := [v, v, v, v]
abbrev pA (vals : List V3) : List (List V3) := vals.map row4
def t4 (vs : List V3) : List V3 := [nV vs.length, if vs.length = 0 then v30 else nV (sm vs), pkA (-1) vs, pkA 1 vs]
theorem wK_zip (vals : List V3) : (wK vals.length).zip (pA vals) = vals.map fun v => (([] : List V3), row4 v) := by
  refine List.ext_getElem? fun i => ?_
  by_cases hi : i < vals.length
  · have : ((wK vals.length).zip (pA vals))[i]? = some (([] : List V3), row4 vals[i]) := by
      rw [List.getElem?_zip_eq_some]
      unfold wK pA
      simp [hi]
    rw [this, List.getElem?_map, List.getElem?_eq_getElem hi]
    rfl
  · rw [List.getElem?_eq_none (by unfold wK pA; simp; omega), List.getElem?_eq_none (by simp; omega)]
theorem col_p (vals : List V3) (j : Nat) (hj : j < 4) : col ((wK vals.length).zip (pA vals)) [] j = vals := by
  rw [wK_zip]
  unfold col
  rw [List.filter_eq_self.2 (fun p hp => by obtain ⟨v, _, rfl⟩ := List.mem_map.1 hp; rw [rself]; decide), List.map_map]
  have : ((fun p : KA => p.2.getD j v3E) ∘ fun v => (([] : List V3), row4 v)) = id := by
    funext v
    show (row4 v).getD j v3E = v
    match j, hj with
    | 0, _ => rfl
    | 1, _ => rfl
    | 2, _ => rfl
    | 3, _ => rfl
  rw [this, List.map_id]
theorem cols_p (vals : List V3) : cols 4 ((wK vals.length).zip (pA vals)) [] = [nn vals, nn vals, nn vals, nn vals] := by
  unfold cols
  simp [List.range, List.range.loop, col_p]
theorem keysD_t (k : Nat) : keysD (wK k) true = [[]] := by rw [keysD_w]; simp
theorem okT_4 (vs : List V3) (h : (outR kd4 [([], [vs, vs, vs, vs])]).2 = 0) : (vs.length = 0 ∨ I64 (sm vs)) ∧ outR kd4 [([], [vs, vs, vs, vs])] = ([t4 vs], 0) := by
  have e : tellsG kd4 ([], [vs, vs, vs, vs]) = [tellV 20 vs, tellV 21 vs, tellV 22 vs, tellV 23 vs] := rfl
  have e2 : tellV 22 vs = (pkA (-1) vs, 0) := rfl
  have e3 : tellV 23 vs = (pkA 1 vs, 0) := rfl
  unfold outR at h ⊢
  simp only [List.all_cons, List.all_nil, Bool.and_true] at h ⊢
  by_cases hk : okT kd4 ([], [vs, vs, vs, vs]) = true
  · rw [if_pos hk]
    unfold okT at hk
    rw [e, tv20, tv21, e2, e3] at hk
    have hc : vs.length = 0 ∨ I64 (sm vs) := by
      by_cases h0 : vs.length = 0
      · exact .inl h0
      · right
        rw [if_neg h0] at hk
        by_cases h1 : -9223372036854775808 ≤ sm vs ∧ sm vs < 9223372036854775808
        · exact h1
        · rw [if_neg h1] at hk
          simp at hk
    refine ⟨hc, ?_⟩
    simp only [List.map_cons, List.map_nil]
    congr 2
    unfold rowT t4
    rw [e, tv20, tv21, e2, e3]
    rcases hc with hc | hc
    · rw [if_pos hc, if_pos hc]; rfl
    · by_cases h0 : vs.length = 0
      · rw [if_pos h0, if_pos h0]; rfl
      · rw [if_neg h0, if_neg h0, if_pos (show -9223372036854775808 ≤ sm vs ∧ sm vs < 9223372036854775808 from hc)]; rfl
  · rw [if_neg hk] at h
    cases h
theorem grp_p {vals : List V3} (h : (grpO (wK vals.length) (pA vals) kd4 true).2 = 0) : (∀ v ∈ vals, okV v = true) ∧ ((nn vals).length = 0 ∨ I64 (sm (nn vals))) ∧ grpO (wK vals.length) (pA vals) kd4 true = ([t4 (nn vals)], 0) := by
  have hc : chk (wK vals.length) (pA vals) kd4 = 0 := by
    unfold grpO at h
    by_cases h1 : chk (wK vals.length) (pA vals) kd4 = 0
    · exact h1
    · rw [if_pos (by simpa using h1)] at h
      exact h
  have hz : ∀ v ∈ vals, okV v = true := by
    intro v hv
    unfold chk at hc
    split at hc
    · cases hc
    split at hc
    · cases hc
    rename_i h2
    simp only [Bool.not_eq_true, Bool.not_eq_false'] at h2
    rw [wK_zip, List.all_map, List.all_eq_true] at h2
    have h3 := h2 v hv
    simp only [Function.comp, okR, Bool.and_eq_true] at h3
    have h4 := h3.1.2
    rw [List.all_eq_true] at h4
    exact h4 v (by simp)
  have e : grpO (wK vals.length) (pA vals) kd4 true = outR kd4 [([], [nn vals, nn vals, nn vals, nn vals])] := by
    unfold grpO
    rw [if_neg (by rw [hc]; decide), keysD_t]
    unfold cgD
    rw [List.map_singleton, show kd4.length = 4 from rfl, cols_p]
  rw [e] at h ⊢
  obtain ⟨h1, h2⟩ := okT_4 _ h
  exact ⟨hz, h1, h2⟩
theorem nn_app (a b : List V3) : nn (a ++ b) = nn a ++ nn b := by unfold nn; rw [List.filter_append]
theorem okV_pk {sg : Int} (hs : sg = 1 ∨ sg = -1) {vs : List V3} (hn : ∀ v ∈ vs, v.k ≠ 0) (ho : ∀ v ∈ vs, okV v = true) : okV (pkA sg vs) = true := by
  by_cases h : vs = []
  · rw [h]; exact okV_0
  · exact ho _ (pkA_spec hs vs hn h).1
theorem pk_two {sg : Int} (hs : sg = 1 ∨ sg = -1) {a b : List V3} (ha : ∀ v ∈ a, v.k ≠ 0) (hb : ∀ v ∈ b, v.k ≠ 0) : pkA sg (nn [pkA sg a, pkA sg b]) = pkA sg (a ++ b) := by
  have p0 : pkA sg [] = v30 := rfl
  by_cases h1 : a = []
  · subst h1
    by_cases h2 : b = []
    · subst h2
      rfl
    · have hk := hb _ (pkA_spec hs b hb h2).1
      have e : nn [pkA sg [], pkA sg b] = [pkA sg b] := by rw [p0]; unfold nn; simp [hk]
      rw [e, List.nil_append]
      refine pkA_uniq hs (by intro v hv; rw [List.mem_singleton.1 hv]; exact hk) (by simp) (fun v hv => ?_)
      rw [List.mem_singleton.1 hv, cmp_eq]; omega
  · have hka := ha _ (pkA_spec hs a ha h1).1
    obtain ⟨a1, a2⟩ := pkA_spec hs a ha h1
    by_cases h2 : b = []
    · subst h2
      have e : nn [pkA sg a, pkA sg []] = [pkA sg a] := by rw [p0]; unfold nn; simp [hka]
      rw [e, List.append_nil]
      refine pkA_uniq hs (by intro v hv; rw [List.mem_singleton.1 hv]; exact hka) (by simp) (fun v hv => ?_)
      rw [List.mem_singleton.1 hv, cmp_eq]; omega
    · obtain ⟨b1, b2⟩ := pkA_spec hs b hb h2
      have hkb := hb _ b1
      have e : nn [pkA sg a, pkA sg b] = [pkA sg a, pkA sg b] := by unfold nn; simp [hka, hkb]
      have hab : ∀ v ∈ a ++ b, v.k ≠ 0 := fun v hv => (List.mem_append.1 hv).elim (ha v) (hb v)
      rw [e]
      obtain ⟨c1, c2⟩ := pkA_spec hs (a ++ b) hab (by simp [h1])
      refine pkA_uniq hs (by intro v hv; simp at hv; rcases hv with rfl | rfl <;> assumption) ?_ (fun v hv => ?_)
      · rcases List.mem_append.1 c1 with c | c
        · have : pkA sg a = pkA sg (a ++ b) := pkA_uniq hs ha c fun v hv => c2 v (List.mem_append_left _ hv)
          rw [← this]; simp
        · have : pkA sg b = pkA sg (a ++ b) := pkA_uniq hs hb c fun v hv => c2 v (List.mem_append_right _ hv)
          rw [← this]; simp
      · simp at hv
        rcases hv with rfl | rfl
        · exact c2 _ (List.mem_append_left _ a1)
        · exact c2 _ (List.mem_append_right _ b1)
def kd5 : List Int := [21, 21, 22, 23]
theorem sm_nil0 {vs : List V3} (h : vs.length = 0) : sm vs = 0 := by rw [List.length_eq_zero_iff.1 h]; rfl
theorem cols_two (a0 a1 a2 a3 b0 b1 b2 b3 : V3) : cols 4 (([[], []] : List (List V3)).zip [[a0, a1, a2, a3], [b0, b1, b2, b3]]) [] = [nn [a0, b0], nn [a1, b1], nn [a2, b2], nn [a3, b3]] := by
  unfold cols col
  simp [List.range, List.range.loop, rself]
theorem keysD_2 : keysD [[], []] true = [[]] := keysD_t 2
theorem nn_nV (a b : Int) : nn [nV a, nV b] = [nV a, nV b] := by simp [nn]
theorem chk_two {x0 x1 x2 x3 y0 y1 y2 y3 : V3} (o0 : okV x0 = true) (o1 : okV x1 = true) (o2 : okV x2 = true) (o3 : okV x3 = true) (p0 : okV y0 = true) (p1 : okV y1 = true) (p2 : okV y2 = true) (p3 : okV y3 = true) (a0 : x0.k ≤ 1) (a1 : x1.k ≤ 1) (b0 : y0.k ≤ 1) (b1 : y1.k ≤ 1) : chk [[], []] [[x0, x1, x2, x3], [y0, y1, y2, y3]] kd5 = 0 := by
  have c0 : ¬ 1 < x0.k := by omega
  have c1 : ¬ 1 < x1.k := by omega
  have d0 : ¬ 1 < y0.k := by omega
  have d1 : ¬ 1 < y1.k := by omega
  simp [chk, kd5, badK, kOk, okR, o0, o1, o2, o3, p0, p1, p2, p3, bT, bt, e33, c0, c1, d0, d1]
theorem grp_both {a b : List V3} (hn : a.length + b.length ≤ 1048576) (ha : ∀ v ∈ a, v.k ≠ 0) (hb : ∀ v ∈ b, v.k ≠ 0) (oa : ∀ v ∈ a, okV v = true) (ob : ∀ v ∈ b, okV v = true) (hs : (a ++ b).length = 0 ∨ I64 (sm (a ++ b))) :
    grpO [[], []] [t4 a, t4 b] kd5 true = ([t4 (a ++ b)], 0) := by
  have k22 : (-1 : Int) = 1 ∨ (-1 : Int) = -1 := .inr rfl
  have k23 : (1 : Int) = 1 ∨ (1 : Int) = -1 := .inl rfl
  have hst : ∀ vs : List V3, okV (if vs.length = 0 then v30 else nV (sm vs)) = true ∧ (if vs.length = 0 then v30 else nV (sm vs)).k ≤ 1 := fun vs => by
    split
    · exact ⟨okV_0, by decide⟩
    · exact ⟨okV_n _, Int.le_refl _⟩
  have hc : chk [[], []] [t4 a, t4 b] kd5 = 0 := chk_two (okV_n _) (hst a).1 (okV_pk k22 ha oa) (okV_pk k23 ha oa) (okV_n _) (hst b).1 (okV_pk k22 hb ob) (okV_pk k23 hb ob) (Int.le_refl _) (hst a).2 (Int.le_refl _) (hst b).2
  have e : grpO [[], []] [t4 a, t4 b] kd5 true = outR kd5 [([], [nn [nV a.length, nV b.length], nn [if a.length = 0 then v30 else nV (sm a), if b.length = 0 then v30 else nV (sm b)], nn [pkA (-1) a, pkA (-1) b], nn [pkA 1 a, pkA 1 b]])] := by
    unfold grpO
    rw [if_neg (by rw [hc]; decide), keysD_2]
    unfold cgD
    rw [List.map_singleton, show kd5.length = 4 from rfl]
    unfold t4
    rw [cols_two]
  have c1 : tellV 21 (nn [nV a.length, nV b.length]) = (nV (a ++ b).length, 0) := by
    rw [nn_nV, tv21, if_neg (by simp), List.length_append]
    have : sm [nV (a.length : Int), nV (b.length : Int)] = ((a.length + b.length : Nat) : Int) := by simp [sm]
    rw [this, if_pos (by omega)]
  have c2 : tellV 21 (nn [if a.length = 0 then v30 else nV (sm a), if b.length = 0 then v30 else nV (sm b)]) = (if (a ++ b).length = 0 then v30 else nV (sm (a ++ b)), 0) := by
    rw [List.length_append] at hs ⊢
    rw [sm_app] at hs ⊢
    by_cases h1 : a.length = 0
    · rw [if_pos h1, sm_nil0 h1]
      rw [sm_nil0 h1] at hs
      by_cases h2 : b.length = 0
      · rw [if_pos h2, if_pos (by omega)]
        rfl
      · rw [if_neg h2, if_neg (by omega)]
        have e1 : nn [v30, nV (sm b)] = [nV (sm b)] := by simp [nn]
        have e2 : sm [nV (sm b)] = sm b := by simp [sm]
        have h3 : I64 (0 + sm b) := hs.resolve_left (by omega)
        unfold I64 at h3
        rw [e1, tv21, if_neg (by simp), e2, if_pos (by omega)]
        simp
    · rw [if_neg h1, if_neg (show ¬ a.length + b.length = 0 by omega)]
      have h3 : I64 (sm a + sm b) := hs.resolve_left (by omega)
      unfold I64 at h3
      by_cases h2 : b.length = 0
      · rw [if_pos h2]
        rw [sm_nil0 h2] at h3 ⊢
        have e1 : nn [nV (sm a), v30] = [nV (sm a)] := by simp [nn]
        have e2 : sm [nV (sm a)] = sm a := by simp [sm]
        rw [e1, tv21, if_neg (by simp), e2, if_pos (by omega)]
        simp
      · rw [if_neg h2, nn_nV, tv21, if_neg (by simp)]
        have e2 : sm [nV (sm a), nV (sm b)] = sm a + sm b := by simp [sm]
        rw [e2, if_pos (by omega)]
  have c3 : tellV 22 (nn [pkA (-1) a, pkA (-1) b]) = (pkA (-1) (a ++ b), 0) := by
    show (pkA (-1) (nn _), (0 : Int)) = _
    rw [pk_two k22 ha hb]
  have c4 : tellV 23 (nn [pkA 1 a, pkA 1 b]) = (pkA 1 (a ++ b), 0) := by
    show (pkA 1 (nn _), (0 : Int)) = _
    rw [pk_two k23 ha hb]
  rw [e]
  have et : ∀ x0 x1 x2 x3 : List V3, tellsG kd5 ([], [x0, x1, x2, x3]) = [tellV 21 x0, tellV 21 x1, tellV 22 x2, tellV 23 x3] := fun _ _ _ _ => rfl
  unfold outR
  simp only [List.all_cons, List.all_nil, Bool.and_true, List.map_cons, List.map_nil, okT, rowT, et, c1, c2, c3, c4]
  rfl
end Go.Proofs.Ytgpikmonklainaa
