/- Group: keys that are their own arguments; plain laws. No condition. -/
import Derived.Test.YtgpikmonklainaaXGL3a
namespace Go.Proofs.Ytgpikmonklainaa
open Go Go.Vc Go.Vl Go.Od
abbrev kR (v : V3) : List V3 := [v]
abbrev aR (v : V3) : List V3 := [v, v, v, nV 1]
def kd6 : List Int := [22, 23, 20, 21]
abbrev pz6 (vals : List V3) : List KA := vals.map fun v => (kR v, aR v)
theorem zip6 (vals : List V3) : (vals.map kR).zip (vals.map aR) = pz6 vals := by
  refine List.ext_getElem? fun i => ?_
  by_cases hi : i < vals.length
  · have : ((vals.map kR).zip (vals.map aR))[i]? = some (kR vals[i], aR vals[i]) := by
      rw [List.getElem?_zip_eq_some]
      simp [hi]
    rw [this, List.getElem?_map, List.getElem?_eq_getElem hi]
    rfl
  · rw [List.getElem?_eq_none (by simp; omega), List.getElem?_eq_none (by simp; omega)]
def cnt (vals : List V3) (v : V3) : Nat := (vals.filter fun x => rowsC [x] [v] == 0).length
theorem filt6 (vals : List V3) (v : V3) : (vals.filter fun x => rowsC [x] [v] == 0) = List.replicate (cnt vals v) v := by
  rw [List.eq_replicate_iff]
  refine ⟨rfl, fun x hx => ?_⟩
  have := (List.mem_filter.1 hx).2
  rw [beq_iff_eq, rowsC_zero] at this
  exact (List.cons.inj this).1
theorem col6 (vals : List V3) (v : V3) (j : Nat) : col (pz6 vals) [v] j = List.replicate (cnt vals v) ((aR v).getD j v3E) := by
  unfold col
  rw [List.filter_map, List.map_map]
  have e : ((fun p : KA => rowsC p.1 [v] == 0) ∘ fun v => (kR v, aR v)) = fun x => rowsC [x] [v] == 0 := rfl
  rw [e, filt6, List.map_replicate]
  rfl
theorem nn_rep (c : Nat) (v : V3) : nn (List.replicate c v) = if v.k = 0 then [] else List.replicate c v := by
  unfold nn
  split
  · rw [List.filter_eq_nil_iff]
    intro x hx
    rw [(List.mem_replicate.1 hx).2]
    simpa
  · rw [List.filter_eq_self]
    intro x hx
    rw [(List.mem_replicate.1 hx).2]
    simpa
theorem cols6 (vals : List V3) (v : V3) : cols 4 (pz6 vals) [v] = [nn (List.replicate (cnt vals v) v), nn (List.replicate (cnt vals v) v), nn (List.replicate (cnt vals v) v), List.replicate (cnt vals v) (nV 1)] := by
  have h : nn (List.replicate (cnt vals v) (nV 1)) = List.replicate (cnt vals v) (nV 1) := by rw [nn_rep, if_neg (by decide)]
  unfold cols
  simp [List.range, List.range.loop, col6]
  exact h
def cntN (vals : List V3) (v : V3) : Nat := if v.k = 0 then 0 else cnt vals v
def rowK (vals : List V3) (v : V3) : List V3 := [v, v, v, nV (cntN vals v), nV (cnt vals v)]
theorem cnt_pos {vals : List V3} {v : V3} (h : v ∈ vals) : 0 < cnt vals v := List.length_pos_of_mem (a := v) (List.mem_filter.2 ⟨h, by rw [beq_iff_eq, rself]⟩)
theorem cnt_le (vals : List V3) (v : V3) : cnt vals v ≤ vals.length := List.length_filter_le _ _
theorem sm_rep (c : Nat) : sm (List.replicate c (nV 1)) = c := by
  induction c with
  | zero => rfl
  | succ c ih => rw [List.replicate_succ]; show 1 + sm _ = _; rw [ih]; omega
theorem pk_rep {sg : Int} (hs : sg = 1 ∨ sg = -1) {v : V3} {c : Nat} (hc : 0 < c) (ho : okV v = true) : pkA sg (nn (List.replicate c v)) = v := by
  rw [nn_rep]
  split
  · rename_i h0
    show v30 = v
    cases ok_cases ho with
    | null h => exact h.symm
    | int n h => rw [h] at h0; cases h0
    | bool b h => rw [h] at h0; cases h0
    | text s hs h => rw [h] at h0; cases h0
  · rename_i h0
    refine pkA_uniq hs (fun x hx => by rw [(List.mem_replicate.1 hx).2]; exact h0) (List.mem_replicate.2 ⟨by omega, rfl⟩) fun x hx => ?_
    rw [(List.mem_replicate.1 hx).2, cmp_eq]
    omega
theorem tells6 {vals : List V3} {v : V3} (hv : v ∈ vals) (hn : vals.length ≤ 1048576) (ho : okV v = true) : tellsG kd6 ([v], cols 4 (pz6 vals) [v]) = [(v, 0), (v, 0), (nV (cntN vals v), 0), (nV (cnt vals v), 0)] := by
  have hp := cnt_pos hv
  have hl := cnt_le vals v
  rw [cols6]
  have et : ∀ x0 x1 x2 x3 : List V3, tellsG kd6 ([v], [x0, x1, x2, x3]) = [tellV 22 x0, tellV 23 x1, tellV 20 x2, tellV 21 x3] := fun _ _ _ _ => rfl
  rw [et]
  have e1 : tellV 22 (nn (List.replicate (cnt vals v) v)) = (v, 0) := by
    show (pkA (-1) _, (0 : Int)) = _
    rw [pk_rep (.inr rfl) hp ho]
  have e2 : tellV 23 (nn (List.replicate (cnt vals v) v)) = (v, 0) := by
    show (pkA 1 _, (0 : Int)) = _
    rw [pk_rep (.inl rfl) hp ho]
  have e3 : tellV 20 (nn (List.replicate (cnt vals v) v)) = (nV (cntN vals v), 0) := by
    rw [tv20, nn_rep]
    unfold cntN
    split <;> simp
  have e4 : tellV 21 (List.replicate (cnt vals v) (nV 1)) = (nV (cnt vals v), 0) := by
    rw [tv21, List.length_replicate, if_neg (by omega), sm_rep, if_pos (by omega)]
  rw [e1, e2, e3, e4]
def dK (vals : List V3) : List (List V3) := dd (srt ltR (vals.map kR))
theorem dK_spec (vals : List V3) : (dK vals).Pairwise (fun a b => ltR a b = true) ∧ ∀ x, x ∈ dK vals ↔ ∃ v ∈ vals, x = [v] := by
  obtain ⟨h1, h2⟩ := dd_spec (srt_srt (lt := ltR) ordR (S := vals.map kR) (fun _ _ => trivial))
  refine ⟨h1, fun x => ?_⟩
  unfold dK
  rw [h2, (srt_perm _).mem_iff, List.mem_map]
  exact ⟨fun ⟨v, a, b⟩ => ⟨v, a, b.symm⟩, fun ⟨v, a, b⟩ => ⟨v, a, b.symm⟩⟩
theorem chk6_bad {vals : List V3} (h : vals.all okV = false) : grpO (vals.map kR) (vals.map aR) kd6 false = ([], 1) := by
  have hc : chk (vals.map kR) (vals.map aR) kd6 = 1 := by
    have a1 : ((vals.map kR).length != (vals.map aR).length || kd6.any badK) = false := by simp [kd6, badK, kOk]
    have a2 : ((vals.map kR).zip (vals.map aR)).all (okR kd6) = false := by
      rw [zip6, List.all_map, List.all_eq_false]
      rw [List.all_eq_false] at h
      obtain ⟨v, h1, h2⟩ := h
      exact ⟨v, h1, by simp [okR, h2]⟩
    unfold chk
    rw [a1, a2]
    rfl
  unfold grpO
  rw [hc]
  rfl
theorem grp6 {vals : List V3} (h : vals.all okV = true) (hn : vals.length ≤ 1048576) : ∃ D : List V3, dK vals = D.map kR ∧ (∀ v ∈ D, v ∈ vals) ∧ grpO (vals.map kR) (vals.map aR) kd6 false = (D.map (rowK vals), 0) := by
  have ho : ∀ v ∈ vals, okV v = true := List.all_eq_true.1 h
  have hc : chk (vals.map kR) (vals.map aR) kd6 = 0 := by
    have a1 : ((vals.map kR).length != (vals.map aR).length || kd6.any badK) = false := by simp [kd6, badK, kOk]
    have a2 : ((vals.map kR).zip (vals.map aR)).all (okR kd6) = true := by
      rw [zip6, List.all_map, List.all_eq_true]
      intro v hv
      simp [okR, ho v hv, okV_n, kd6]
    have a3 : (vals.map aR).any (bT kd6) = false := by
      rw [List.any_map, List.any_eq_false]
      intro v _
      simp [bT, kd6, bt]
    unfold chk
    rw [a1, a2, a3]
    rfl
  obtain ⟨h1, h2⟩ := dK_spec vals
  have hD : dK vals = ((dK vals).map fun r => r.getD 0 v3E).map kR := by
    rw [List.map_map]
    refine (List.map_id _).symm.trans (List.map_congr_left fun x hx => ?_)
    obtain ⟨v, _, rfl⟩ := (h2 x).1 hx
    rfl
  refine ⟨(dK vals).map fun r => r.getD 0 v3E, hD, fun v hv => ?_, ?_⟩
  · obtain ⟨x, hx, rfl⟩ := List.mem_map.1 hv
    obtain ⟨v, hv2, rfl⟩ := (h2 x).1 hx
    exact hv2
  · unfold grpO
    rw [if_neg (by rw [hc]; decide)]
    have hk : keysD (vals.map kR) false = dK vals := by unfold keysD dK; simp
    rw [hk]
    unfold cgD
    rw [zip6, show kd6.length = 4 from rfl]
    have hok : ∀ g ∈ (dK vals).map (fun key => ((key, cols 4 (pz6 vals) key) : GPr)), okT kd6 g = true := by
      intro g hg
      obtain ⟨x, hx, rfl⟩ := List.mem_map.1 hg
      obtain ⟨v, hv, rfl⟩ := (h2 x).1 hx
      unfold okT
      rw [tells6 hv hn (ho v hv)]
      rfl
    rw [outR_ok hok, List.map_map, List.map_map]
    refine Prod.ext (List.map_congr_left fun x hx => ?_) rfl
    obtain ⟨v, hv, rfl⟩ := (h2 x).1 hx
    show rowT kd6 ([v], cols 4 (pz6 vals) [v]) = rowK vals v
    unfold rowT
    rw [tells6 hv hn (ho v hv)]
    rfl
theorem cnt_all : ∀ (D vals : List V3), D.Nodup → (∀ v ∈ vals, v ∈ D) → (D.map (cnt vals)).sum = vals.length
  | D, [], _, _ => by
    have : D.map (cnt []) = List.replicate D.length 0 := by
      rw [List.eq_replicate_iff]
      refine ⟨by rw [List.length_map], fun x hx => ?_⟩
      obtain ⟨v, _, rfl⟩ := List.mem_map.1 hx
      rfl
    rw [this]
    simp
  | D, x :: vals, hd, hm => by
    classical
    have ih := cnt_all D vals hd fun v hv => hm v (List.mem_cons_of_mem _ hv)
    have hc : ∀ v, cnt (x :: vals) v = cnt vals v + if x = v then 1 else 0 := fun v => by
      unfold cnt
      by_cases h : x = v
      · rw [List.filter_cons, if_pos (by rw [beq_iff_eq, h, rself]), if_pos h, List.length_cons]
      · rw [List.filter_cons, if_neg (by rw [beq_iff_eq, rowsC_zero]; intro e; exact h (List.cons.inj e).1), if_neg h]
        rfl
    have key : ∀ E : List V3, E.Nodup → (E.map (cnt (x :: vals))).sum = (E.map (cnt vals)).sum + if x ∈ E then 1 else 0 := by
      intro E
      induction E with
      | nil => intro _; simp
      | cons e E ih2 =>
        intro hE
        have hE2 := List.nodup_cons.1 hE
        rw [List.map_cons, List.sum_cons, List.map_cons, List.sum_cons, ih2 hE2.2, hc]
        by_cases h : x = e
        · have : ¬ x ∈ E := fun hx => hE2.1 (h ▸ hx)
          rw [if_pos h, if_neg this, if_pos (by rw [h]; exact List.mem_cons_self)]
          omega
        · rw [if_neg h]
          by_cases h2 : x ∈ E
          · rw [if_pos h2, if_pos (List.mem_cons_of_mem _ h2)]; omega
          · rw [if_neg h2, if_neg (by rw [List.mem_cons]; exact fun h3 => h3.elim h h2)]; omega
    rw [key D hd, ih, if_pos (hm x List.mem_cons_self), List.length_cons]
end Go.Proofs.Ytgpikmonklainaa
