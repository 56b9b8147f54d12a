/- Order: sorted once and again, and the other way round. No condition. -/
import Derived.Test.YtgpikmonklainaaXOJ
namespace Go.Od
open Go Go.Vc Go.Vl
theorem zip_dup : ∀ ks : List (List V3), ks.zip ks = dup ks
  | [] => rfl
  | k :: ks => by
    show (k, k) :: ks.zip ks = (k, k) :: dup ks
    rw [zip_dup ks]
theorem allOk_dup {ks : List (List V3)} {dn : List Bool} : allOk ks ks dn = true ↔ ∀ k ∈ ks, k.length = dn.length ∧ k.all okV = true := by
  unfold allOk
  rw [zip_dup]
  simp only [beq_self_eq_true, Bool.true_and, List.all_eq_true, okL, Bool.and_eq_true, beq_iff_eq]
  constructor
  · intro h k hk
    have := h (k, k) (List.mem_map_of_mem hk)
    exact ⟨this.1.1, fun x hx => this.2 x hx⟩
  · intro h x hx
    obtain ⟨k, hk, rfl⟩ := List.mem_map.1 hx
    obtain ⟨h1, h2⟩ := h k hk
    exact ⟨⟨h1, h2⟩, h2⟩
theorem dup_srt {ks : List (List V3)} {dn : List Bool} : dup ((srt (ltL dn) (dup ks)).map Prod.fst) = srt (ltL dn) (dup ks) := by
  have h : ∀ x ∈ srt (ltL dn) (dup ks), (x.1, x.1) = x := fun x hx => by
    obtain ⟨k, _, rfl⟩ := List.mem_map.1 ((srt_perm _).mem_iff.1 hx)
    rfl
  show ((srt (ltL dn) (dup ks)).map Prod.fst).map (fun k => (k, k)) = _
  rw [List.map_map]
  exact (List.map_congr_left h).trans (List.map_id _)
section
variable {ks : List (List V3)} {dn : List Bool} (h : allOk ks ks dn = true)
include h
theorem top_dup : topO ks ks dn (-1) = (srt (ltL dn) (dup ks)).map Prod.fst := by
  rw [topO_ok h, zip_dup]
  rfl
theorem again_ok : allOk (topO ks ks dn (-1)) (topO ks ks dn (-1)) dn = true := by
  have h' := allOk_dup.1 h
  exact allOk_dup.2 fun k hk => h' k (topO_mem hk)
theorem again_same : topO (topO ks ks dn (-1)) (topO ks ks dn (-1)) dn (-1) = topO ks ks dn (-1) := by
  have h' := allOk_dup.1 h
  rw [top_dup (again_ok h), top_dup h, dup_srt]
  rw [srt_idem]
  intro x hx
  obtain ⟨k, hk, rfl⟩ := List.mem_map.1 hx
  exact (h' k hk).1
theorem not_ok : allOk ks ks (dn.map (!·)) = true := by
  have h' := allOk_dup.1 h
  exact allOk_dup.2 fun k hk => by rw [List.length_map]; exact h' k hk
theorem not_same : topO ks ks (dn.map (!·)) (-1) = (topO ks ks dn (-1)).reverse := by
  have h' := allOk_dup.1 h
  rw [top_dup (not_ok h), top_dup h, srt_not dn fun k hk => (h' k hk).1, List.map_reverse]
end
theorem rows_self (a : List V3) : rowsC a a = 0 := (to_V.lex.zero a a).2 rfl
theorem rev_get {ps qs : List RV} {i : Nat} (h : qs.map RV.row = (ps.map RV.row).reverse) (hi : i < ps.length) : (qs.getD (ps.length - 1 - i) rv0).row = (ps.getD i rv0).row := by
  have hl : qs.length = ps.length := by
    have := congrArg List.length h
    simpa using this
  have h1 : (qs.map RV.row)[ps.length - 1 - i]? = (ps.map RV.row).reverse[ps.length - 1 - i]? := by rw [h]
  rw [List.getElem?_map, getD_some (d := rv0) (by omega), List.getElem?_reverse (by simp; omega), List.getElem?_map, List.length_map, show ps.length - 1 - (ps.length - 1 - i) = i by omega, getD_some (d := rv0) hi] at h1
  simpa using h1
end Go.Od
