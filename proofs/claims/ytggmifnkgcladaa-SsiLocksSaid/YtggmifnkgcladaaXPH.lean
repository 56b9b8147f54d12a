/- Ssi: so many reads are kept. No condition. -/
import Derived.Test.YtggmifnkgcladaaXPG
import Derived.Test.YtggmifnkgcladaaXN7
import Derived.Test.YtggmifnkgcladaaXG6
import Derived.Test.YtggmifnkgcladaaXG3
namespace Go.Si
open Go Go.Vc Go.Vl Go.Proofs.Ytggmifnkgcladaa
def nm2 (i : Nat) : ByteArray := ⟨#[UInt8.ofNat (97 + i % 16), UInt8.ofNat (97 + i / 16)]⟩
theorem nm2_inj {j k : Nat} (hj : j < 256) (hk : k < 256) (h : nm2 j = nm2 k) : j = k := by
  unfold nm2 at h
  injection h with h
  have h1 : UInt8.ofNat (97 + j % 16) = UInt8.ofNat (97 + k % 16) ∧ UInt8.ofNat (97 + j / 16) = UInt8.ofNat (97 + k / 16) := by simpa using h
  have h2 := congrArg UInt8.toNat h1.1
  have h3 := congrArg UInt8.toNat h1.2
  simp only [UInt8.toNat_ofNat'] at h2 h3
  omega
def rN (i : Nat) : Rd := ⟨nm2 i, -1, z3, z3⟩
def rS (i : Nat) : Rd := ⟨⟨#[116]⟩, 0, nmV i, nmV i⟩
abbrev tR1 : Rd := ⟨⟨#[116]⟩, -1, ⟨0, 0, ⟨#[]⟩⟩, ⟨0, 0, ⟨#[]⟩⟩⟩
def lN (i : Nat) : List Rd := (List.range i).map rN
def lS (i : Nat) : List Rd := if i ≤ 4 then (List.range i).map rS else [tR1]
def loL (sm : Bool) (i : Nat) : List Rd := if sm then lS i else lN i
def loR (sm : Bool) (i : Nat) : Rd := if sm then rS i else rN i
theorem lN_step {i : Nat} (hi : i < 256) : kpL (lN i) (rN i) = lN (i + 1) := by
  have hne : ∀ k ∈ lN i, seq k.t (rN i).t = false := fun k hk => by
    obtain ⟨j, hj, rfl⟩ := List.mem_map.1 hk
    have hj' := List.mem_range.1 hj
    cases hs : seq (rN j).t (rN i).t with
    | false => rfl
    | true => have := nm2_inj (by omega) hi ((seq_iff _ _).1 hs); omega
  have hf : (lN i).find? (kpHit (rN i)) = none := List.find?_eq_none.2 fun k hk => by
    have h := hne k hk
    unfold kpHit rdEq
    rw [h, show seq k.t (allR (rN i)).t = false from h]
    simp
  unfold kpL
  rw [hf]
  simp only
  have ha : kpAll (lN i) (rN i) = true := by unfold kpAll; simp [rN]
  rw [ha, if_pos rfl]
  have hfl : (lN i).filter (fun k => !sameT (rN i) k) = lN i := List.filter_eq_self.2 fun k hk => by
    show (!seq k.t (rN i).t) = true
    rw [hne k hk]; rfl
  rw [hfl]
  show lN i ++ [rN i] = (List.range (i + 1)).map rN
  rw [List.range_succ, List.map_append]; rfl
theorem lS_hit (i : Nat) : kpL [tR1] (rS i) = [tR1] := by
  have h : kpHit (rS i) tR1 = true := by
    show (rdEq tR1 (rS i) || rdEq tR1 tR1) = true
    rw [show rdEq tR1 tR1 = true by decide +kernel, Bool.or_true]
  unfold kpL
  rw [List.find?_cons, h]
theorem lS_0 : kpL (lS 0) (rS 0) = lS (0 + 1) := by kernel_rfl
theorem lS_1 : kpL (lS 1) (rS 1) = lS (1 + 1) := by kernel_rfl
theorem lS_2 : kpL (lS 2) (rS 2) = lS (2 + 1) := by kernel_rfl
theorem lS_3 : kpL (lS 3) (rS 3) = lS (3 + 1) := by kernel_rfl
theorem lS_4 : kpL (lS 4) (rS 4) = lS (4 + 1) := by kernel_rfl
theorem lS_step (i : Nat) : kpL (lS i) (rS i) = lS (i + 1) := by
  rcases Nat.lt_or_ge 4 i with h | h
  · have h1 : lS i = [tR1] := if_neg (by omega)
    have h2 : lS (i + 1) = [tR1] := if_neg (by omega)
    rw [h1, h2]; exact lS_hit i
  · have : i = 0 ∨ i = 1 ∨ i = 2 ∨ i = 3 ∨ i = 4 := by omega
    rcases this with rfl | rfl | rfl | rfl | rfl
    · exact lS_0
    · exact lS_1
    · exact lS_2
    · exact lS_3
    · exact lS_4
theorem loL_step {sm : Bool} {i : Nat} (hi : i < 256) : kpL (loL sm i) (loR sm i) = loL sm (i + 1) := by
  cases sm
  · exact lN_step hi
  · exact lS_step i
theorem loL_len {sm : Bool} {i : Nat} (hi : i ≤ 256) : (loL sm i).length ≤ 256 := by
  cases sm
  · show ((List.range i).map rN).length ≤ 256
    rw [List.length_map, List.length_range]; exact hi
  · show (lS i).length ≤ 256
    unfold lS; split
    · rw [List.length_map, List.length_range]; omega
    · exact Nat.le_of_ble_eq_true rfl
def loA (l : List Rd) : List AT := [⟨1, 1, 0, l, []⟩, ⟨1, 2, 0, [], []⟩]
theorem lo_kept (l : List Rd) : keptA (loA l) = l.length := by
  show l.length + (0 + 0) = _
  omega
theorem lo_read {l : List Rd} {r : Rd} (h : (kpL l r).length ≤ 256) : readA (loA l) 1 r = (loA (kpL l r), 0) := by
  have e : upA (loA l) 0 (aRd r) = loA (kpL l r) := rfl
  have h1 : (aAt (loA l) 0).s = 1 := rfl
  have := read_ok (A := loA l) (i := 0) (r := r) h1 (by rw [e, lo_kept]; exact h) (by rw [e]; rfl)
  rw [e] at this; exact this
theorem lo_step {sm : Bool} {i : Nat} (hi : i < 256) : readA (loA (loL sm i)) 1 (loR sm i) = (loA (loL sm (i + 1)), 0) := by
  have h := loL_step (sm := sm) hi
  have := lo_read (l := loL sm i) (r := loR sm i) (by rw [h]; exact loL_len (by omega))
  rw [h] at this; exact this
theorem lo_bd {l : List Rd} {n : Nat} (h : l.length ≤ n) : Bd (loA l) 2 n := by
  have hat : ∀ i, aAt (loA l) i = if i = 0 then ⟨1, 1, 0, l, []⟩ else if i = 1 then ⟨1, 2, 0, [], []⟩ else a0 := fun i => by
    match i with
    | 0 => rfl
    | 1 => rfl
    | i + 2 => rw [if_neg (by omega), if_neg (by omega), aAt_out (by show 2 ≤ i + 2; omega)]
  refine ⟨Nat.le_refl _, fun i => ?_, fun i => ?_⟩ <;> rw [hat] <;> split <;> first | exact h | exact Nat.zero_le _ | (split <;> exact Nat.zero_le _)
def loS2 : List AT := (readA (loA [tR1]) 2 tR1).1
theorem loS_k1 : keptA (loA [tR1]) = 1 := rfl
theorem loS_e2 : readA (loA [tR1]) 2 tR1 = (loS2, 0) := Prod.ext rfl (by decide +kernel)
theorem loS_k2 : keptA loS2 = 2 := by decide +kernel
theorem lN_len : (lN 256).length = 256 := by unfold lN; rw [List.length_map, List.length_range]
def loN1 (l : List Rd) : List AT := [⟨1, 1, 0, l, []⟩, ⟨3, 2, 0, [tR1], []⟩]
theorem loN_e1 {l : List Rd} (h : l.length = 256) : readA (loA l) 2 tR1 = (loN1 l, 22) := by
  have hl : liveA (loA l) 2 = true := rfl
  have hk : keptA (upA (loA l) ((2 : Int) - 1).toNat (aRd tR1)) = 257 := by
    show l.length + ((kpL [] tR1).length + 0) = 257
    rw [h]; rfl
  unfold readA
  rw [hl, if_pos rfl, hk, if_pos (by decide)]
  rfl
theorem loN_e2 (l : List Rd) : readA (loN1 l) 2 tR1 = (loN1 l, 41) := by
  have hl : liveA (loN1 l) 2 = false := rfl
  unfold readA
  rw [hl, if_neg (by decide)]
theorem loN_k1 {l : List Rd} (h : l.length = 256) : keptA (loN1 l) = 256 := by
  show l.length + (0 + 0) = 256
  omega
def loM1 (l : List Rd) : List AT := [⟨2, 1, 3, l, []⟩, ⟨1, 2, 0, [], []⟩]
def loM2 (l : List Rd) : List AT := [⟨2, 1, 3, l, []⟩, ⟨1, 2, 0, [], []⟩, ⟨1, 4, 0, [], []⟩]
def loM3 (l : List Rd) : List AT := [⟨2, 1, 3, l, []⟩, ⟨3, 2, 0, [], []⟩, ⟨1, 4, 0, [], []⟩]
def loM4 (l : List Rd) : List AT := [⟨2, 1, 3, l, []⟩, ⟨3, 2, 0, [], []⟩, ⟨1, 4, 0, [tR1], []⟩]
theorem loA_nw (l : List Rd) : NoW (loA l) := fun i => by
  match i with
  | 0 => rfl
  | 1 => rfl
  | i + 2 => rw [aAt_out (by show 2 ≤ i + 2; omega)]; rfl
theorem loM4_nw (l : List Rd) : NoW (loM4 l) := fun i => by
  match i with
  | 0 => rfl
  | 1 => rfl
  | 2 => rfl
  | i + 3 => rw [aAt_out (by show 3 ≤ i + 3; omega)]; rfl
theorem loM_e1 (l : List Rd) : commitA (loA l) 2 1 = (loM1 l, 3, 0) := commit_none (A := loA l) (n := 2) (loA_nw l).no (i := 0) rfl
theorem loM_k1 {l : List Rd} (h : l.length = 256) : keptA (loM1 l) = 256 := by
  show l.length + (0 + 0) = 256
  omega
theorem loM_e2 (l : List Rd) : beginA (loM1 l) 3 = loM2 l := rfl
theorem loM_e3 (l : List Rd) : abortA (loM2 l) 2 = (loM3 l, 0) := by
  have hl : liveA (loM2 l) 2 = true := rfl
  unfold abortA
  rw [hl, if_pos rfl]; rfl
theorem loM_k3 (l : List Rd) : keptA (loM3 l) = 0 := rfl
theorem loM_e4 (l : List Rd) : readA (loM3 l) 3 tR1 = (loM4 l, 0) := by
  have e : upA (loM3 l) 2 (aRd tR1) = loM4 l := by
    show [_, _, _] = [_, _, _]
    rw [show aRd tR1 (aAt (loM3 l) 2) = ⟨1, 4, 0, [tR1], []⟩ by kernel_rfl]
  have hk : keptA (loM4 l) = 1 := by
    show 0 + (0 + ([tR1].length + 0)) = 1
    rfl
  have := read_ok (A := loM3 l) (i := 2) (r := tR1) rfl (by rw [e, hk]; decide) (by rw [e]; exact (loM4_nw l).no.j)
  rw [e] at this; exact this
theorem loM_k4 (l : List Rd) : keptA (loM4 l) = 1 := by
  show 0 + (0 + ([tR1].length + 0)) = 1
  rfl
theorem loM_bd {l : List Rd} {n : Nat} (h : l.length ≤ n) : Bd (loM1 l) 3 n ∧ Bd (loM2 l) 3 n ∧ Bd (loM3 l) 3 n := by
  have h1 := (lo_bd h).commit 2 1
  rw [loM_e1] at h1
  have h2 := h1.begin 3
  have h3 := h2.abort 2
  rw [loM_e2] at h2 h3
  rw [loM_e3] at h3
  exact ⟨h1.mono (by omega) (Nat.le_refl _), h2, h3⟩
end Go.Si
