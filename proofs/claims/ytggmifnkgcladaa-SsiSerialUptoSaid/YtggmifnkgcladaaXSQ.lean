/- Ssi: what is written down beside the set, in memory. No condition. -/
import Derived.Test.YtggmifnkgcladaaXOR
import Derived.Test.YtggmifnkgcladaaXOQ
namespace Go.Proofs.Ytggmifnkgcladaa
open Go Go.Vc Go.Si Go.Vl
abbrev RS.x (p : RS) (k : Int) : RX := rAt p.xs (k - 1)
def RS.st3 (p : RS) (k : Int) : RS := ⟨p.sp, abS p.st p.xs k, p.cap, abL p.xs k⟩
abbrev RS.vR (p : RS) (k : Int) (r : Rd) (z : Option (Nat × List Value) × Nat) : RX := putR z ((p.x k).reads ++ [r]) (p.x k)
def RS.ad (p : RS) (k : Int) (r : Rd) (z : Option (Nat × List Value) × Nat) : RS := ⟨p.sp, stS p.st (k - 1).toNat (p.vR k r z), p.cap, p.xs.set (k - 1).toNat (p.vR k r z)⟩
abbrev RS.vW (p : RS) (k : Int) (w : WrA) (z : Option (Nat × List Value) × Nat) : RX := putW z ((p.x k).writes ++ [w]) (p.x k)
def RS.aw (p : RS) (k : Int) (w : WrA) (z : Option (Nat × List Value) × Nat) : RS := ⟨p.sp, wrS p.st p.xs k w z, p.cap, wrL p.xs k w z⟩
def RS.inc (p : RS) : RS := ⟨p.sp + 1, p.st, p.cap, p.xs⟩
def RS.cm1 (p : RS) (k : Int) : RS := ⟨p.sp, stS p.st (k - 1).toNat (cm2 (p.x k)), p.cap, p.xs.set (k - 1).toNat (cm2 (p.x k))⟩
def RS.dn (p : RS) (k : Int) (d : Nat) : RS := ⟨p.sp, stS p.st (k - 1).toNat { p.x k with done := d }, p.cap, p.xs.set (k - 1).toNat { p.x k with done := d }⟩
section
variable {p : RS} {B : List AT} {n : Nat} {Us : List WrA} {k : Int}
theorem rr_up (h : RRl p B n Us) (h0 : 1 ≤ k) (h1 : k ≤ (p.xs.length : Nat)) {v : RX} {f : AT → AT} (hv : v.abs = f (p.x k).abs) (hr : Grows Rd.cells 8 v.reads v.rs v.rc) (hw : Grows WrA.cells 3 v.writes v.ws v.wc) (hu : ∀ w ∈ v.writes, w ∈ Us) : RRl ⟨p.sp, stS p.st (k - 1).toNat v, p.cap, p.xs.set (k - 1).toNat v⟩ (upA B (k - 1).toNat f) n Us := by
  refine ⟨h.sp, h.wf.set (h.wf.get h0 h1) hr hw, ?_, rus_set h.us hu⟩
  show absL (p.xs.set (k - 1).toNat v) = _
  rw [← h.ab]
  exact absL_set (by omega) (by omega) hv
theorem rr_m (_h : RRl p B n Us) (h0 : 1 ≤ k) (h1 : k ≤ (p.xs.length : Nat)) : p.x k ∈ p.xs := rAt_mem (by omega) (by omega)
theorem rr_st3 (h : RRl p B n Us) (h0 : 1 ≤ k) (h1 : k ≤ (p.xs.length : Nat)) : RRl (p.st3 k) (abA B (k - 1).toNat) n Us :=
  rr_up h h0 h1 (v := mk3 (p.x k)) rfl (h.wf.rs (p.x k) (rr_m h h0 h1)) (h.wf.ws (p.x k) (rr_m h h0 h1)) (h.us (p.x k) (rr_m h h0 h1))
theorem rr_ad (h : RRl p B n Us) (h0 : 1 ≤ k) (h1 : k ≤ (p.xs.length : Nat)) {r : Rd} {z : Option (Nat × List Value) × Nat} (hG : Grows Rd.cells 8 ((p.x k).reads ++ [r]) z.1 z.2) : RRl (p.ad k r z) (upA B (k - 1).toNat (aAR r)) n Us :=
  rr_up h h0 h1 (v := p.vR k r z) rfl hG (h.wf.ws (p.x k) (rr_m h h0 h1)) (h.us (p.x k) (rr_m h h0 h1))
theorem rr_aw (h : RRl p B n Us) (h0 : 1 ≤ k) (h1 : k ≤ (p.xs.length : Nat)) {w : WrA} (hw : w ∈ Us) {z : Option (Nat × List Value) × Nat} (hG : Grows WrA.cells 3 ((p.x k).writes ++ [w]) z.1 z.2) : RRl (p.aw k w z) (upA B (k - 1).toNat (aWr w.abs)) n Us :=
  rr_up h h0 h1 (v := p.vW k w z) (by simp [RX.abs, putW, aWr]) (h.wf.rs (p.x k) (rr_m h h0 h1)) hG (fun u hu => by
    have hu' : u ∈ (p.x k).writes ++ [w] := hu
    rcases List.mem_append.1 hu' with hu | hu
    · exact h.us (p.x k) (rr_m h h0 h1) u hu
    · rw [List.mem_singleton.1 hu]; exact hw)
theorem rr_inc (h : RRl p B n Us) : RRl p.inc B (n + 1) Us := ⟨by show p.sp + 1 = n + 1; rw [h.sp], h.wf, h.ab, h.us⟩
theorem rr_cm1 (h : RRl p B n Us) (h0 : 1 ≤ k) (h1 : k ≤ (p.xs.length : Nat)) : RRl (p.cm1 k) (upA B (k - 1).toNat fun a => { a with s := 2 }) n Us :=
  rr_up h h0 h1 (v := cm2 (p.x k)) rfl (h.wf.rs (p.x k) (rr_m h h0 h1)) (h.wf.ws (p.x k) (rr_m h h0 h1)) (h.us (p.x k) (rr_m h h0 h1))
theorem rr_dn (h : RRl p B n Us) (h0 : 1 ≤ k) (h1 : k ≤ (p.xs.length : Nat)) (d : Nat) : RRl (p.dn k d) (upA B (k - 1).toNat fun a => { a with done := d }) n Us :=
  rr_up h h0 h1 (v := { p.x k with done := d }) rfl (h.wf.rs (p.x k) (rr_m h h0 h1)) (h.wf.ws (p.x k) (rr_m h h0 h1)) (h.us (p.x k) (rr_m h h0 h1))
theorem up_up {A : List AT} {i : Nat} {f g : AT → AT} : upA (upA A i f) i g = upA A i fun a => g (f a) := by
  rcases Nat.lt_or_ge i A.length with h | h
  · unfold upA
    rw [List.set_set]
    congr 1
    rw [aAt_set h, if_pos rfl]
  · have h1 : ∀ f, upA A i f = A := fun f => List.set_eq_of_length_le h
    rw [h1, h1, h1]
theorem cm_up (B : List AT) (i d : Nat) : upA (upA B i fun a => { a with s := 2 }) i (fun a => { a with done := d }) = upA B i (aCm d) := up_up
theorem live_val (xs : List RX) (k : Int) : ((decide (1 ≤ k) && decide (k ≤ (xs.length : Nat))) && ((rAt xs (k - 1)).s == 1)) = liveA (absL xs) k := by
  unfold liveA
  rw [List.length_map]
  by_cases h1 : 1 ≤ k
  · by_cases h2 : k ≤ (xs.length : Nat)
    · rw [absL_at (by omega) (by omega)]; rfl
    · rw [decide_eq_false h2]; simp
  · rw [decide_eq_false h1]; rfl
theorem bd_ad {m q : Nat} (h : Bd B m q) (i : Nat) (r : Rd) : Bd (upA B i (aAR r)) m (q + 1) :=
  h.up (Nat.le_succ q) (by show (_ ++ [r]).length ≤ _; rw [List.length_append]; have := h.r i; simp only [List.length_cons, List.length_nil]; omega) (Nat.le_succ_of_le (h.w i))
theorem bd_aw {m q : Nat} (h : Bd B m q) (i : Nat) (w : Wr) : Bd (upA B i (aWr w)) m (q + 1) :=
  h.up (Nat.le_succ q) (Nat.le_succ_of_le (h.r i)) (by show (_ ++ [w]).length ≤ _; rw [List.length_append]; have := h.w i; simp only [List.length_cons, List.length_nil]; omega)
theorem bd_cm {m q : Nat} (h : Bd B m q) (i d : Nat) : Bd (upA B i (aCm d)) m q := h.up (Nat.le_refl q) (h.r i) (h.w i)
theorem bd_begin {m q : Nat} (h : Bd B m q) (hm : B.length < m) (d : Nat) : Bd (beginA B d) m q := by
  have hb := h.begin d
  refine ⟨?_, hb.r, hb.w⟩
  unfold beginA; rw [List.length_append]; simp only [List.length_cons, List.length_nil]; omega
theorem rr_rl {m q : Nat} (h : RRl p B n Us) (hb : Bd B m q) {x : RX} (hx : x ∈ p.xs) : x.reads.length ≤ q ∧ x.writes.length ≤ q := by
  obtain ⟨i, h1, h2⟩ := h.at' hx
  rw [h1, h2]; exact ⟨hb.r i, hb.w i⟩
end
section
variable {b sp cap i : Nat} {st : Option (Nat × List Value)} {xs : List RX} {x v : RX}
theorem ser_fw (hi : xs[i]? = some x) (o : Own) (S : List Own) : (o :: (RL b sp st cap xs ++ S)).Perm (ownO x.ws ty_api_Write (FrR o b sp cap xs.length st (rsW xs i x) ++ S)) :=
  ((fw_perm hi o).append_right S).trans (.of_eq (by rw [ownO_split x.ws ty_api_Write (_ ++ S), List.append_assoc]))
theorem ser_fr (hi : xs[i]? = some x) (o : Own) (S : List Own) : (o :: (RL b sp st cap xs ++ S)).Perm (ownO x.rs ty_api_Read (FrR o b sp cap xs.length st (rsR xs i x) ++ S)) :=
  ((fr_perm hi o).append_right S).trans (.of_eq (by rw [ownO_split x.rs ty_api_Read (_ ++ S), List.append_assoc]))
theorem ser_fw_back (hi : xs[i]? = some x) (hw : v.rs = x.rs) (o : Own) (S : List Own) : (o :: (RL b sp (stS st i v) cap (xs.set i v) ++ S)).Perm (ownO v.ws ty_api_Write (FrR o b sp cap xs.length (stS st i v) (rsW xs i x) ++ S)) :=
  ((fw_back hi hw o).append_right S).trans (.of_eq (by rw [ownO_split v.ws ty_api_Write (_ ++ S), List.append_assoc]))
theorem ser_fr_back (hi : xs[i]? = some x) (hw : v.ws = x.ws) (o : Own) (S : List Own) : (o :: (RL b sp (stS st i v) cap (xs.set i v) ++ S)).Perm (ownO v.rs ty_api_Read (FrR o b sp cap xs.length (stS st i v) (rsR xs i x) ++ S)) :=
  ((fr_back hi hw o).append_right S).trans (.of_eq (by rw [ownO_split v.rs ty_api_Read (_ ++ S), List.append_assoc]))
end
end Go.Proofs.Ytggmifnkgcladaa
