/- Group: what tellers know; plain laws. No condition. -/
import Derived.Test.YtgpikmonklainaaXGE
import Derived.Test.YtgpikmonklainaaXG5
namespace Go.Od
open Go Go.Vc Go.Vl
def hiS (S : Int) : Int := (S / 18446744073709551616) % 18446744073709551616
def loS (S : Int) : Int := S % 18446744073709551616
def sm : List V3 → Int
  | [] => 0
  | v :: vs => v.n + sm vs
theorem sm_app (a b : List V3) : sm (a ++ b) = sm a + sm b := by
  induction a with
  | nil => simp [sm]
  | cons v a ih => simp only [List.cons_append, sm, ih]; omega
theorem sm_perm {a b : List V3} (h : a.Perm b) : sm a = sm b := by
  induction h with
  | nil => rfl
  | cons x _ ih => simp only [sm, ih]
  | swap x y l => simp only [sm]; omega
  | trans _ _ h1 h2 => exact h1.trans h2
theorem sm_bound : ∀ (vs : List V3), (∀ v ∈ vs, I64 v.n) → -(9223372036854775808 * (vs.length : Int)) ≤ sm vs ∧ sm vs ≤ 9223372036854775807 * (vs.length : Int)
  | [], _ => by simp [sm]
  | v :: vs, h => by
    have h1 := sm_bound vs fun x hx => h x (List.mem_cons_of_mem _ hx)
    have h2 := h v List.mem_cons_self
    unfold I64 at h2
    simp only [sm, List.length_cons]
    omega
theorem lo_step (S n : Int) : (loS S + n % 18446744073709551616 + 0) % 18446744073709551616 = loS (S + n) := by
  unfold loS
  omega
theorem sh63 {n : Int} (h : I64 n) : n.fdiv 9223372036854775808 = if n < 0 then -1 else 0 := by
  unfold I64 at h
  rw [Int.fdiv_eq_ediv_of_nonneg _ (by omega)]
  split <;> omega
theorem hi_step (S : Int) {n : Int} (h : I64 n) : ((hiS S + (if n < 0 then -1 else 0) % 18446744073709551616) % 18446744073709551616 + (loS S + n % 18446744073709551616 + 0) / 18446744073709551616) % 18446744073709551616 = hiS (S + n) := by
  unfold I64 at h
  unfold hiS loS
  split <;> omega
theorem tell_sum {S : Int} (hb : -170141183460469231731687303715884105728 ≤ S ∧ S < 170141183460469231731687303715884105728) : (hiS S = ((IntKind.i64.wrap (loS S)).fdiv 9223372036854775808) % 18446744073709551616 ↔ I64 S) ∧ (I64 S → IntKind.i64.wrap (loS S) = S) := by
  have hw : IntKind.i64.wrap (loS S) = if loS S < 9223372036854775808 then loS S else loS S - 18446744073709551616 := by
    split
    · exact wrap64_eq (by unfold loS; omega) (by assumption)
    · rw [IntKind.wrap_i64]
      unfold loS
      unfold loS at *
      omega
  rw [hw]
  have hr : -9223372036854775808 ≤ (if loS S < 9223372036854775808 then loS S else loS S - 18446744073709551616) ∧ (if loS S < 9223372036854775808 then loS S else loS S - 18446744073709551616) < 9223372036854775808 := by
    unfold loS
    split <;> omega
  rw [Int.fdiv_eq_ediv_of_nonneg _ (by omega)]
  unfold hiS loS I64 at *
  constructor
  · constructor
    · intro h
      split at h <;> omega
    · intro h
      split <;> omega
  · intro h
    split <;> omega
def sgK (k : Int) : Int := if k == 22 then -1 else 1
def pk1 (sg : Int) (p v : V3) : V3 := if p.k == 0 || decide (0 < sg * cmpV v p) then v else p
abbrev v30 : V3 := ⟨0, 0, e0⟩
def pkA (sg : Int) (vs : List V3) : V3 := vs.foldl (pk1 sg) v30
theorem pkA_snoc (sg : Int) (vs : List V3) (v : V3) : pkA sg (vs ++ [v]) = pk1 sg (pkA sg vs) v := by unfold pkA; rw [List.foldl_append]; rfl
def tc (k : Int) (vs : List V3) : List Value :=
  if k = 20 then [.int .i64 vs.length] else if k = 21 then [.int .i64 vs.length, .int .u64 (hiS (sm vs)), .int .u64 (loS (sm vs))]
  else [.int .i64 (sgK k), .int .i64 (pkA (sgK k) vs).k, .int .i64 (pkA (sgK k) vs).n, .string (pkA (sgK k) vs).s]
theorem tc_ne (k : Int) (vs : List V3) : tc k vs ≠ [] := by
  unfold tc
  split
  · simp
  · split <;> simp
def tellV (k : Int) (vs : List V3) : V3 × Int :=
  if k = 20 then (⟨1, vs.length, e0⟩, 0) else if k = 21 then (if vs.length = 0 then (v30, 0) else if -9223372036854775808 ≤ sm vs ∧ sm vs < 9223372036854775808 then (⟨1, sm vs, e0⟩, 0) else (v30, 35))
  else (pkA (sgK k) vs, 0)
end Go.Od
