/- The document's readers of keys and tuples: plain laws. No condition. -/
import Derived.Test.YtlccnpmhmdoapaaDoorXVD
set_option maxRecDepth 20000
namespace Go.Vl
open Go Go.Vc
def unesc : List UInt8 → List UInt8
  | [] => []
  | [_] => []
  | b :: c :: r => if r = [] then [] else if b = 0 then b :: unesc r else b :: unesc (c :: r)
theorem esc_two (s : List UInt8) : ∃ c d r, esc s ++ [0, 0] = c :: d :: r := by
  cases h : esc s with
  | nil => exact ⟨0, 0, [], rfl⟩
  | cons a l =>
    cases l with
    | nil => exact ⟨a, 0, [0], rfl⟩
    | cons b r => exact ⟨a, b, r ++ [0, 0], rfl⟩
theorem unesc_esc : ∀ s : List UInt8, unesc (esc s ++ [0, 0]) = s
  | [] => rfl
  | b :: s => by
    have ih := unesc_esc s
    obtain ⟨c, d, r, e⟩ := esc_two s
    by_cases h : b = 0
    · subst h
      rw [esc_z]
      show unesc (0 :: 255 :: (esc s ++ [0, 0])) = _
      rw [unesc, if_neg (by rw [e]; simp), if_pos rfl, ih]
    · rw [esc_c h]
      show unesc (b :: (esc s ++ [0, 0])) = _
      rw [e] at ih ⊢
      rw [unesc, if_neg (by simp), if_neg h, ih]
theorem unesc_short {l : List UInt8} (h : l.length < 3) : unesc l = [] := by
  match l, h with
  | [], _ => rfl
  | [_], _ => rfl
  | [_, _], _ => rfl
  | _ :: _ :: _ :: _, h => simp at h; omega
theorem unesc_step {l : List UInt8} {i : Nat} (h : i + 2 < l.length) : unesc (l.drop i) = l.getD i 0 :: (if l.getD i 0 = 0 then unesc (l.drop (i + 2)) else unesc (l.drop (i + 1))) := by
  rw [List.drop_eq_getElem_cons (by omega : i < l.length), List.drop_eq_getElem_cons (by omega : i + 1 < l.length), unesc, if_neg (fun hh => by have := congrArg List.length hh; rw [List.length_drop] at this; simp at this; omega)]
  have e : l[i]'(by omega) = l.getD i 0 := by rw [List.getD_eq_getElem?_getD, List.getElem?_eq_getElem (by omega)]; rfl
  rw [e]
  split <;> rfl
def numW (l : List UInt8) : Nat := l.foldl (fun u b => (256 * u + b.toNat) % 18446744073709551616) 0
theorem numW_snoc (l : List UInt8) (b : UInt8) : numW (l ++ [b]) = (256 * numW l + b.toNat) % 18446744073709551616 := by
  unfold numW
  rw [List.foldl_append]
  rfl
theorem fold_lt : ∀ (l : List UInt8) (a : Nat), a < 18446744073709551616 → l.foldl (fun u b => (256 * u + b.toNat) % 18446744073709551616) a < 18446744073709551616
  | [], _, h => h
  | _ :: l, _, _ => fold_lt l _ (Nat.mod_lt _ (by decide))
theorem numW_lt (l : List UInt8) : numW l < 18446744073709551616 := fold_lt l 0 (by decide)
theorem numW_be : ∀ (k u : Nat), u < 256 ^ k → u < 18446744073709551616 → numW (beN k u) = u
  | 0, u, h, _ => by simp at h; subst h; rfl
  | k + 1, u, h, h2 => by
    rw [Nat.pow_succ] at h
    rw [beN_s, numW_snoc, numW_be k (u / 256) (by omega) (by omega), show (UInt8.ofNat (u % 256)).toNat = u % 256 from UInt8.toNat_ofNat_of_lt' (Nat.mod_lt u (by decide : 0 < 256))]
    omega
def unbW (u : Nat) : Int := IntKind.i64.wrap (IntKind.u64.wrap ((u : Int) - 9223372036854775808))
theorem wrap64u (n : Int) : IntKind.u64.wrap n = n % 18446744073709551616 := wrap_u64 n
theorem unbW_bias {n : Int} (h : I64 n) : unbW (biasN n) = n := by
  unfold unbW
  rw [wrap64u, IntKind.wrap_i64]
  unfold I64 at h
  unfold biasN
  omega
def kN (l : List UInt8) : Nat := (l.getD 0 0).toNat
def candB (l : List UInt8) : V3 :=
  if ((kN l : Int) == 1) then ⟨kN l, unbW (numW (l.drop 1)), e0⟩
  else if ((kN l : Int) == 2) && decide ((1 : Int) < l.length) then ⟨kN l, (l.getD 1 0).toNat, e0⟩
  else if ((kN l : Int) == 3) then ⟨kN l, 0, bl (unesc (l.drop 1))⟩
  else ⟨kN l, 0, e0⟩
theorem candB_key {v : V3} (h : OkK v) (hr : I64 v.n) : candB (keyL v) = v := by
  cases h with
  | null e => subst e; rfl
  | int n e =>
    subst e
    have hb := bias_lt hr
    have hb2 := hb
    rw [p256] at hb2
    have hk : kN (keyL ⟨1, n, e0⟩) = 1 := rfl
    unfold candB
    rw [hk, if_pos (by decide), key_int, List.drop_succ_cons, List.drop_zero, numW_be 8 _ hb hb2, unbW_bias hr]
    rfl
  | bool b e => subst e; cases b <;> rfl
  | text s hs e =>
    subst e
    have hk : kN (keyL ⟨3, 0, s⟩) = 3 := rfl
    unfold candB
    rw [hk, if_neg (by decide), if_neg (by simp), if_pos (by decide), key_text, List.drop_succ_cons, List.drop_zero, unesc_esc, bl_eq]
    rfl
theorem candB_rng (l : List UInt8) : I64 (candB l).n := by
  have hx : ∀ u, I64 (unbW u) := fun u => by unfold unbW; exact wrap_rng _
  unfold candB
  split
  · exact hx _
  · split
    · have := UInt8.toNat_lt (l.getD 1 0)
      exact ⟨by show _ ≤ (((l.getD 1 0).toNat : Nat) : Int); omega, by show (((l.getD 1 0).toNat : Nat) : Int) < _; omega⟩
    · split <;> exact i64_0
theorem fkB_nil : fkW (candA []) [] = (v3D, 6) := by
  unfold fkW
  rw [if_neg (by simp [keyL])]
theorem fkB_far {l : List UInt8} (h : 3 < kN l) : fkW (candA l) l = (v3D, 6) := by
  unfold fkW
  rw [if_neg]
  intro e
  rw [Bool.and_eq_true, beq_iff_eq] at e
  have hk : kN (keyL (candA l)) ≤ 3 := by
    cases ok_cases e.1 with
    | null q => rw [q]; decide
    | int n q => rw [q]; show (1 : Nat) ≤ 3; decide
    | bool b q => rw [q]; show (2 : Nat) ≤ 3; decide
    | text s hs q => rw [q]; show (3 : Nat) ≤ 3; decide
  rw [e.2] at hk
  omega
theorem fkB_eq (l : List UInt8) : fkW (candB l) l = fkW (candA l) l :=
  fk_same (fun v h hr e => by rw [e]; exact candB_key h hr) (fun v h hr e => by rw [e]; exact candA_key h hr) (candB_rng l) (candA_rng l)
def needN (k : Nat) : Nat := if k = 0 then 0 else if k = 1 then 8 else 1
theorem drop_at {l : List UInt8} {i : Nat} (h : i < l.length) : l.drop i = l.getD i 0 :: l.drop (i + 1) := by
  rw [List.drop_eq_getElem_cons h, List.getD_eq_getElem?_getD, List.getElem?_eq_getElem h]
  rfl
theorem gv_kind {l : List UInt8} {i : Nat} (h : i < l.length) (hk : 3 < (l.getD i 0).toNat) : (getV (l.drop i)).1 = 6 := by
  rw [drop_at h, getV_4 _ _ hk]
theorem gv_none {l : List UInt8} {i : Nat} (h : l.length ≤ i) : (getV (l.drop i)).1 = 5 := by
  rw [List.drop_eq_nil_of_le h]
  rfl
theorem byte_of {b : UInt8} {k : Nat} (h : b.toNat = k) (hk : k < 256) : b = UInt8.ofNat k := UInt8.toNat_inj.1 (by rw [h, UInt8.toNat_ofNat_of_lt' (by show k < 256; exact hk)])
theorem gv_short {l : List UInt8} {i : Nat} (h : i < l.length) (hk : (l.getD i 0).toNat ≤ 3) (hs : l.length < i + 1 + needN (l.getD i 0).toNat) : (getV (l.drop i)).1 = 5 := by
  have hl : (l.drop (i + 1)).length = l.length - (i + 1) := List.length_drop
  rw [drop_at h]
  have hc : (l.getD i 0).toNat = 0 ∨ (l.getD i 0).toNat = 1 ∨ (l.getD i 0).toNat = 2 ∨ (l.getD i 0).toNat = 3 := by omega
  rcases hc with e | e | e | e <;> rw [e] at hs <;> rw [byte_of e (by decide)]
  · simp [needN] at hs; omega
  · simp [needN] at hs
    rw [show UInt8.ofNat 1 = 1 from rfl, getV_1, if_pos (by omega)]
  · simp [needN] at hs
    rw [show UInt8.ofNat 2 = 2 from rfl, getV_c, if_neg (by decide), if_neg (by decide), if_pos rfl, if_pos (by omega)]
  · simp [needN] at hs
    rw [show UInt8.ofNat 3 = 3 from rfl, getV_c, if_neg (by decide), if_neg (by decide), if_neg (by decide), if_pos rfl, if_pos (by omega)]
theorem gv_0 {l : List UInt8} {i : Nat} (h : i < l.length) (e : (l.getD i 0).toNat = 0) : getV (l.drop i) = (0, v3D, l.drop (i + 1)) := by
  rw [drop_at h, byte_of e (by decide)]
  rfl
theorem gv_1 {l : List UInt8} {i : Nat} (h : i + 8 < l.length) (e : (l.getD i 0).toNat = 1) : getV (l.drop i) = (0, ⟨1, sgnI (leV ((l.drop (i + 1)).take 8)), e0⟩, l.drop (i + 1 + 8)) := by
  rw [drop_at (by omega), byte_of e (by decide), show UInt8.ofNat 1 = 1 from rfl, getV_1, if_neg (by rw [List.length_drop]; omega), List.drop_drop]
theorem gv_2 {l : List UInt8} {i : Nat} (h : i + 1 < l.length) (e : (l.getD i 0).toNat = 2) : getV (l.drop i) = if 1 < (l.getD (i + 1) 0).toNat then (6, v3D, []) else (0, ⟨2, (l.getD (i + 1) 0).toNat, e0⟩, l.drop (i + 1 + 1)) := by
  rw [drop_at (by omega), byte_of e (by decide), show UInt8.ofNat 2 = 2 from rfl, drop_at h, getV_2]
theorem gv_3 {l : List UInt8} {i : Nat} (h : i + 1 < l.length) (e : (l.getD i 0).toNat = 3) : getV (l.drop i) = getT (l.drop (i + 1 + 1)) (l.getD (i + 1) 0).toNat := by
  rw [drop_at (by omega), byte_of e (by decide), show UInt8.ofNat 3 = 3 from rfl, drop_at h, getV_3]
end Go.Vl
