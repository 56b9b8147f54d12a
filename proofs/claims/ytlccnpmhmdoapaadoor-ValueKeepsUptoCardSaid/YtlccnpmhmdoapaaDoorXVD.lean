/- Keys read: plain laws. No condition. -/
import Derived.Test.YtlccnpmhmdoapaaDoorXVC
import Derived.Test.YtlccnpmhmdoapaaDoorXG4
import Derived.Lib.SplitLaws
set_option maxRecDepth 20000
namespace Go.Vl
open Go Go.Vc
abbrev p2 : List UInt8 := [0, 255]
theorem ix_hit (l : List UInt8) : Lib.index (0 :: 255 :: l) p2 = 0 := by
  unfold Lib.index
  simp [List.isPrefixOf]
theorem ix_miss {b : UInt8} (h : b ≠ 0) (l : List UInt8) : Lib.index (b :: l) p2 = if Lib.index l p2 == -1 then -1 else Lib.index l p2 + 1 := by
  conv => lhs; unfold Lib.index
  have : (0 == b) = false := by
    rw [beq_eq_false_iff_ne]
    exact fun e => h e.symm
  simp [List.isPrefixOf, this]
theorem ct_hit (l : List UInt8) : Lib.count (0 :: 255 :: l) p2 = Lib.count l p2 + 1 := by
  rw [Lib.count_hit (i := 0) (by simp) (ix_hit l)]
  show 1 + Lib.count l p2 = _
  omega
theorem ct_miss {b : UInt8} (h : b ≠ 0) (l : List UInt8) : Lib.count (b :: l) p2 = Lib.count l p2 := by
  have hi := ix_miss h l
  by_cases hm : Lib.index l p2 = -1
  · rw [hm] at hi
    rw [Lib.count_miss (by simpa using hi), Lib.count_miss hm]
  · have hge := Lib.index_ge l p2
    obtain ⟨k, hk⟩ : ∃ k : Nat, Lib.index l p2 = k := ⟨(Lib.index l p2).toNat, by omega⟩
    rw [if_neg (by simpa using hm), hk] at hi
    rw [Lib.count_hit (i := k + 1) (by simp) (by rw [hi]; rfl), Lib.count_hit (by simp) hk, show k + 1 + p2.length = (k + p2.length) + 1 by omega, List.drop_succ_cons]
theorem rk_miss {b : UInt8} (h : b ≠ 0) : ∀ (k : Nat) (l : List UInt8), Lib.replaceK p2 [0] k (b :: l) = b :: Lib.replaceK p2 [0] k l
  | 0, _ => rfl
  | k + 1, l => by
    have hi := ix_miss h l
    by_cases hm : Lib.index l p2 = -1
    · rw [hm] at hi
      rw [Lib.replaceK, if_pos (by rw [hi]; rfl), Lib.replaceK, if_pos (by rw [hm]; rfl)]
    · have hge := Lib.index_ge l p2
      obtain ⟨j, hj⟩ : ∃ j : Nat, Lib.index l p2 = j := ⟨(Lib.index l p2).toNat, by omega⟩
      rw [if_neg (by simpa using hm), hj] at hi
      rw [Lib.replaceK_hit p2 [0] k _ (j + 1) (by rw [hi]; rfl), Lib.replaceK_hit p2 [0] k _ j hj, show j + 1 + p2.length = (j + p2.length) + 1 by omega, List.drop_succ_cons, List.take_succ_cons]
      rfl
theorem rk_back : ∀ s : List UInt8, Lib.replaceK p2 [0] (Lib.count (esc s) p2) (esc s) = s
  | [] => rfl
  | b :: s => by
    have ih := rk_back s
    by_cases h : b = 0
    · subst h
      rw [esc_z, ct_hit, Lib.replaceK_hit p2 [0] _ _ 0 (ix_hit _)]
      show 0 :: Lib.replaceK p2 [0] (Lib.count (esc s) p2) (esc s) = 0 :: s
      rw [ih]
    · rw [esc_c h, ct_miss h, rk_miss h, ih]
theorem rep_back (s : List UInt8) : Lib.replaceAll (esc s) p2 [0] = s := by
  unfold Lib.replaceAll Lib.replace Lib.replaceNum
  rw [if_neg (by decide), if_pos (Or.inl (by decide))]
  exact rk_back s
def unbI (u : Nat) : Int := sgnI (u ^^^ 9223372036854775808)
theorem unb_bias {n : Int} (h : I64 n) : unbI (biasN n) = n := by
  have hb := bias_lt h
  rw [p256] at hb
  unfold unbI
  rw [xor_half hb]
  have : sgnI ((biasN n + 9223372036854775808) % 18446744073709551616) = n := by
    rw [sgn_eq (Nat.mod_lt _ (by decide))]
    unfold I64 at h
    unfold biasN
    split <;> omega
  exact this
def k0 (l : List UInt8) : Nat := if decide ((0 : Int) < l.length) then (l.getD 0 0).toNat else 0
def candA (l : List UInt8) : V3 :=
  if ((k0 l : Int) == 1) && ((l.length : Int) == 9) then ⟨k0 l, unbI (leV (l.drop 1).reverse), e0⟩
  else if ((k0 l : Int) == 2) && ((l.length : Int) == 2) then ⟨k0 l, (l.getD 1 0).toNat, e0⟩
  else if ((k0 l : Int) == 3) && decide ((3 : Int) ≤ l.length) then ⟨k0 l, 0, bl (Lib.replaceAll ((l.drop 1).take (l.length - 3)) p2 [0])⟩
  else ⟨k0 l, 0, e0⟩
theorem leV_beN (k u : Nat) (h : u < 256 ^ k) : leV (beN k u).reverse = u := by
  unfold beN
  rw [List.reverse_reverse, leV_leN k u h]
theorem candA_key {v : V3} (h : OkK v) (hr : I64 v.n) : candA (keyL v) = v := by
  cases h with
  | null e => subst e; rfl
  | int n e =>
    subst e
    have hk : k0 (keyL ⟨1, n, e0⟩) = 1 := rfl
    have hl : (keyL ⟨1, n, e0⟩).length = 9 := by rw [key_int, List.length_cons, beN_len]
    unfold candA
    rw [hk, hl, if_pos (by decide), key_int]
    show V3.mk 1 (unbI (leV (beN 8 (biasN n)).reverse)) e0 = _
    rw [leV_beN 8 _ (bias_lt hr), unb_bias hr]
  | bool b e => subst e; cases b <;> rfl
  | text s hs e =>
    subst e
    have hk : k0 (keyL ⟨3, 0, s⟩) = 3 := by
      unfold k0
      rw [key_text, if_pos (by simp; omega)]
      rfl
    have hl : (keyL ⟨3, 0, s⟩).length = (esc s.data.toList).length + 3 := by rw [key_text, List.length_cons, List.length_append]; rfl
    unfold candA
    rw [hk, hl, if_neg (by simp), if_neg (by simp), if_pos (by simp; omega)]
    rw [key_text, List.drop_succ_cons, List.drop_zero, Nat.add_sub_cancel, List.take_left, rep_back, bl_eq]
    rfl
theorem candA_rng (l : List UInt8) : I64 (candA l).n := by
  have hx : ∀ u, I64 (unbI u) := fun u => by unfold unbI sgnI; exact wrap_rng _
  unfold candA
  split
  · exact hx _
  · split
    · have := UInt8.toNat_lt (l.getD 1 0)
      exact ⟨by show _ ≤ (((l.getD 1 0).toNat : Nat) : Int); omega, by show (((l.getD 1 0).toNat : Nat) : Int) < _; omega⟩
    · split <;> exact i64_0
def fkW (c : V3) (l : List UInt8) : V3 × Int := if okV c && (keyL c == l) then (c, 0) else (v3D, 6)
theorem fk_same {c d : V3} {l : List UInt8} (hc : ∀ v, OkK v → I64 v.n → l = keyL v → c = v) (hd : ∀ v, OkK v → I64 v.n → l = keyL v → d = v) (rc : I64 c.n) (rd : I64 d.n) : fkW c l = fkW d l := by
  unfold fkW
  by_cases h : (okV c && (keyL c == l)) = true
  · rw [if_pos h]
    rw [Bool.and_eq_true, beq_iff_eq] at h
    have e := hd c (ok_cases h.1) rc h.2.symm
    subst e
    rw [if_pos (by rw [Bool.and_eq_true, beq_iff_eq]; exact h)]
  · by_cases h2 : (okV d && (keyL d == l)) = true
    · have h2' := h2
      rw [Bool.and_eq_true, beq_iff_eq] at h2'
      have e := hc d (ok_cases h2'.1) rd h2'.2.symm
      subst e
      exact absurd h2 h
    · rw [if_neg h, if_neg h2]
theorem fk_key {v : V3} (h : OkK v) (hr : I64 v.n) : fkW (candA (keyL v)) (keyL v) = (v, 0) := by
  rw [candA_key h hr]
  unfold fkW
  rw [if_pos (by rw [ok_of h]; simp)]
end Go.Vl
