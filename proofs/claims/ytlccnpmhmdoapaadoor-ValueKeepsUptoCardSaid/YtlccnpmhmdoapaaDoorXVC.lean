/- Literals, tuples: plain laws. No condition. -/
import Derived.Test.YtlccnpmhmdoapaaDoorXVB
import Derived.Lib.Case
import Derived.Shelf.Small.Wraps
set_option maxRecDepth 20000
namespace Go.Vl
open Go Go.Vc
abbrev qu1 : ByteArray := ⟨#[39]⟩
abbrev nullB : ByteArray := ⟨#[78, 85, 76, 76]⟩
def showV (v : V3) : ByteArray := if !okV v then ⟨#[]⟩ else if v.k == 1 then ⟨(Lib.itoa v.n).toArray⟩ else if v.k == 2 then ⟨(Lib.toUpperA (Lib.formatBool (v.n == 1))).toArray⟩ else if v.k == 3 then (qu1 ++ ⟨(repL 39 [39, 39] v.s.data.toList).toArray⟩) ++ qu1 else nullB
abbrev dbl (s : List UInt8) : List UInt8 := repL 39 [39, 39] s
theorem show_null : (showV ⟨0, 0, e0⟩).data.toList = [78, 85, 76, 76] := by
  unfold showV
  rw [ok_of (.null rfl)]
  rfl
theorem show_int (n : Int) : (showV ⟨1, n, e0⟩).data.toList = Lib.itoa n := by
  unfold showV
  rw [ok_of (.int n rfl)]
  exact bl_list _
theorem show_bool (b : Bool) : (showV ⟨2, if b then 1 else 0, e0⟩).data.toList = if b then [84, 82, 85, 69] else [70, 65, 76, 83, 69] := by
  unfold showV
  rw [ok_of (.bool b rfl)]
  cases b <;> decide +kernel
theorem show_text (s : ByteArray) (hs : s.size ≤ 64) : (showV ⟨3, 0, s⟩).data.toList = 39 :: (dbl s.data.toList ++ [39]) := by
  unfold showV
  rw [ok_of (.text s hs rfl)]
  show ((qu1 ++ bl _) ++ qu1).data.toList = _
  rw [app_list, app_list, bl_list]
  rfl
theorem dbl_q (s : List UInt8) : dbl (39 :: s) = 39 :: 39 :: dbl s := rfl
theorem dbl_c {b : UInt8} (h : b ≠ 39) (s : List UInt8) : dbl (b :: s) = b :: dbl s := by
  show repL _ _ _ = _
  rw [repL_cons, if_neg (by simpa using h)]
  rfl
theorem dbl_inj : ∀ s t : List UInt8, dbl s = dbl t → s = t
  | [], [], _ => rfl
  | [], b :: t, h => by
    by_cases hb : b = 39
    · subst hb; rw [dbl_q] at h; cases h
    · rw [dbl_c hb] at h; cases h
  | a :: s, [], h => by
    by_cases ha : a = 39
    · subst ha; rw [dbl_q] at h; cases h
    · rw [dbl_c ha] at h; cases h
  | a :: s, b :: t, h => by
    by_cases ha : a = 39
    · by_cases hb : b = 39
      · subst ha hb
        rw [dbl_q, dbl_q] at h
        rw [dbl_inj s t (by simpa using h)]
      · subst ha
        rw [dbl_q, dbl_c hb] at h
        injection h with h1
        exact absurd h1.symm hb
    · by_cases hb : b = 39
      · subst hb
        rw [dbl_q, dbl_c ha] at h
        injection h with h1
        exact absurd h1 ha
      · rw [dbl_c ha, dbl_c hb] at h
        injection h with h1 h2
        rw [h1, dbl_inj s t h2]
def unD (l : List UInt8) : Nat := l.foldl (fun a b => 10 * a + (b.toNat - 48)) 0
theorem dg_nat {d : Nat} (h : d < 10) : (UInt8.ofNat (48 + d)).toNat = 48 + d := UInt8.toNat_ofNat_of_lt' (by show 48 + d < 256; omega)
theorem un_dec (u : Nat) : unD (Lib.decDigits u) = u := by
  induction u using Nat.strongRecOn with
  | _ u ih =>
    rw [Lib.decDigits]
    split
    · rename_i h
      show 10 * 0 + ((UInt8.ofNat (48 + u)).toNat - 48) = u
      rw [dg_nat h]
      omega
    · rename_i h
      unfold unD
      rw [List.foldl_append]
      have := ih (u / 10) (by omega)
      unfold unD at this
      rw [this]
      show 10 * (u / 10) + ((UInt8.ofNat (48 + u % 10)).toNat - 48) = u
      rw [dg_nat (by omega)]
      omega
theorem dec_head (u : Nat) : ∃ b t, Lib.decDigits u = b :: t ∧ 48 ≤ b.toNat ∧ b.toNat ≤ 57 := by
  induction u using Nat.strongRecOn with
  | _ u ih =>
    rw [Lib.decDigits]
    split
    · rename_i h
      exact ⟨_, _, rfl, by rw [dg_nat h]; omega, by rw [dg_nat h]; omega⟩
    · rename_i h
      obtain ⟨b, t, e, h1, h2⟩ := ih (u / 10) (by omega)
      exact ⟨b, t ++ [UInt8.ofNat (48 + u % 10)], by rw [e]; rfl, h1, h2⟩
theorem itoa_head (n : Int) : ∃ b t, Lib.itoa n = b :: t ∧ (b = 45 ∨ (48 ≤ b.toNat ∧ b.toNat ≤ 57)) := by
  unfold Lib.itoa
  split
  · exact ⟨45, _, rfl, .inl rfl⟩
  · obtain ⟨b, t, e, h⟩ := dec_head n.toNat
    exact ⟨b, t, e, .inr h⟩
theorem itoa_inj {m n : Int} (h : Lib.itoa m = Lib.itoa n) : m = n := by
  unfold Lib.itoa at h
  by_cases hm : m < 0
  · by_cases hn : n < 0
    · rw [if_pos hm, if_pos hn] at h
      injection h with _ h2
      have := congrArg unD h2
      rw [un_dec, un_dec] at this
      omega
    · rw [if_pos hm, if_neg hn] at h
      obtain ⟨b, t, e, h1, h2⟩ := dec_head n.toNat
      rw [e] at h
      injection h with h3 _
      rw [← h3] at h1
      exact absurd h1 (by decide)
  · by_cases hn : n < 0
    · rw [if_neg hm, if_pos hn] at h
      obtain ⟨b, t, e, h1, h2⟩ := dec_head m.toNat
      rw [e] at h
      injection h with h3 _
      rw [h3] at h1
      exact absurd h1 (by decide)
    · rw [if_neg hm, if_neg hn] at h
      have := congrArg unD h
      rw [un_dec, un_dec] at this
      omega
theorem head_ne {b c : UInt8} {s t : List UInt8} (h : (b = 45 ∨ (48 ≤ b.toNat ∧ b.toNat ≤ 57))) (hc : c = 78 ∨ c = 84 ∨ c = 70 ∨ c = 39) : b :: s ≠ c :: t := fun e => by
  injection e with e _
  subst e
  rcases hc with rfl | rfl | rfl | rfl <;> rcases h with h | h <;> revert h <;> decide
theorem show_ne {v : V3} (h : OkK v) : (showV v).data.toList ≠ [] := by
  cases h with
  | null e => subst e; rw [show_null]; simp
  | int n e => subst e; rw [show_int]; obtain ⟨b, t, e, _⟩ := itoa_head n; rw [e]; simp
  | bool b e => subst e; rw [show_bool]; cases b <;> simp
  | text s hs e => subst e; rw [show_text s hs]; simp
theorem show_inj {v w : V3} (hv : OkK v) (hw : OkK w) (h : (showV v).data.toList = (showV w).data.toList) : v = w := by
  cases hv with
  | null e => subst e; cases hw with
    | null e => rw [e]
    | int n e => subst e; rw [show_null, show_int] at h; obtain ⟨b, t, e, hb⟩ := itoa_head n; rw [e] at h; exact absurd h.symm (head_ne hb (.inl rfl))
    | bool b e => subst e; rw [show_null, show_bool] at h; cases b <;> simp at h
    | text s hs e => subst e; rw [show_null, show_text s hs] at h; simp at h
  | int m e => subst e; cases hw with
    | null e => subst e; rw [show_null, show_int] at h; obtain ⟨b, t, e, hb⟩ := itoa_head m; rw [e] at h; exact absurd h (head_ne hb (.inl rfl))
    | int n e => subst e; rw [show_int, show_int] at h; rw [itoa_inj h]
    | bool b e =>
      subst e
      rw [show_int, show_bool] at h
      obtain ⟨c, t, e, hb⟩ := itoa_head m
      rw [e] at h
      cases b
      · exact absurd h (head_ne hb (.inr (.inr (.inl rfl))))
      · exact absurd h (head_ne hb (.inr (.inl rfl)))
    | text s hs e => subst e; rw [show_int, show_text s hs] at h; obtain ⟨c, t, e, hb⟩ := itoa_head m; rw [e] at h; exact absurd h (head_ne hb (.inr (.inr (.inr rfl))))
  | bool c e => subst e; cases hw with
    | null e => subst e; rw [show_null, show_bool] at h; cases c <;> simp at h
    | int n e =>
      subst e
      rw [show_int, show_bool] at h
      obtain ⟨b, t, e, hb⟩ := itoa_head n
      rw [e] at h
      cases c
      · exact absurd h.symm (head_ne hb (.inr (.inr (.inl rfl))))
      · exact absurd h.symm (head_ne hb (.inr (.inl rfl)))
    | bool d e => subst e; rw [show_bool, show_bool] at h; cases c <;> cases d <;> first | rfl | (simp at h)
    | text s hs e => subst e; rw [show_bool, show_text s hs] at h; cases c <;> simp at h
  | text s hs e => subst e; cases hw with
    | null e => subst e; rw [show_null, show_text s hs] at h; simp at h
    | int n e => subst e; rw [show_int, show_text s hs] at h; obtain ⟨c, t, e, hb⟩ := itoa_head n; rw [e] at h; exact absurd h.symm (head_ne hb (.inr (.inr (.inr rfl))))
    | bool b e => subst e; rw [show_bool, show_text s hs] at h; cases b <;> simp at h
    | text t ht e =>
      subst e
      rw [show_text s hs, show_text t ht] at h
      injection h with _ h2
      have h3 := (List.append_inj' h2 rfl).1
      rw [list_inj (dbl_inj _ _ h3)]
abbrev v3D : V3 := ⟨0, 0, e0⟩
def leV : List UInt8 → Nat
  | [] => 0
  | b :: l => b.toNat + 256 * leV l
theorem leV_leN : ∀ (k u : Nat), u < 256 ^ k → leV (leN k u) = u
  | 0, u, h => by simp at h; subst h; rfl
  | k + 1, u, h => by
    rw [Nat.pow_succ] at h
    rw [leN, leV, leV_leN k (u / 256) (by omega), show (UInt8.ofNat (u % 256)).toNat = u % 256 from UInt8.toNat_ofNat_of_lt' (Nat.mod_lt u (by decide : 0 < 256))]
    omega
theorem leV_lt : ∀ l : List UInt8, leV l < 256 ^ l.length
  | [] => by simp [leV]
  | b :: l => by
    have := leV_lt l
    have hb : b.toNat < 256 := b.toNat_lt
    rw [leV, List.length_cons, Nat.pow_succ]
    omega
theorem leN_leV : ∀ l : List UInt8, leN l.length (leV l) = l
  | [] => rfl
  | b :: l => by
    have hb : b.toNat < 256 := b.toNat_lt
    rw [List.length_cons, leV, leN, show (b.toNat + 256 * leV l) / 256 = leV l by omega, leN_leV l, show (b.toNat + 256 * leV l) % 256 = b.toNat by omega]
    simp
def unsN (n : Int) : Nat := (n % 18446744073709551616).toNat
def sgnI (u : Nat) : Int := IntKind.i64.wrap (u : Int)
theorem sgn_eq {u : Nat} (h : u < 18446744073709551616) : sgnI u = if u < 9223372036854775808 then (u : Int) else u - 18446744073709551616 := by
  unfold sgnI
  rw [IntKind.wrap_i64]
  split <;> omega
def putP (v : V3) : List UInt8 := if v.k == 1 then leN 8 (unsN v.n) else if v.k == 2 then [UInt8.ofNat v.n.toNat] else if v.k == 3 then UInt8.ofNat v.s.size :: v.s.data.toList else []
def putV (v : V3) : List UInt8 := UInt8.ofNat v.k.toNat :: putP v
theorem put_null : putV ⟨0, 0, e0⟩ = [0] := rfl
theorem put_int (n : Int) : putV ⟨1, n, e0⟩ = 1 :: leN 8 (unsN n) := rfl
theorem put_bool (b : Bool) : putV ⟨2, if b then 1 else 0, e0⟩ = [2, if b then 1 else 0] := by cases b <;> rfl
theorem put_text (s : ByteArray) : putV ⟨3, 0, s⟩ = 3 :: UInt8.ofNat s.size :: s.data.toList := rfl
def putLs (vs : List V3) : List UInt8 × Int := if decide (255 < (vs.length : Int)) then ([], 3) else if vs.all okV then (UInt8.ofNat vs.length :: vs.flatMap putV, 0) else ([], 1)
def getT (q : List UInt8) (c : Nat) : Int × V3 × List UInt8 := if 64 < c then (6, v3D, []) else if q.length < c then (5, v3D, []) else (0, ⟨3, 0, bl (q.take c)⟩, q.drop c)
def getV : List UInt8 → Int × V3 × List UInt8
  | [] => (5, v3D, [])
  | b :: r => if 3 < b.toNat then (6, v3D, []) else if b = 1 then (if r.length < 8 then (5, v3D, []) else (0, ⟨1, sgnI (leV (r.take 8)), e0⟩, r.drop 8))
    else if b = 2 then (if r.length < 1 then (5, v3D, []) else if 1 < (r.headD 0).toNat then (6, v3D, []) else (0, ⟨2, (r.headD 0).toNat, e0⟩, r.tail))
    else if b = 3 then (if r.length < 1 then (5, v3D, []) else getT r.tail (r.headD 0).toNat)
    else (0, v3D, r)
theorem getV_c (b : UInt8) (r : List UInt8) : getV (b :: r) = if 3 < b.toNat then (6, v3D, []) else if b = 1 then (if r.length < 8 then (5, v3D, []) else (0, ⟨1, sgnI (leV (r.take 8)), e0⟩, r.drop 8))
    else if b = 2 then (if r.length < 1 then (5, v3D, []) else if 1 < (r.headD 0).toNat then (6, v3D, []) else (0, ⟨2, (r.headD 0).toNat, e0⟩, r.tail))
    else if b = 3 then (if r.length < 1 then (5, v3D, []) else getT r.tail (r.headD 0).toNat)
    else (0, v3D, r) := rfl
theorem getV_1 (r : List UInt8) : getV (1 :: r) = if r.length < 8 then (5, v3D, []) else (0, ⟨1, sgnI (leV (r.take 8)), e0⟩, r.drop 8) := by rw [getV_c, if_neg (by decide), if_pos rfl]
theorem getV_2 (c : UInt8) (q : List UInt8) : getV (2 :: c :: q) = if 1 < c.toNat then (6, v3D, []) else (0, ⟨2, c.toNat, e0⟩, q) := by
  rw [getV_c, if_neg (by decide), if_neg (by decide), if_pos rfl, if_neg (by simp)]
  rfl
theorem getV_3 (c : UInt8) (q : List UInt8) : getV (3 :: c :: q) = getT q c.toNat := by
  rw [getV_c, if_neg (by decide), if_neg (by decide), if_neg (by decide), if_pos rfl, if_neg (by simp)]
  rfl
theorem getV_4 (b : UInt8) (r : List UInt8) (h : 3 < b.toNat) : getV (b :: r) = (6, v3D, []) := by rw [getV_c, if_pos h]
theorem i64_0 : I64 0 := ⟨by decide, by decide⟩
theorem i64_1 : I64 1 := ⟨by decide, by decide⟩
def getN : Nat → List UInt8 → Int × List V3 × List UInt8
  | 0, l => (0, [], l)
  | n + 1, l => if (getV l).1 ≠ 0 then ((getV l).1, [], []) else if (getN n (getV l).2.2).1 ≠ 0 then ((getN n (getV l).2.2).1, [], []) else (0, (getV l).2.1 :: (getN n (getV l).2.2).2.1, (getN n (getV l).2.2).2.2)
def finG (xs : List V3) (g : Int × List V3 × List UInt8) : List V3 × Int := if g.1 ≠ 0 then ([], g.1) else if g.2.2 = [] then (xs ++ g.2.1, 0) else ([], 6)
def getL : List UInt8 → List V3 × Int
  | [] => ([], 5)
  | b :: r => finG [] (getN b.toNat r)
theorem fin_step {xs : List V3} {n : Nat} {l : List UInt8} (h : (getV l).1 = 0) : finG (xs ++ [(getV l).2.1]) (getN n (getV l).2.2) = finG xs (getN (n + 1) l) := by
  by_cases h2 : (getN n (getV l).2.2).1 = 0
  · have e : getN (n + 1) l = (0, (getV l).2.1 :: (getN n (getV l).2.2).2.1, (getN n (getV l).2.2).2.2) := by rw [getN, if_neg (by simp [h]), if_neg (by simp [h2])]
    rw [e]
    unfold finG
    rw [if_neg (by simp [h2])]
    simp
  · have e : getN (n + 1) l = ((getN n (getV l).2.2).1, [], []) := by rw [getN, if_neg (by simp [h]), if_pos h2]
    rw [e]
    unfold finG
    rw [if_pos h2, if_pos h2]
theorem fin_bad {xs : List V3} {n : Nat} {l : List UInt8} (h : (getV l).1 ≠ 0) : finG xs (getN (n + 1) l) = ([], (getV l).1) := by
  have e : getN (n + 1) l = ((getV l).1, [], []) := by rw [getN, if_pos h]
  rw [e]
  unfold finG
  rw [if_pos h]
theorem uns_lt (n : Int) : unsN n < 256 ^ 8 := by
  rw [p256]
  unfold unsN
  omega
theorem sgn_uns {n : Int} (h : I64 n) : sgnI (unsN n) = n := by
  have := uns_lt n
  rw [p256] at this
  rw [sgn_eq this]
  unfold I64 at h
  unfold unsN
  split <;> omega
theorem uns_sgn {u : Nat} (h : u < 18446744073709551616) : unsN (sgnI u) = u := by
  rw [sgn_eq h]
  unfold unsN
  split <;> omega
theorem sgn_i64 {u : Nat} (h : u < 18446744073709551616) : I64 (sgnI u) := by
  rw [sgn_eq h]
  unfold I64
  split <;> omega
theorem get_put {v : V3} (h : OkK v) (hr : I64 v.n) (r : List UInt8) : getV (putV v ++ r) = (0, v, r) := by
  cases h with
  | null e => subst e; rfl
  | int n e =>
    subst e
    rw [put_int, List.cons_append, getV_1, if_neg (by rw [List.length_append, leN_len]; omega), List.take_append_of_le_length (by rw [leN_len]; omega), List.take_of_length_le (by rw [leN_len]; omega), List.drop_append_of_le_length (by rw [leN_len]; omega), List.drop_of_length_le (by rw [leN_len]; omega), leV_leN 8 _ (uns_lt n), sgn_uns hr]
    rfl
  | bool b e => subst e; rw [put_bool]; cases b <;> rfl
  | text s hs e =>
    subst e
    have hl : (UInt8.ofNat s.size).toNat = s.size := UInt8.toNat_ofNat_of_lt' (by show s.size < 256; omega)
    have hz := len_sz s
    rw [put_text, List.cons_append, List.cons_append, getV_3, hl]
    unfold getT
    rw [if_neg (by omega), if_neg (by rw [List.length_append]; omega), List.take_append_of_le_length (by omega), List.take_of_length_le (by omega), List.drop_append_of_le_length (by omega), List.drop_of_length_le (by omega), bl_eq]
    rfl
theorem get_ok {l : List UInt8} (h : (getV l).1 = 0) : OkK (getV l).2.1 ∧ I64 (getV l).2.1.n ∧ l = putV (getV l).2.1 ++ (getV l).2.2 := by
  cases l with
  | nil => exact absurd h (by decide)
  | cons b r =>
    by_cases h3 : 3 < b.toNat
    · rw [getV_4 b r h3] at h
      exact absurd h (by decide)
    · by_cases h1 : b = 1
      · subst h1
        rw [getV_1] at h ⊢
        by_cases h8 : r.length < 8
        · rw [if_pos h8] at h
          exact absurd h (by decide)
        · rw [if_neg h8]
          have hl : (r.take 8).length = 8 := by rw [List.length_take]; omega
          have hv : leV (r.take 8) < 18446744073709551616 := by have := leV_lt (r.take 8); rwa [hl, p256] at this
          refine ⟨.int _ rfl, sgn_i64 hv, ?_⟩
          show 1 :: r = putV ⟨1, sgnI (leV (r.take 8)), e0⟩ ++ r.drop 8
          rw [put_int, uns_sgn hv]
          have := leN_leV (r.take 8)
          rw [hl] at this
          rw [this, List.cons_append, List.take_append_drop]
      · by_cases h2 : b = 2
        · subst h2
          cases r with
          | nil => exact absurd h (by decide)
          | cons c q =>
            rw [getV_2] at h ⊢
            by_cases hc : 1 < c.toNat
            · rw [if_pos hc] at h
              exact absurd h (by decide)
            · rw [if_neg hc]
              have hc2 : c = 0 ∨ c = 1 := by
                rcases Nat.lt_or_ge c.toNat 1 with h | h
                · exact .inl (UInt8.toNat_inj.1 (by show c.toNat = 0; omega))
                · exact .inr (UInt8.toNat_inj.1 (by show c.toNat = 1; omega))
              rcases hc2 with rfl | rfl
              · exact ⟨.bool false rfl, i64_0, rfl⟩
              · exact ⟨.bool true rfl, i64_1, rfl⟩
        · by_cases h4 : b = 3
          · subst h4
            cases r with
            | nil => exact absurd h (by decide)
            | cons c q =>
              rw [getV_3] at h ⊢
              unfold getT at h ⊢
              by_cases hc : 64 < c.toNat
              · rw [if_pos hc] at h
                exact absurd h (by decide)
              · rw [if_neg hc] at h ⊢
                by_cases hq : q.length < c.toNat
                · rw [if_pos hq] at h
                  exact absurd h (by decide)
                · rw [if_neg hq]
                  have hs : (bl (q.take c.toNat)).size = c.toNat := by rw [bl_size, List.length_take]; omega
                  refine ⟨.text _ (by omega) rfl, i64_0, ?_⟩
                  show 3 :: c :: q = putV ⟨3, 0, bl (q.take c.toNat)⟩ ++ q.drop c.toNat
                  rw [put_text, hs, bl_list, List.cons_append, List.cons_append, List.take_append_drop]
                  simp
          · have hb : b = 0 := by
              have n1 : b.toNat ≠ 1 := fun e => h1 (UInt8.toNat_inj.1 e)
              have n2 : b.toNat ≠ 2 := fun e => h2 (UInt8.toNat_inj.1 e)
              have n3 : b.toNat ≠ 3 := fun e => h4 (UInt8.toNat_inj.1 e)
              exact UInt8.toNat_inj.1 (by show b.toNat = 0; omega)
            subst hb
            exact ⟨.null rfl, i64_0, rfl⟩
theorem get_cut {v : V3} (h : OkK v) {i : Nat} (hi : i < (putV v).length) : (getV ((putV v).take i)).1 = 5 := by
  cases i with
  | zero => rfl
  | succ i =>
    cases h with
    | null e => subst e; rw [put_null] at hi; simp at hi
    | int n e =>
      subst e
      rw [put_int, List.length_cons, leN_len] at hi
      rw [put_int, List.take_succ_cons, getV_1, if_pos (by rw [List.length_take, leN_len]; omega)]
    | bool b e =>
      subst e
      rw [put_bool] at hi ⊢
      have : i = 0 := by simp at hi; omega
      subst this
      rfl
    | text s hs e =>
      subst e
      rw [put_text] at hi ⊢
      have hl : (UInt8.ofNat s.size).toNat = s.size := UInt8.toNat_ofNat_of_lt' (by show s.size < 256; omega)
      have hz := len_sz s
      cases i with
      | zero => rfl
      | succ i =>
        simp only [List.length_cons] at hi
        rw [List.take_succ_cons, List.take_succ_cons, getV_3, hl]
        unfold getT
        rw [if_neg (by omega), if_pos (by rw [List.length_take]; omega)]
theorem getN_put : ∀ (vs : List V3) (r : List UInt8), (∀ v ∈ vs, OkK v ∧ I64 v.n) → getN vs.length (vs.flatMap putV ++ r) = (0, vs, r)
  | [], r, _ => rfl
  | v :: vs, r, h => by
    have hv := h v List.mem_cons_self
    have ih := getN_put vs r fun w hw => h w (List.mem_cons_of_mem _ hw)
    rw [List.length_cons, List.flatMap_cons, List.append_assoc, getN, get_put hv.1 hv.2, if_neg (by simp), ih, if_neg (by simp)]
theorem getN_cut : ∀ (vs : List V3) (i : Nat), (∀ v ∈ vs, OkK v ∧ I64 v.n) → i < (vs.flatMap putV).length → (getN vs.length ((vs.flatMap putV).take i)).1 = 5
  | [], i, _, hi => by simp at hi
  | v :: vs, i, h, hi => by
    have hv := h v List.mem_cons_self
    rw [List.flatMap_cons, List.length_append] at hi
    rw [List.length_cons, List.flatMap_cons, getN]
    by_cases hp : i < (putV v).length
    · rw [List.take_append_of_le_length (by omega), get_cut hv.1 hp, if_pos (by decide)]
    · have e : (putV v ++ vs.flatMap putV).take i = putV v ++ (vs.flatMap putV).take (i - (putV v).length) := by
        rw [List.take_append, List.take_of_length_le (by omega)]
      have ih := getN_cut vs (i - (putV v).length) (fun w hw => h w (List.mem_cons_of_mem _ hw)) (by omega)
      rw [e, get_put hv.1 hv.2, if_neg (by simp), ih, if_pos (by decide)]
theorem getN_ok : ∀ (n : Nat) (l : List UInt8), (getN n l).1 = 0 → (getN n l).2.1.length = n ∧ (∀ v ∈ (getN n l).2.1, OkK v ∧ I64 v.n) ∧ l = (getN n l).2.1.flatMap putV ++ (getN n l).2.2
  | 0, l, _ => ⟨rfl, (fun _ h => by cases h), rfl⟩
  | n + 1, l, h => by
    rw [getN] at h ⊢
    by_cases h1 : (getV l).1 = 0
    · rw [if_neg (by simpa using h1)] at h ⊢
      by_cases h2 : (getN n (getV l).2.2).1 = 0
      · rw [if_neg (by simpa using h2)] at h ⊢
        obtain ⟨e1, e2, e3⟩ := getN_ok n _ h2
        obtain ⟨o1, o2, o3⟩ := get_ok h1
        refine ⟨by rw [List.length_cons, e1], fun v hv => ?_, ?_⟩
        · rcases List.mem_cons.1 hv with rfl | hv
          · exact ⟨o1, o2⟩
          · exact e2 v hv
        · rw [List.flatMap_cons, List.append_assoc, ← e3, ← o3]
      · rw [if_pos h2] at h
        exact absurd h h2
    · rw [if_pos h1] at h
      exact absurd h h1
theorem all_ok {vs : List V3} : vs.all okV = true ↔ ∀ v ∈ vs, OkK v := by
  rw [List.all_eq_true]
  exact ⟨fun h v hv => ok_cases (h v hv), fun h v hv => ok_of (h v hv)⟩
theorem putLs_ok {vs : List V3} (h : (putLs vs).2 = 0) : vs.length ≤ 255 ∧ (∀ v ∈ vs, OkK v) ∧ (putLs vs).1 = UInt8.ofNat vs.length :: vs.flatMap putV := by
  unfold putLs at h ⊢
  split at h
  · cases h
  · rename_i h1
    split at h
    · rename_i h2
      rw [if_neg h1, if_pos h2]
      exact ⟨by simp at h1; omega, all_ok.1 h2, rfl⟩
    · cases h
theorem len_byte {n : Nat} (h : n ≤ 255) : (UInt8.ofNat n).toNat = n := UInt8.toNat_ofNat_of_lt' (by show n < 256; omega)
theorem back_get {vs : List V3} (h : (putLs vs).2 = 0) (hr : ∀ v ∈ vs, I64 v.n) : getL (putLs vs).1 = (vs, 0) := by
  obtain ⟨h1, h2, h3⟩ := putLs_ok h
  have := getN_put vs [] fun v hv => ⟨h2 v hv, hr v hv⟩
  rw [List.append_nil] at this
  rw [h3, getL, len_byte h1, this]
  rfl
theorem back_more {vs : List V3} (h : (putLs vs).2 = 0) (hr : ∀ v ∈ vs, I64 v.n) (b : UInt8) : getL ((putLs vs).1 ++ [b]) = ([], 6) := by
  obtain ⟨h1, h2, h3⟩ := putLs_ok h
  have := getN_put vs [b] fun v hv => ⟨h2 v hv, hr v hv⟩
  rw [h3, List.cons_append, getL, len_byte h1, this]
  rfl
theorem back_cut {vs : List V3} (h : (putLs vs).2 = 0) (hr : ∀ v ∈ vs, I64 v.n) {i : Nat} (hi : i < (putLs vs).1.length) : getL ((putLs vs).1.take i) = ([], 5) := by
  obtain ⟨h1, h2, h3⟩ := putLs_ok h
  rw [h3] at hi ⊢
  cases i with
  | zero => rfl
  | succ i =>
    have := getN_cut vs i (fun v hv => ⟨h2 v hv, hr v hv⟩) (by simpa using hi)
    rw [List.take_succ_cons, getL, len_byte h1]
    unfold finG
    rw [this, if_pos (by decide)]
theorem get_back {l : List UInt8} (h : (getL l).2 = 0) : putLs (getL l).1 = (l, 0) ∧ ∀ v ∈ (getL l).1, OkK v ∧ I64 v.n := by
  cases l with
  | nil => exact absurd h (by decide)
  | cons b r =>
    have e : getL (b :: r) = finG [] (getN b.toNat r) := rfl
    rw [e] at h ⊢
    unfold finG at h ⊢
    by_cases h1 : (getN b.toNat r).1 = 0
    · rw [if_neg (by simp [h1])] at h ⊢
      by_cases h2 : (getN b.toNat r).2.2 = []
      · rw [if_pos h2, List.nil_append]
        obtain ⟨e1, e2, e3⟩ := getN_ok _ _ h1
        have hb : b.toNat < 256 := b.toNat_lt
        refine ⟨?_, e2⟩
        rw [h2, List.append_nil] at e3
        unfold putLs
        rw [e1, if_neg (by simp; omega), if_pos (all_ok.2 fun v hv => (e2 v hv).1), ← e3]
        simp
      · rw [if_neg h2] at h
        exact absurd h (by decide)
    · rw [if_pos h1] at h
      exact absurd h h1
end Go.Vl
