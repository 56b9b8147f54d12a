/- Keys: plain laws. No condition. -/
import Derived.Test.YtlccnpmhmdoapaaDoorXVA
import Derived.Test.YtlccnpmhmdoapaaDoorXG1
set_option maxRecDepth 20000
namespace Go.Vl
open Go Go.Vc
def leN : Nat → Nat → List UInt8
  | 0, _ => []
  | k + 1, u => UInt8.ofNat (u % 256) :: leN k (u / 256)
theorem leN_len : ∀ k u, (leN k u).length = k
  | 0, _ => rfl
  | k + 1, u => by rw [leN, List.length_cons, leN_len k]
def beN (k u : Nat) : List UInt8 := (leN k u).reverse
theorem beN_len (k u : Nat) : (beN k u).length = k := by rw [beN, List.length_reverse, leN_len]
theorem beN_s (k u : Nat) : beN (k + 1) u = beN k (u / 256) ++ [UInt8.ofNat (u % 256)] := by
  rw [beN, leN, List.reverse_cons]
  rfl
theorem ofNat_lt {a b : Nat} (ha : a < 256) (hb : b < 256) : (UInt8.ofNat a < UInt8.ofNat b) ↔ a < b := by
  rw [UInt8.lt_iff_toNat_lt, UInt8.toNat_ofNat_of_lt' ha, UInt8.toNat_ofNat_of_lt' hb]
theorem ofNat_eq {a b : Nat} (ha : a < 256) (hb : b < 256) : (UInt8.ofNat a = UInt8.ofNat b) ↔ a = b := by
  rw [← UInt8.toNat_inj, UInt8.toNat_ofNat_of_lt' ha, UInt8.toNat_ofNat_of_lt' hb]
theorem beN_inj : ∀ (k u v : Nat), u < 256 ^ k → v < 256 ^ k → beN k u = beN k v → u = v
  | 0, u, v, hu, hv, _ => by simp at hu hv; omega
  | k + 1, u, v, hu, hv, h => by
    rw [beN_s, beN_s] at h
    obtain ⟨h1, h2⟩ := List.append_inj' h rfl
    rw [Nat.pow_succ] at hu hv
    have e1 := beN_inj k (u / 256) (v / 256) (by omega) (by omega) h1
    have e2 : u % 256 = v % 256 := (ofNat_eq (Nat.mod_lt _ (by decide)) (Nat.mod_lt _ (by decide))).1 (by simpa using h2)
    omega
theorem beN_lss : ∀ (k u v : Nat), u < 256 ^ k → v < 256 ^ k → lss (beN k u) (beN k v) = decide (u < v)
  | 0, u, v, hu, hv => by
    simp at hu hv
    subst hu hv
    rfl
  | k + 1, u, v, hu, hv => by
    rw [beN_s, beN_s, lss_app _ _ _ _ (by rw [beN_len, beN_len])]
    rw [Nat.pow_succ] at hu hv
    rw [beN_lss k (u / 256) (v / 256) (by omega) (by omega), lss_c, lss_nn]
    have e1 := beN_inj k (u / 256) (v / 256) (by omega) (by omega)
    have hm := ofNat_lt (Nat.mod_lt u (by decide : 0 < 256)) (Nat.mod_lt v (by decide : 0 < 256))
    by_cases he : u / 256 = v / 256
    · rw [he]
      simp [hm]
      omega
    · have hn : (beN k (u / 256) == beN k (v / 256)) = false := by
        rw [beq_eq_false_iff_ne]
        exact fun h => he (e1 h)
      rw [hn]
      simp
      omega
abbrev esc (s : List UInt8) : List UInt8 := repL 0 [0, 255] s
theorem esc_z (s : List UInt8) : esc (0 :: s) = 0 :: 255 :: esc s := rfl
theorem esc_c {b : UInt8} (h : b ≠ 0) (s : List UInt8) : esc (b :: s) = b :: esc s := by
  show repL _ _ _ = _
  rw [repL_cons, if_neg (by simpa using h)]
  rfl
theorem z_lt {b : UInt8} (h : b ≠ 0) : (0 : UInt8) < b := by
  rw [UInt8.lt_iff_toNat_lt]
  have : b.toNat ≠ 0 := fun e => h (UInt8.toNat_inj.1 (by simpa using e))
  simpa using Nat.pos_of_ne_zero this
theorem not_lt_z (b : UInt8) : ¬ b < 0 := by
  rw [UInt8.lt_iff_toNat_lt]
  simp
theorem esc_lss : ∀ s t : List UInt8, lss (esc s ++ [0, 0]) (esc t ++ [0, 0]) = lss s t
  | [], [] => rfl
  | [], b :: t => by
    show _ = true
    by_cases h : b = 0
    · subst h
      rw [esc_z]
      rfl
    · rw [esc_c h]
      show lss (0 :: [0]) (b :: (esc t ++ [0, 0])) = true
      rw [lss_c, decide_eq_true (z_lt h)]
      rfl
  | a :: s, [] => by
    rw [lss_n]
    by_cases h : a = 0
    · subst h
      rw [esc_z]
      rfl
    · rw [esc_c h]
      show lss (a :: (esc s ++ [0, 0])) (0 :: [0]) = false
      rw [lss_c, decide_eq_false (not_lt_z a), beq_eq_false_iff_ne.2 h]
      rfl
  | a :: s, b :: t => by
    have ih := esc_lss s t
    by_cases ha : a = 0
    · by_cases hb : b = 0
      · subst ha hb
        rw [esc_z, esc_z]
        show lss (0 :: 255 :: (esc s ++ [0, 0])) (0 :: 255 :: (esc t ++ [0, 0])) = _
        rw [lss_c, lss_c, lss_c, ih]
        simp
      · subst ha
        rw [esc_z, esc_c hb]
        show lss (0 :: _) (b :: _) = _
        rw [lss_c, lss_c, decide_eq_true (z_lt hb)]
        simp
    · by_cases hb : b = 0
      · subst hb
        rw [esc_z, esc_c ha]
        show lss (a :: _) (0 :: _) = _
        rw [lss_c, lss_c, decide_eq_false (not_lt_z a), beq_eq_false_iff_ne.2 ha]
        simp
      · rw [esc_c ha, esc_c hb]
        show lss (a :: (esc s ++ [0, 0])) (b :: (esc t ++ [0, 0])) = _
        rw [lss_c, lss_c, ih]
theorem esc_pre : ∀ s t : List UInt8, (esc s ++ [0, 0]) <+: (esc t ++ [0, 0]) → s = t
  | [], [], _ => rfl
  | [], b :: t, h => by
    by_cases hb : b = 0
    · subst hb
      rw [esc_z] at h
      have h2 : ([0, 0] : List UInt8) <+: 0 :: 255 :: (esc t ++ [0, 0]) := h
      simp [List.cons_prefix_cons] at h2
    · rw [esc_c hb] at h
      have h2 : ([0, 0] : List UInt8) <+: b :: (esc t ++ [0, 0]) := h
      rw [List.cons_prefix_cons] at h2
      exact absurd h2.1.symm hb
  | a :: s, [], h => by
    by_cases ha : a = 0
    · subst ha
      rw [esc_z] at h
      have h2 : 0 :: 255 :: (esc s ++ [0, 0]) <+: ([0, 0] : List UInt8) := h
      simp [List.cons_prefix_cons] at h2
    · rw [esc_c ha] at h
      have h2 : a :: (esc s ++ [0, 0]) <+: ([0, 0] : List UInt8) := h
      rw [List.cons_prefix_cons] at h2
      exact absurd h2.1 ha
  | a :: s, b :: t, h => by
    by_cases ha : a = 0
    · by_cases hb : b = 0
      · subst ha hb
        rw [esc_z, esc_z] at h
        have h2 : 0 :: 255 :: (esc s ++ [0, 0]) <+: 0 :: 255 :: (esc t ++ [0, 0]) := h
        rw [List.cons_prefix_cons, List.cons_prefix_cons] at h2
        rw [esc_pre s t h2.2.2]
      · subst ha
        rw [esc_z, esc_c hb] at h
        have h2 : 0 :: 255 :: (esc s ++ [0, 0]) <+: b :: (esc t ++ [0, 0]) := h
        rw [List.cons_prefix_cons] at h2
        exact absurd h2.1.symm hb
    · by_cases hb : b = 0
      · subst hb
        rw [esc_z, esc_c ha] at h
        have h2 : a :: (esc s ++ [0, 0]) <+: 0 :: 255 :: (esc t ++ [0, 0]) := h
        rw [List.cons_prefix_cons] at h2
        exact absurd h2.1 ha
      · rw [esc_c ha, esc_c hb] at h
        have h2 : a :: (esc s ++ [0, 0]) <+: b :: (esc t ++ [0, 0]) := h
        rw [List.cons_prefix_cons] at h2
        rw [h2.1, esc_pre s t h2.2]
theorem esc_len (s : List UInt8) : (esc s).length ≤ 2 * s.length := repL_len 0 (by decide) s
def biasN (n : Int) : Nat := (n + 9223372036854775808).toNat
def keyP (v : V3) : List UInt8 := if v.k == 1 then beN 8 (biasN v.n) else if v.k == 2 then [UInt8.ofNat v.n.toNat] else if v.k == 3 then esc v.s.data.toList ++ [0, 0] else []
def keyL (v : V3) : List UInt8 := UInt8.ofNat v.k.toNat :: keyP v
theorem key_null : keyL ⟨0, 0, e0⟩ = [0] := rfl
theorem key_int (n : Int) : keyL ⟨1, n, e0⟩ = 1 :: beN 8 (biasN n) := rfl
theorem key_bool (b : Bool) : keyL ⟨2, if b then 1 else 0, e0⟩ = [2, if b then 1 else 0] := by cases b <;> rfl
theorem key_text (s : ByteArray) : keyL ⟨3, 0, s⟩ = 3 :: (esc s.data.toList ++ [0, 0]) := rfl
theorem p256 : (256 : Nat) ^ 8 = 18446744073709551616 := by decide
theorem bias_lt {n : Int} (h : I64 n) : biasN n < 256 ^ 8 := by
  rw [p256]
  unfold I64 at h
  unfold biasN
  omega
theorem bias_lss {m n : Int} (hm : I64 m) (hn : I64 n) : (biasN m < biasN n) ↔ m < n := by
  unfold I64 at hm hn
  unfold biasN
  omega
theorem bias_inj {m n : Int} (hm : I64 m) (hn : I64 n) (h : biasN m = biasN n) : m = n := by
  unfold I64 at hm hn
  unfold biasN at h
  omega
theorem key_len {v : V3} (h : OkK v) : (keyL v).length ≤ 131 := by
  cases h with
  | null h => subst h; rw [key_null]; decide
  | int n h => subst h; rw [key_int, List.length_cons, beN_len]; decide
  | bool b h => subst h; rw [key_bool]; simp
  | text s hs h =>
    subst h
    rw [key_text]
    have := esc_len s.data.toList
    rw [len_sz] at this
    simp only [List.length_cons, List.length_append, List.length_nil]
    omega
theorem key_pre {a b : V3} (ha : OkK a) (hb : OkK b) (ra : I64 a.n) (rb : I64 b.n) (h : keyL a <+: keyL b) : a = b := by
  cases ha with
  | null e => subst e; cases hb with
    | null e => rw [e]
    | int n e => subst e; rw [key_null, key_int, List.cons_prefix_cons] at h; exact absurd h.1 (by decide)
    | bool b e => subst e; rw [key_null, key_bool, List.cons_prefix_cons] at h; exact absurd h.1 (by decide)
    | text s hs e => subst e; rw [key_null, key_text, List.cons_prefix_cons] at h; exact absurd h.1 (by decide)
  | int m e => subst e; cases hb with
    | null e => subst e; rw [key_null, key_int, List.cons_prefix_cons] at h; exact absurd h.1 (by decide)
    | int n e =>
      subst e
      rw [key_int, key_int, List.cons_prefix_cons] at h
      have h1 := h.2.eq_of_length (by rw [beN_len, beN_len])
      have e2 : m = n := bias_inj ra rb (beN_inj 8 _ _ (bias_lt ra) (bias_lt rb) h1)
      rw [e2]
    | bool b e => subst e; rw [key_int, key_bool, List.cons_prefix_cons] at h; exact absurd h.1 (by decide)
    | text s hs e => subst e; rw [key_int, key_text, List.cons_prefix_cons] at h; exact absurd h.1 (by decide)
  | bool c e => subst e; cases hb with
    | null e => subst e; rw [key_null, key_bool, List.cons_prefix_cons] at h; exact absurd h.1 (by decide)
    | int n e => subst e; rw [key_int, key_bool, List.cons_prefix_cons] at h; exact absurd h.1 (by decide)
    | bool d e =>
      subst e
      rw [key_bool, key_bool] at h
      cases c <;> cases d <;> first | rfl | (simp [List.cons_prefix_cons] at h)
    | text s hs e => subst e; rw [key_bool, key_text, List.cons_prefix_cons] at h; exact absurd h.1 (by decide)
  | text s hs e => subst e; cases hb with
    | null e => subst e; rw [key_null, key_text, List.cons_prefix_cons] at h; exact absurd h.1 (by decide)
    | int n e => subst e; rw [key_int, key_text, List.cons_prefix_cons] at h; exact absurd h.1 (by decide)
    | bool b e => subst e; rw [key_bool, key_text, List.cons_prefix_cons] at h; exact absurd h.1 (by decide)
    | text t ht e =>
      subst e
      rw [key_text, key_text, List.cons_prefix_cons] at h
      rw [list_inj (esc_pre _ _ h.2)]
theorem key_below {a b : V3} (ha : OkK a) (hb : OkK b) (ra : I64 a.n) (rb : I64 b.n) (h : below a b) : lss (keyL a) (keyL b) = true := by
  cases ha with
  | null e => subst e; cases hb with
    | null e => subst e; exact absurd h (below_irrefl _)
    | int n e => subst e; rfl
    | bool b e => subst e; cases b <;> rfl
    | text s hs e => subst e; rfl
  | int m e => subst e; cases hb with
    | null e => subst e; unfold below at h; simp at h
    | int n e =>
      subst e
      rw [key_int, key_int, lss_c, beN_lss 8 _ _ (bias_lt ra) (bias_lt rb)]
      unfold below at h
      rw [lss_irrefl] at h
      have : m < n := by simpa using h
      rw [decide_eq_true ((bias_lss ra rb).2 this)]
      simp
    | bool b e => subst e; cases b <;> rfl
    | text s hs e => subst e; rfl
  | bool c e => subst e; cases hb with
    | null e => subst e; unfold below at h; simp at h
    | int n e => subst e; unfold below at h; simp at h
    | bool d e =>
      subst e
      unfold below at h
      cases c <;> cases d <;> first | rfl | (simp [lss_irrefl] at h)
    | text s hs e => subst e; cases c <;> rfl
  | text s hs e => subst e; cases hb with
    | null e => subst e; unfold below at h; simp at h
    | int n e => subst e; unfold below at h; simp at h
    | bool b e => subst e; unfold below at h; simp at h
    | text t ht e =>
      subst e
      rw [key_text, key_text, lss_c, esc_lss]
      unfold below at h
      simpa using h
theorem key_cmp {a b : V3} (ha : OkK a) (hb : OkK b) (ra : I64 a.n) (rb : I64 b.n) : (if lss (keyL b) (keyL a) then 1 else if lss (keyL a) (keyL b) then -1 else (0 : Int)) = cmpV a b := by
  rcases tri_V a b with h | h | h
  · have h1 := key_below ha hb ra rb h
    rw [cmp_lt h, lss_asym _ _ h1, h1]
    rfl
  · rw [h, cmp_eq, lss_irrefl]
    rfl
  · have h1 := key_below hb ha rb ra h
    rw [cmp_gt h, h1]
    rfl
end Go.Vl
