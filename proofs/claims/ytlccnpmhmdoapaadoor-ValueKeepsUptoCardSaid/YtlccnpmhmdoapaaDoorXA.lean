/- value: what may be, comparison, bytes of numbers. No condition. -/
import Derived.Test.YtlccnpmhmdoapaaDoorXSH
import Derived.Test.YtlccnpmhmdoapaaDoorXG4
set_option maxRecDepth 20000
namespace Go.Proofs.YtlccnpmhmdoapaaDoor
open Go Go.Vc
open Go.Vl
def intC (n : Int) : List Value := [.int .i64 n]
theorem intC_len (n : Int) : (intC n).length = 1 := rfl
theorem int_get {xs : List Int} {i : Nat} (h : i < xs.length) : xs[i]? = some (xs.getD i 0) := by simp [List.getElem?_eq_getElem h]
theorem u8_get {l : List UInt8} {i : Nat} (h : i < l.length) : l[i]? = some (l.getD i 0) := by simp [List.getElem?_eq_getElem h]
def orF : List Int → Int
  | [] => 0
  | x :: xs => if x != 0 then x else orF xs
theorem orF_drop {xs : List Int} {i : Nat} (h : i < xs.length) : orF (xs.drop i) = if xs.getD i 0 != 0 then xs.getD i 0 else orF (xs.drop (i + 1)) := by
  rw [List.drop_eq_getElem_cons h, orF]
  simp [h]
theorem orF_three (x y z : Int) : orF [x, y, z] = if x != 0 then x else if y != 0 then y else z := by
  unfold orF orF orF orF
  by_cases h : z = 0 <;> simp [h]
def byteN (u j : Nat) : UInt8 := UInt8.ofNat (u / 256 ^ j % 256)
theorem leN_map : ∀ k u, leN k u = (List.range k).map (byteN u)
  | 0, _ => rfl
  | k + 1, u => by
    rw [leN, leN_map k, List.range_succ_eq_map, List.map_cons, List.map_map]
    refine congr (congrArg _ ?_) (List.map_congr_left fun j _ => ?_)
    · simp [byteN]
    · show UInt8.ofNat (u / 256 / 256 ^ j % 256) = UInt8.ofNat (u / 256 ^ (j + 1) % 256)
      rw [Nat.div_div_eq_div_mul, Nat.pow_succ, Nat.mul_comm 256]
def eightL (u : Nat) (high : Bool) : List UInt8 := if high then beN 8 u else leN 8 u
def eightJ (high : Bool) (j : Nat) : Nat := if high then 7 - j else j
theorem eight_map (u : Nat) (high : Bool) : (List.range 8).map (fun j => byteN u (eightJ high j)) = eightL u high := by
  cases high
  · exact (leN_map 8 u).symm
  · show _ = (leN 8 u).reverse
    rw [leN_map]
    rfl
theorem eight_at {u j : Nat} (hu : u < 18446744073709551616) (hj : j < 8) : IntKind.u8.wrap (Int.fdiv (u : Int) (2 ^ (min ((8 * (j : Int)).toNat) (IntKind.u64.bits)))) = ((byteN u j).toNat : Int) := by
  have e : (8 * (j : Int)).toNat = 8 * j := by omega
  have e2 : min (8 * j) (IntKind.u64.bits) = 8 * j := by show min (8 * j) 64 = 8 * j; omega
  have h3 : (byteN u j).toNat = u / 256 ^ j % 256 := UInt8.toNat_ofNat_of_lt' (Nat.mod_lt _ (by decide : 0 < 256))
  rw [e, e2, h3, wrap_u8]
  have hp : (2 : Int) ^ (8 * j) = ((256 ^ j : Nat) : Int) := by rw [Int.natCast_pow, Int.pow_mul]; rfl
  rw [hp, Int.fdiv_eq_ediv_of_nonneg _ (Int.natCast_nonneg _)]
  norm_cast
theorem range_next (f : Nat → UInt8) (i : Nat) : (List.range (i + 1)).map f = (List.range i).map f ++ [f i] := by rw [List.range_succ, List.map_append]; rfl
def numB (l : List UInt8) (high : Bool) : Nat := if high then leV l.reverse else leV l
theorem leV_app : ∀ (l : List UInt8) (b : UInt8), leV (l ++ [b]) = leV l + 256 ^ l.length * b.toNat
  | [], b => by simp [leV]
  | c :: l, b => by
    rw [List.cons_append, leV, leV_app l b, leV, List.length_cons, Nat.pow_succ, Nat.mul_add]
    rw [← Nat.mul_assoc, Nat.mul_comm 256 (256 ^ l.length)]
    omega
theorem take_snoc {l : List UInt8} {i : Nat} (h : i < l.length) : l.take (i + 1) = l.take i ++ [l.getD i 0] := by
  rw [List.take_add_one]
  simp [h]
theorem numB_lt {l : List UInt8} {i : Nat} (high : Bool) (h : i ≤ l.length) : numB (l.take i) high < 256 ^ i := by
  cases high
  · have := leV_lt (l.take i)
    rwa [List.length_take, Nat.min_eq_left h] at this
  · have := leV_lt (l.take i).reverse
    rwa [List.length_reverse, List.length_take, Nat.min_eq_left h] at this
theorem p8 {i : Nat} (h : i ≤ 8) : 256 ^ i ≤ 18446744073709551616 := by
  have := Nat.pow_le_pow_right (by decide : 0 < 256) h
  rwa [p256] at this
theorem num_high {l : List UInt8} {i : Nat} (h : i < l.length) (h8 : l.length ≤ 8) : IntKind.u64.wrap ((BitVec.ofInt 64 (IntKind.u64.wrap (((numB (l.take i) true : Nat) : Int) * 2 ^ (min (8 : Int).toNat IntKind.u64.bits))) ||| BitVec.ofInt 64 ((l.getD i 0).toNat : Int)).toNat : Int) = ((numB (l.take (i + 1)) true : Nat) : Int) := by
  have hb : (l.getD i 0).toNat < 256 := UInt8.toNat_lt _
  have hu := numB_lt (l := l) true (Nat.le_of_lt h)
  have hp := p8 (i := i) (by omega)
  have h7 : 256 ^ i ≤ 256 ^ 7 := Nat.pow_le_pow_right (by decide) (by omega)
  have h77 : 256 ^ 7 = 72057594037927936 := by decide
  have e2 : min (8 : Int).toNat IntKind.u64.bits = 8 := by decide
  have e1 : IntKind.u64.wrap (((numB (l.take i) true : Nat) : Int) * 2 ^ 8) = ((2 ^ 8 * numB (l.take i) true : Nat) : Int) := by
    rw [wrap_u64]
    have : (2 : Int) ^ 8 = 256 := by decide
    have h2 : (2 : Nat) ^ 8 = 256 := by decide
    rw [this, h2]
    omega
  have h2 : (2 : Nat) ^ 8 = 256 := by decide
  have h64 : (2 : Nat) ^ 64 = 18446744073709551616 := by decide
  rw [e2, e1, or64 (by rw [h2, h64]; omega) (by rw [h64]; omega), or_add 8 _ (by rw [h2]; exact hb), take_snoc h]
  show _ = ((leV ((l.take i ++ [l.getD i 0]).reverse) : Nat) : Int)
  rw [List.reverse_append]
  show _ = ((leV (l.getD i 0 :: (l.take i).reverse) : Nat) : Int)
  rw [leV, h2]
  show ((256 * leV ((l.take i).reverse) + _ : Nat) : Int) = _
  omega
theorem num_low {l : List UInt8} {i : Nat} (h : i < l.length) (h8 : l.length ≤ 8) : IntKind.u64.wrap ((BitVec.ofInt 64 ((numB (l.take i) false : Nat) : Int) ||| BitVec.ofInt 64 (IntKind.u64.wrap (((l.getD i 0).toNat : Int) * 2 ^ (min (8 * (i : Int)).toNat IntKind.u64.bits)))).toNat : Int) = ((numB (l.take (i + 1)) false : Nat) : Int) := by
  have hb : (l.getD i 0).toNat < 256 := UInt8.toNat_lt _
  have hu := numB_lt (l := l) false (Nat.le_of_lt h)
  have hp := p8 (i := i + 1) (by omega)
  have e2 : min (8 * (i : Int)).toNat IntKind.u64.bits = 8 * i := by show min (8 * (i : Int)).toNat 64 = 8 * i; omega
  have h256 : 2 ^ (8 * i) = 256 ^ i := by rw [Nat.pow_mul]
  have hm : 2 ^ (8 * i) * (l.getD i 0).toNat < 18446744073709551616 := by
    rw [h256]
    have h1 : 256 ^ i * (l.getD i 0).toNat < 256 ^ i * 256 := Nat.mul_lt_mul_of_pos_left hb (Nat.pow_pos (by decide))
    rw [Nat.pow_succ] at hp
    omega
  have e1 : IntKind.u64.wrap (((l.getD i 0).toNat : Int) * 2 ^ (8 * i)) = ((2 ^ (8 * i) * (l.getD i 0).toNat : Nat) : Int) := by
    rw [wrap_u64]
    have : ((l.getD i 0).toNat : Int) * 2 ^ (8 * i) = ((2 ^ (8 * i) * (l.getD i 0).toNat : Nat) : Int) := by rw [Int.mul_comm]; push_cast; rfl
    rw [this]
    omega
  have h64 : (2 : Nat) ^ 64 = 18446744073709551616 := by decide
  have hu2 : numB (l.take i) false < 18446744073709551616 := by have := p8 (i := i) (by omega); omega
  rw [e2, e1, or64 (by rw [h64]; exact hu2) (by rw [h64]; exact hm), Nat.or_comm, or_add (8 * i) _ (by rw [h256]; exact hu), take_snoc h, h256]
  show _ = ((leV (l.take i ++ [l.getD i 0]) : Nat) : Int)
  rw [leV_app, List.length_take, Nat.min_eq_left (Nat.le_of_lt h)]
  show ((_ + leV (l.take i) : Nat) : Int) = _
  omega
theorem c_cmp_isNaN_int (a : Int) : CallTy Tryd.prog f_cmp_isNaN_int [.is (.int .i64 a)] (.is (.bool false)) :=
  CallTy.of (fn := Tryd.f43) Tryd.func43 (n := 6) rfl rfl rfl (fun _ _ => by kernel_rfl) fun E W => by
  repeat refine J.seq ?_
  refine J.plain ?_
  refine JO.t (ob_assign rfl) rfl ?_
  refine JO.nil ?_
  repeat (first | refine JX.next ?_ | refine JX.normal_block ?_)
  refine J.sel [0] (.cons rfl .nil) ?_
  repeat refine J.seq ?_
  refine J.plain ?_
  refine JO.t (ob_move rfl) rfl ?_
  refine JO.t (ob_move rfl) rfl ?_
  refine JO.t (ob_neq rfl rfl) rfl ?_
  refine JO.t (ob_assign rfl) rfl ?_
  refine JO.nil ?_
  repeat (first | refine JX.next ?_ | refine JX.normal_block ?_)
  refine J.sel [2] (.cons rfl .nil) ?_
  repeat refine J.seq ?_
  refine J.ret ?_
  repeat (first | refine JX.ret_pass ?_ | refine JX.ret_block ?_)
  exact JX.ret1is rfl rfl (by simp)
theorem c_cmp_isNaN_int64 (a : Int) : CallTy Tryd.prog f_cmp_isNaN_int64 [.is (.int .i64 a)] (.is (.bool false)) :=
  CallTy.of (fn := Tryd.f44) Tryd.func44 (n := 6) rfl rfl rfl (fun _ _ => by kernel_rfl) fun E W => by
  repeat refine J.seq ?_
  refine J.plain ?_
  refine JO.t (ob_assign rfl) rfl ?_
  refine JO.nil ?_
  repeat (first | refine JX.next ?_ | refine JX.normal_block ?_)
  refine J.sel [0] (.cons rfl .nil) ?_
  repeat refine J.seq ?_
  refine J.plain ?_
  refine JO.t (ob_move rfl) rfl ?_
  refine JO.t (ob_move rfl) rfl ?_
  refine JO.t (ob_neq rfl rfl) rfl ?_
  refine JO.t (ob_assign rfl) rfl ?_
  refine JO.nil ?_
  repeat (first | refine JX.next ?_ | refine JX.normal_block ?_)
  refine J.sel [2] (.cons rfl .nil) ?_
  repeat refine J.seq ?_
  refine J.ret ?_
  repeat (first | refine JX.ret_pass ?_ | refine JX.ret_block ?_)
  exact JX.ret1is rfl rfl (by simp)
theorem c_cmp_isNaN_string (a : ByteArray) : CallTy Tryd.prog f_cmp_isNaN_string [.is (.string a)] (.is (.bool false)) :=
  CallTy.of (fn := Tryd.f45) Tryd.func45 (n := 6) rfl rfl rfl (fun _ _ => by kernel_rfl) fun E W => by
  repeat refine J.seq ?_
  refine J.plain ?_
  refine JO.t (ob_assign rfl) rfl ?_
  refine JO.nil ?_
  repeat (first | refine JX.next ?_ | refine JX.normal_block ?_)
  refine J.sel [0] (.cons rfl .nil) ?_
  repeat refine J.seq ?_
  refine J.plain ?_
  refine JO.t (ob_move rfl) rfl ?_
  refine JO.t (ob_move rfl) rfl ?_
  refine JO.t (ob_sneq rfl rfl) rfl ?_
  refine JO.t (ob_assign rfl) rfl ?_
  refine JO.nil ?_
  repeat (first | refine JX.next ?_ | refine JX.normal_block ?_)
  refine J.sel [2] (.cons rfl .nil) ?_
  repeat refine J.seq ?_
  refine J.ret ?_
  repeat (first | refine JX.ret_pass ?_ | refine JX.ret_block ?_)
  exact JX.ret1is rfl rfl (by rw [seq_self]; rfl)
theorem c_cmp_Compare_int (a b : Int) : CallTy Tryd.prog f_cmp_Compare_int [.is (.int .i64 a), .is (.int .i64 b)] (.is (.int .i64 (cI a b))) :=
  CallTy.of (fn := Tryd.f32) Tryd.func32 (n := 20) rfl rfl rfl (fun _ _ => by kernel_rfl) fun E W => by
  repeat refine J.seq ?_
  refine J.plain ?_
  refine JO.t (ob_assign rfl) rfl ?_
  refine JO.nil ?_
  repeat (first | refine JX.next ?_ | refine JX.normal_block ?_)
  refine J.sel [0, 1] (.cons rfl (.cons rfl .nil)) ?_
  repeat refine J.seq ?_
  refine J.plain ?_
  refine JO.t (ob_move rfl) rfl ?_
  refine JO.t (ob_call rfl (c_cmp_isNaN_int _) (.one rfl .nil)) rfl ?_
  refine JO.t (ob_assign rfl) rfl ?_
  refine JO.nil ?_
  repeat (first | refine JX.next ?_ | refine JX.normal_block ?_)
  refine J.sel [0, 1, 5] (.cons rfl (.cons rfl (.cons rfl .nil))) ?_
  repeat refine J.seq ?_
  refine J.plain ?_
  refine JO.t (ob_move rfl) rfl ?_
  refine JO.t (ob_call rfl (c_cmp_isNaN_int _) (.one rfl .nil)) rfl ?_
  refine JO.t (ob_assign rfl) rfl ?_
  refine JO.nil ?_
  repeat (first | refine JX.next ?_ | refine JX.normal_block ?_)
  refine J.sel [0, 1, 5, 6] (.cons rfl (.cons rfl (.cons rfl (.cons rfl .nil)))) ?_
  repeat refine J.seq ?_
  refine J.plain ?_
  refine JO.t (ob_move rfl) rfl ?_
  refine JO.nil ?_
  repeat (first | refine JX.next ?_ | refine JX.normal_block ?_)
  refine J.sel [0, 1, 6, 11] (.cons rfl (.cons rfl (.cons rfl (.cons rfl .nil)))) ?_
  repeat refine J.seq ?_
  refine J.cond rfl (fun ht11 => ?_) (fun ht11 => ?_)
  ·
    try simp only [decide_eq_true_eq, decide_eq_false_iff_not] at ht11
    repeat refine J.seq ?_
    refine J.plain ?_
    refine JO.t (ob_move rfl) rfl ?_
    refine JO.nil ?_
    repeat (first | refine JX.next ?_ | refine JX.normal_block ?_)
    refine J.sel [12] (.cons rfl .nil) ?_
    repeat refine J.seq ?_
    refine J.cond rfl (fun ht12 => ?_) (fun ht12 => ?_)
    ·
      try simp only [decide_eq_true_eq, decide_eq_false_iff_not] at ht12
      repeat refine J.seq ?_
      refine J.plain ?_
      refine JO.t (ob_assign rfl) rfl ?_
      refine JO.nil ?_
      repeat (first | refine JX.next ?_ | refine JX.normal_block ?_)
      refine J.sel [4] (.cons rfl .nil) ?_
      repeat refine J.seq ?_
      refine J.ret ?_
      repeat (first | refine JX.ret_pass ?_ | refine JX.ret_block ?_)
      exact JX.ret1is rfl rfl (by simp at ht11)
    ·
      try simp only [decide_eq_true_eq, decide_eq_false_iff_not] at ht12
      refine J.skip ?_
      repeat (first | refine JX.next ?_ | refine JX.normal_block ?_)
      repeat refine J.seq ?_
      refine J.plain ?_
      refine JO.t (ob_assign rfl) rfl ?_
      refine JO.nil ?_
      repeat (first | refine JX.next ?_ | refine JX.normal_block ?_)
      refine J.sel [4] (.cons rfl .nil) ?_
      repeat refine J.seq ?_
      refine J.ret ?_
      repeat (first | refine JX.ret_pass ?_ | refine JX.ret_block ?_)
      exact JX.ret1is rfl rfl (by simp at ht11)
  ·
    try simp only [decide_eq_true_eq, decide_eq_false_iff_not] at ht11
    refine J.skip ?_
    repeat (first | refine JX.next ?_ | refine JX.normal_block ?_)
    repeat refine J.seq ?_
    refine J.plain ?_
    refine JO.t (ob_move rfl) rfl ?_
    refine JO.nil ?_
    repeat (first | refine JX.next ?_ | refine JX.normal_block ?_)
    refine J.sel [0, 1, 13] (.cons rfl (.cons rfl (.cons rfl .nil))) ?_
    repeat refine J.seq ?_
    refine J.cond rfl (fun ht13 => ?_) (fun ht13 => ?_)
    ·
      try simp only [decide_eq_true_eq, decide_eq_false_iff_not] at ht13
      repeat refine J.seq ?_
      refine J.plain ?_
      refine JO.t (ob_assign rfl) rfl ?_
      refine JO.nil ?_
      repeat (first | refine JX.next ?_ | refine JX.normal_block ?_)
      refine J.sel [4] (.cons rfl .nil) ?_
      repeat refine J.seq ?_
      refine J.ret ?_
      repeat (first | refine JX.ret_pass ?_ | refine JX.ret_block ?_)
      exact JX.ret1is rfl rfl (by simp at ht13)
    ·
      try simp only [decide_eq_true_eq, decide_eq_false_iff_not] at ht13
      refine J.skip ?_
      repeat (first | refine JX.next ?_ | refine JX.normal_block ?_)
      repeat refine J.seq ?_
      refine J.plain ?_
      refine JO.t (ob_move rfl) rfl ?_
      refine JO.t (ob_move rfl) rfl ?_
      refine JO.t (ob_lss rfl rfl) rfl ?_
      refine JO.nil ?_
      repeat (first | refine JX.next ?_ | refine JX.normal_block ?_)
      refine J.sel [0, 1, 16] (.cons rfl (.cons rfl (.cons rfl .nil))) ?_
      repeat refine J.seq ?_
      refine J.cond rfl (fun ht16 => ?_) (fun ht16 => ?_)
      ·
        try simp only [decide_eq_true_eq, decide_eq_false_iff_not] at ht16
        repeat refine J.seq ?_
        refine J.plain ?_
        refine JO.t (ob_assign rfl) rfl ?_
        refine JO.nil ?_
        repeat (first | refine JX.next ?_ | refine JX.normal_block ?_)
        refine J.sel [4] (.cons rfl .nil) ?_
        repeat refine J.seq ?_
        refine J.ret ?_
        repeat (first | refine JX.ret_pass ?_ | refine JX.ret_block ?_)
        exact JX.ret1is rfl rfl (by unfold cI; rw [if_pos (by simpa using ht16)])
      ·
        try simp only [decide_eq_true_eq, decide_eq_false_iff_not] at ht16
        refine J.skip ?_
        repeat (first | refine JX.next ?_ | refine JX.normal_block ?_)
        repeat refine J.seq ?_
        refine J.plain ?_
        refine JO.t (ob_move rfl) rfl ?_
        refine JO.t (ob_move rfl) rfl ?_
        refine JO.t (ob_gtr rfl rfl) rfl ?_
        refine JO.nil ?_
        repeat (first | refine JX.next ?_ | refine JX.normal_block ?_)
        refine J.sel [19] (.cons rfl .nil) ?_
        repeat refine J.seq ?_
        refine J.cond rfl (fun ht19 => ?_) (fun ht19 => ?_)
        ·
          try simp only [decide_eq_true_eq, decide_eq_false_iff_not] at ht19
          repeat refine J.seq ?_
          refine J.plain ?_
          refine JO.t (ob_assign rfl) rfl ?_
          refine JO.nil ?_
          repeat (first | refine JX.next ?_ | refine JX.normal_block ?_)
          refine J.sel [4] (.cons rfl .nil) ?_
          repeat refine J.seq ?_
          refine J.ret ?_
          repeat (first | refine JX.ret_pass ?_ | refine JX.ret_block ?_)
          exact JX.ret1is rfl rfl (by unfold cI; rw [if_neg (by simpa using ht16), if_pos (by simpa using ht19)])
        ·
          try simp only [decide_eq_true_eq, decide_eq_false_iff_not] at ht19
          refine J.skip ?_
          repeat (first | refine JX.next ?_ | refine JX.normal_block ?_)
          repeat refine J.seq ?_
          refine J.plain ?_
          refine JO.t (ob_assign rfl) rfl ?_
          refine JO.nil ?_
          repeat (first | refine JX.next ?_ | refine JX.normal_block ?_)
          refine J.sel [4] (.cons rfl .nil) ?_
          repeat refine J.seq ?_
          refine J.ret ?_
          repeat (first | refine JX.ret_pass ?_ | refine JX.ret_block ?_)
          exact JX.ret1is rfl rfl (by unfold cI; rw [if_neg (by simpa using ht16), if_neg (by simpa using ht19)])
theorem c_cmp_Compare_int64 (a b : Int) : CallTy Tryd.prog f_cmp_Compare_int64 [.is (.int .i64 a), .is (.int .i64 b)] (.is (.int .i64 (cI a b))) :=
  CallTy.of (fn := Tryd.f33) Tryd.func33 (n := 20) rfl rfl rfl (fun _ _ => by kernel_rfl) fun E W => by
  repeat refine J.seq ?_
  refine J.plain ?_
  refine JO.t (ob_assign rfl) rfl ?_
  refine JO.nil ?_
  repeat (first | refine JX.next ?_ | refine JX.normal_block ?_)
  refine J.sel [0, 1] (.cons rfl (.cons rfl .nil)) ?_
  repeat refine J.seq ?_
  refine J.plain ?_
  refine JO.t (ob_move rfl) rfl ?_
  refine JO.t (ob_call rfl (c_cmp_isNaN_int64 _) (.one rfl .nil)) rfl ?_
  refine JO.t (ob_assign rfl) rfl ?_
  refine JO.nil ?_
  repeat (first | refine JX.next ?_ | refine JX.normal_block ?_)
  refine J.sel [0, 1, 5] (.cons rfl (.cons rfl (.cons rfl .nil))) ?_
  repeat refine J.seq ?_
  refine J.plain ?_
  refine JO.t (ob_move rfl) rfl ?_
  refine JO.t (ob_call rfl (c_cmp_isNaN_int64 _) (.one rfl .nil)) rfl ?_
  refine JO.t (ob_assign rfl) rfl ?_
  refine JO.nil ?_
  repeat (first | refine JX.next ?_ | refine JX.normal_block ?_)
  refine J.sel [0, 1, 5, 6] (.cons rfl (.cons rfl (.cons rfl (.cons rfl .nil)))) ?_
  repeat refine J.seq ?_
  refine J.plain ?_
  refine JO.t (ob_move rfl) rfl ?_
  refine JO.nil ?_
  repeat (first | refine JX.next ?_ | refine JX.normal_block ?_)
  refine J.sel [0, 1, 6, 11] (.cons rfl (.cons rfl (.cons rfl (.cons rfl .nil)))) ?_
  repeat refine J.seq ?_
  refine J.cond rfl (fun ht11 => ?_) (fun ht11 => ?_)
  ·
    try simp only [decide_eq_true_eq, decide_eq_false_iff_not] at ht11
    repeat refine J.seq ?_
    refine J.plain ?_
    refine JO.t (ob_move rfl) rfl ?_
    refine JO.nil ?_
    repeat (first | refine JX.next ?_ | refine JX.normal_block ?_)
    refine J.sel [12] (.cons rfl .nil) ?_
    repeat refine J.seq ?_
    refine J.cond rfl (fun ht12 => ?_) (fun ht12 => ?_)
    ·
      try simp only [decide_eq_true_eq, decide_eq_false_iff_not] at ht12
      repeat refine J.seq ?_
      refine J.plain ?_
      refine JO.t (ob_assign rfl) rfl ?_
      refine JO.nil ?_
      repeat (first | refine JX.next ?_ | refine JX.normal_block ?_)
      refine J.sel [4] (.cons rfl .nil) ?_
      repeat refine J.seq ?_
      refine J.ret ?_
      repeat (first | refine JX.ret_pass ?_ | refine JX.ret_block ?_)
      exact JX.ret1is rfl rfl (by simp at ht11)
    ·
      try simp only [decide_eq_true_eq, decide_eq_false_iff_not] at ht12
      refine J.skip ?_
      repeat (first | refine JX.next ?_ | refine JX.normal_block ?_)
      repeat refine J.seq ?_
      refine J.plain ?_
      refine JO.t (ob_assign rfl) rfl ?_
      refine JO.nil ?_
      repeat (first | refine JX.next ?_ | refine JX.normal_block ?_)
      refine J.sel [4] (.cons rfl .nil) ?_
      repeat refine J.seq ?_
      refine J.ret ?_
      repeat (first | refine JX.ret_pass ?_ | refine JX.ret_block ?_)
      exact JX.ret1is rfl rfl (by simp at ht11)
  ·
    try simp only [decide_eq_true_eq, decide_eq_false_iff_not] at ht11
    refine J.skip ?_
    repeat (first | refine JX.next ?_ | refine JX.normal_block ?_)
    repeat refine J.seq ?_
    refine J.plain ?_
    refine JO.t (ob_move rfl) rfl ?_
    refine JO.nil ?_
    repeat (first | refine JX.next ?_ | refine JX.normal_block ?_)
    refine J.sel [0, 1, 13] (.cons rfl (.cons rfl (.cons rfl .nil))) ?_
    repeat refine J.seq ?_
    refine J.cond rfl (fun ht13 => ?_) (fun ht13 => ?_)
    ·
      try simp only [decide_eq_true_eq, decide_eq_false_iff_not] at ht13
      repeat refine J.seq ?_
      refine J.plain ?_
      refine JO.t (ob_assign rfl) rfl ?_
      refine JO.nil ?_
      repeat (first | refine JX.next ?_ | refine JX.normal_block ?_)
      refine J.sel [4] (.cons rfl .nil) ?_
      repeat refine J.seq ?_
      refine J.ret ?_
      repeat (first | refine JX.ret_pass ?_ | refine JX.ret_block ?_)
      exact JX.ret1is rfl rfl (by simp at ht13)
    ·
      try simp only [decide_eq_true_eq, decide_eq_false_iff_not] at ht13
      refine J.skip ?_
      repeat (first | refine JX.next ?_ | refine JX.normal_block ?_)
      repeat refine J.seq ?_
      refine J.plain ?_
      refine JO.t (ob_move rfl) rfl ?_
      refine JO.t (ob_move rfl) rfl ?_
      refine JO.t (ob_lss rfl rfl) rfl ?_
      refine JO.nil ?_
      repeat (first | refine JX.next ?_ | refine JX.normal_block ?_)
      refine J.sel [0, 1, 16] (.cons rfl (.cons rfl (.cons rfl .nil))) ?_
      repeat refine J.seq ?_
      refine J.cond rfl (fun ht16 => ?_) (fun ht16 => ?_)
      ·
        try simp only [decide_eq_true_eq, decide_eq_false_iff_not] at ht16
        repeat refine J.seq ?_
        refine J.plain ?_
        refine JO.t (ob_assign rfl) rfl ?_
        refine JO.nil ?_
        repeat (first | refine JX.next ?_ | refine JX.normal_block ?_)
        refine J.sel [4] (.cons rfl .nil) ?_
        repeat refine J.seq ?_
        refine J.ret ?_
        repeat (first | refine JX.ret_pass ?_ | refine JX.ret_block ?_)
        exact JX.ret1is rfl rfl (by unfold cI; rw [if_pos (by simpa using ht16)])
      ·
        try simp only [decide_eq_true_eq, decide_eq_false_iff_not] at ht16
        refine J.skip ?_
        repeat (first | refine JX.next ?_ | refine JX.normal_block ?_)
        repeat refine J.seq ?_
        refine J.plain ?_
        refine JO.t (ob_move rfl) rfl ?_
        refine JO.t (ob_move rfl) rfl ?_
        refine JO.t (ob_gtr rfl rfl) rfl ?_
        refine JO.nil ?_
        repeat (first | refine JX.next ?_ | refine JX.normal_block ?_)
        refine J.sel [19] (.cons rfl .nil) ?_
        repeat refine J.seq ?_
        refine J.cond rfl (fun ht19 => ?_) (fun ht19 => ?_)
        ·
          try simp only [decide_eq_true_eq, decide_eq_false_iff_not] at ht19
          repeat refine J.seq ?_
          refine J.plain ?_
          refine JO.t (ob_assign rfl) rfl ?_
          refine JO.nil ?_
          repeat (first | refine JX.next ?_ | refine JX.normal_block ?_)
          refine J.sel [4] (.cons rfl .nil) ?_
          repeat refine J.seq ?_
          refine J.ret ?_
          repeat (first | refine JX.ret_pass ?_ | refine JX.ret_block ?_)
          exact JX.ret1is rfl rfl (by unfold cI; rw [if_neg (by simpa using ht16), if_pos (by simpa using ht19)])
        ·
          try simp only [decide_eq_true_eq, decide_eq_false_iff_not] at ht19
          refine J.skip ?_
          repeat (first | refine JX.next ?_ | refine JX.normal_block ?_)
          repeat refine J.seq ?_
          refine J.plain ?_
          refine JO.t (ob_assign rfl) rfl ?_
          refine JO.nil ?_
          repeat (first | refine JX.next ?_ | refine JX.normal_block ?_)
          refine J.sel [4] (.cons rfl .nil) ?_
          repeat refine J.seq ?_
          refine J.ret ?_
          repeat (first | refine JX.ret_pass ?_ | refine JX.ret_block ?_)
          exact JX.ret1is rfl rfl (by unfold cI; rw [if_neg (by simpa using ht16), if_neg (by simpa using ht19)])
theorem c_cmp_Compare_string (a b : ByteArray) : CallTy Tryd.prog f_cmp_Compare_string [.is (.string a), .is (.string b)] (.is (.int .i64 (cS a b))) :=
  CallTy.of (fn := Tryd.f34) Tryd.func34 (n := 20) rfl rfl rfl (fun _ _ => by kernel_rfl) fun E W => by
  repeat refine J.seq ?_
  refine J.plain ?_
  refine JO.t (ob_assign rfl) rfl ?_
  refine JO.nil ?_
  repeat (first | refine JX.next ?_ | refine JX.normal_block ?_)
  refine J.sel [0, 1] (.cons rfl (.cons rfl .nil)) ?_
  repeat refine J.seq ?_
  refine J.plain ?_
  refine JO.t (ob_move rfl) rfl ?_
  refine JO.t (ob_call rfl (c_cmp_isNaN_string _) (.one rfl .nil)) rfl ?_
  refine JO.t (ob_assign rfl) rfl ?_
  refine JO.nil ?_
  repeat (first | refine JX.next ?_ | refine JX.normal_block ?_)
  refine J.sel [0, 1, 5] (.cons rfl (.cons rfl (.cons rfl .nil))) ?_
  repeat refine J.seq ?_
  refine J.plain ?_
  refine JO.t (ob_move rfl) rfl ?_
  refine JO.t (ob_call rfl (c_cmp_isNaN_string _) (.one rfl .nil)) rfl ?_
  refine JO.t (ob_assign rfl) rfl ?_
  refine JO.nil ?_
  repeat (first | refine JX.next ?_ | refine JX.normal_block ?_)
  refine J.sel [0, 1, 5, 6] (.cons rfl (.cons rfl (.cons rfl (.cons rfl .nil)))) ?_
  repeat refine J.seq ?_
  refine J.plain ?_
  refine JO.t (ob_move rfl) rfl ?_
  refine JO.nil ?_
  repeat (first | refine JX.next ?_ | refine JX.normal_block ?_)
  refine J.sel [0, 1, 6, 11] (.cons rfl (.cons rfl (.cons rfl (.cons rfl .nil)))) ?_
  repeat refine J.seq ?_
  refine J.cond rfl (fun ht11 => ?_) (fun ht11 => ?_)
  ·
    try simp only [decide_eq_true_eq, decide_eq_false_iff_not] at ht11
    repeat refine J.seq ?_
    refine J.plain ?_
    refine JO.t (ob_move rfl) rfl ?_
    refine JO.nil ?_
    repeat (first | refine JX.next ?_ | refine JX.normal_block ?_)
    refine J.sel [12] (.cons rfl .nil) ?_
    repeat refine J.seq ?_
    refine J.cond rfl (fun ht12 => ?_) (fun ht12 => ?_)
    ·
      try simp only [decide_eq_true_eq, decide_eq_false_iff_not] at ht12
      repeat refine J.seq ?_
      refine J.plain ?_
      refine JO.t (ob_assign rfl) rfl ?_
      refine JO.nil ?_
      repeat (first | refine JX.next ?_ | refine JX.normal_block ?_)
      refine J.sel [4] (.cons rfl .nil) ?_
      repeat refine J.seq ?_
      refine J.ret ?_
      repeat (first | refine JX.ret_pass ?_ | refine JX.ret_block ?_)
      exact JX.ret1is rfl rfl (by simp at ht11)
    ·
      try simp only [decide_eq_true_eq, decide_eq_false_iff_not] at ht12
      refine J.skip ?_
      repeat (first | refine JX.next ?_ | refine JX.normal_block ?_)
      repeat refine J.seq ?_
      refine J.plain ?_
      refine JO.t (ob_assign rfl) rfl ?_
      refine JO.nil ?_
      repeat (first | refine JX.next ?_ | refine JX.normal_block ?_)
      refine J.sel [4] (.cons rfl .nil) ?_
      repeat refine J.seq ?_
      refine J.ret ?_
      repeat (first | refine JX.ret_pass ?_ | refine JX.ret_block ?_)
      exact JX.ret1is rfl rfl (by simp at ht11)
  ·
    try simp only [decide_eq_true_eq, decide_eq_false_iff_not] at ht11
    refine J.skip ?_
    repeat (first | refine JX.next ?_ | refine JX.normal_block ?_)
    repeat refine J.seq ?_
    refine J.plain ?_
    refine JO.t (ob_move rfl) rfl ?_
    refine JO.nil ?_
    repeat (first | refine JX.next ?_ | refine JX.normal_block ?_)
    refine J.sel [0, 1, 13] (.cons rfl (.cons rfl (.cons rfl .nil))) ?_
    repeat refine J.seq ?_
    refine J.cond rfl (fun ht13 => ?_) (fun ht13 => ?_)
    ·
      try simp only [decide_eq_true_eq, decide_eq_false_iff_not] at ht13
      repeat refine J.seq ?_
      refine J.plain ?_
      refine JO.t (ob_assign rfl) rfl ?_
      refine JO.nil ?_
      repeat (first | refine JX.next ?_ | refine JX.normal_block ?_)
      refine J.sel [4] (.cons rfl .nil) ?_
      repeat refine J.seq ?_
      refine J.ret ?_
      repeat (first | refine JX.ret_pass ?_ | refine JX.ret_block ?_)
      exact JX.ret1is rfl rfl (by simp at ht13)
    ·
      try simp only [decide_eq_true_eq, decide_eq_false_iff_not] at ht13
      refine J.skip ?_
      repeat (first | refine JX.next ?_ | refine JX.normal_block ?_)
      repeat refine J.seq ?_
      refine J.plain ?_
      refine JO.t (ob_move rfl) rfl ?_
      refine JO.t (ob_move rfl) rfl ?_
      refine JO.t (ob_slss rfl rfl) rfl ?_
      refine JO.nil ?_
      repeat (first | refine JX.next ?_ | refine JX.normal_block ?_)
      refine J.sel [0, 1, 16] (.cons rfl (.cons rfl (.cons rfl .nil))) ?_
      repeat refine J.seq ?_
      refine J.cond rfl (fun ht16 => ?_) (fun ht16 => ?_)
      ·
        try simp only [decide_eq_true_eq, decide_eq_false_iff_not] at ht16
        repeat refine J.seq ?_
        refine J.plain ?_
        refine JO.t (ob_assign rfl) rfl ?_
        refine JO.nil ?_
        repeat (first | refine JX.next ?_ | refine JX.normal_block ?_)
        refine J.sel [4] (.cons rfl .nil) ?_
        repeat refine J.seq ?_
        refine J.ret ?_
        repeat (first | refine JX.ret_pass ?_ | refine JX.ret_block ?_)
        exact JX.ret1is rfl rfl (by unfold cS; rw [if_pos (by simpa using ht16)])
      ·
        try simp only [decide_eq_true_eq, decide_eq_false_iff_not] at ht16
        refine J.skip ?_
        repeat (first | refine JX.next ?_ | refine JX.normal_block ?_)
        repeat refine J.seq ?_
        refine J.plain ?_
        refine JO.t (ob_move rfl) rfl ?_
        refine JO.t (ob_move rfl) rfl ?_
        refine JO.t (ob_sgtr rfl rfl) rfl ?_
        refine JO.nil ?_
        repeat (first | refine JX.next ?_ | refine JX.normal_block ?_)
        refine J.sel [19] (.cons rfl .nil) ?_
        repeat refine J.seq ?_
        refine J.cond rfl (fun ht19 => ?_) (fun ht19 => ?_)
        ·
          try simp only [decide_eq_true_eq, decide_eq_false_iff_not] at ht19
          repeat refine J.seq ?_
          refine J.plain ?_
          refine JO.t (ob_assign rfl) rfl ?_
          refine JO.nil ?_
          repeat (first | refine JX.next ?_ | refine JX.normal_block ?_)
          refine J.sel [4] (.cons rfl .nil) ?_
          repeat refine J.seq ?_
          refine J.ret ?_
          repeat (first | refine JX.ret_pass ?_ | refine JX.ret_block ?_)
          exact JX.ret1is rfl rfl (by unfold cS; rw [if_neg (by simpa using ht16), if_pos (by simpa using ht19)])
        ·
          try simp only [decide_eq_true_eq, decide_eq_false_iff_not] at ht19
          refine J.skip ?_
          repeat (first | refine JX.next ?_ | refine JX.normal_block ?_)
          repeat refine J.seq ?_
          refine J.plain ?_
          refine JO.t (ob_assign rfl) rfl ?_
          refine JO.nil ?_
          repeat (first | refine JX.next ?_ | refine JX.normal_block ?_)
          refine J.sel [4] (.cons rfl .nil) ?_
          repeat refine J.seq ?_
          refine J.ret ?_
          repeat (first | refine JX.ret_pass ?_ | refine JX.ret_block ?_)
          exact JX.ret1is rfl rfl (by unfold cS; rw [if_neg (by simpa using ht16), if_neg (by simpa using ht19)])
theorem c_cmp_Or_int (xs : List Int) (hl : xs.length ≤ 9223372036854775806) : CallTy Tryd.prog f_cmp_Or_int [.rep (SlG intC 1 xs)] (.is (.int .i64 (orF xs))) :=
  CallTy.of (fn := Tryd.f31) Tryd.func31 (n := 18) rfl rfl rfl (fun _ _ => by kernel_rfl) fun E W => by
  refine J.openSl (s := 0) rfl (fun a len cap b o hlen ha => ?_)
  subst hlen
  repeat refine J.seq ?_
  refine J.plain ?_
  refine JO.t (ob_assign rfl) rfl ?_
  refine JO.nil ?_
  repeat (first | refine JX.next ?_ | refine JX.normal_block ?_)
  refine J.sel [0] (.cons rfl .nil) ?_
  repeat refine J.seq ?_
  refine J.plain ?_
  refine JO.t (ob_assign rfl) rfl ?_
  refine JO.nil ?_
  repeat (first | refine JX.next ?_ | refine JX.normal_block ?_)
  refine J.sel [0, 3] (.cons rfl (.cons rfl .nil)) ?_
  repeat refine J.seq ?_
  refine J.plain ?_
  refine JO.t (ob_move rfl) rfl ?_
  refine JO.t (ob_len un_sl_int rfl) rfl ?_
  refine JO.t (ob_move rfl) rfl ?_
  refine JO.nil ?_
  repeat (first | refine JX.next ?_ | refine JX.normal_block ?_)
  refine J.sel [3, 6, 7, 8] (.cons rfl (.cons rfl (.cons rfl (.cons rfl .nil)))) ?_
  repeat refine J.seq ?_
  refine J.block ?_
  repeat refine J.seq ?_
  refine J.loopF (α := Nat) (fun i => [(3, .is (.int .i64 0)), (6, .is (.slice a xs.length cap)), (7, .is (.int .i64 (xs.length : Nat))), (8, .is (.int .i64 (i : Nat)))]) (fun i => i ≤ xs.length ∧ orF (xs.drop i) = orF xs) (fun i => xs.length - i) 0 [3, 6, 7, 8] (.cons rfl (.cons rfl (.cons rfl (.cons rfl .nil)))) ⟨by omega, rfl⟩ fun i ⟨hi, hs⟩ => ?_
  repeat refine J.seq ?_
  refine J.plain ?_
  refine JO.t (ob_lss rfl rfl) rfl ?_
  refine JO.nil ?_
  repeat (first | refine JX.next ?_ | refine JX.normal_block ?_)
  refine J.sel [3, 6, 7, 8, 9] (.cons rfl (.cons rfl (.cons rfl (.cons rfl (.cons rfl .nil))))) ?_
  repeat refine J.seq ?_
  refine J.cond rfl (fun ht9 => ?_) (fun ht9 => ?_)
  ·
    try simp only [decide_eq_true_eq, decide_eq_false_iff_not] at ht9
    refine J.skip ?_
    repeat (first | refine JX.next ?_ | refine JX.normal_block ?_)
    repeat refine J.seq ?_
    refine J.block ?_
    repeat refine J.seq ?_
    refine J.plain ?_
    refine JO.t (ob_indexAddr el_sl_int rfl (ha (by omega)) rfl (by omega) (by omega)) rfl ?_
    refine JO.t (ob_loadG1 (enc := intC) (sz := 1) (len := xs.length) (i := i) (j := 0) (y := xs.getD i 0) sz_int rfl (by repeat (first | exact List.mem_cons_self | apply List.mem_cons_of_mem)) (ha (by omega)) (int_get (by omega)) (by omega) rfl) rfl ?_
    refine JO.t (ob_assign rfl) rfl ?_
    refine JO.nil ?_
    repeat (first | refine JX.next ?_ | refine JX.normal_block ?_)
    refine J.sel [3, 5, 6, 7, 8] (.cons rfl (.cons rfl (.cons rfl (.cons rfl (.cons rfl .nil))))) ?_
    repeat refine J.seq ?_
    refine J.plain ?_
    refine JO.t (ob_move rfl) rfl ?_
    refine JO.t (ob_move rfl) rfl ?_
    refine JO.t (ob_neq rfl rfl) rfl ?_
    refine JO.nil ?_
    repeat (first | refine JX.next ?_ | refine JX.normal_block ?_)
    refine J.sel [3, 5, 6, 7, 8, 14] (.cons rfl (.cons rfl (.cons rfl (.cons rfl (.cons rfl (.cons rfl .nil)))))) ?_
    repeat refine J.seq ?_
    refine J.cond rfl (fun ht14 => ?_) (fun ht14 => ?_)
    ·
      try simp only [decide_eq_true_eq, decide_eq_false_iff_not] at ht14
      repeat refine J.seq ?_
      refine J.plain ?_
      refine JO.t (ob_move rfl) rfl ?_
      refine JO.t (ob_assign rfl) rfl ?_
      refine JO.nil ?_
      repeat (first | refine JX.next ?_ | refine JX.normal_block ?_)
      refine J.sel [2] (.cons rfl .nil) ?_
      repeat refine J.seq ?_
      refine J.ret ?_
      repeat (first | refine JX.ret_pass ?_ | refine JX.ret_block ?_)
      exact JX.ret1is rfl rfl (by rw [← hs, orF_drop (i := i) (by omega), if_pos ht14])
    ·
      try simp only [decide_eq_true_eq, decide_eq_false_iff_not] at ht14
      refine J.skip ?_
      repeat (first | refine JX.next ?_ | refine JX.normal_block ?_)
      repeat refine J.seq ?_
      refine J.plain ?_
      refine JO.t (ob_addc (cc := ((i + 1 : Nat) : Int)) rfl rfl (by omega) (by omega) (by omega)) rfl ?_
      refine JO.t (ob_move rfl) rfl ?_
      refine JO.nil ?_
      repeat refine JX.normal_block ?_
      refine JX.roundS (i + 1) ?_ ?_ [3, 6, 7, 8] ?_ ?_ ?_
      · exact ⟨by omega, by rw [← hs, orF_drop (i := i) (by omega), if_neg (by rw [ht14]; simp)]⟩
      · exact (by omega)
      · exact (.cons rfl (.cons rfl (.cons rfl (.cons rfl .nil))))
      · repeat (first | exact .slnil | apply List.Sublist.cons_cons | apply List.Sublist.cons)
      · repeat (first | exact .slnil | apply List.Sublist.cons_cons | apply List.Sublist.cons)
  ·
    try simp only [decide_eq_true_eq, decide_eq_false_iff_not] at ht9
    repeat refine J.seq ?_
    refine J.exit ?_
    repeat (first | refine JX.hit ?_ | refine JX.miss rfl ?_ | refine JX.exit_pass ?_)
    repeat (first | refine JX.next ?_ | refine JX.normal_block ?_)
    repeat refine J.seq ?_
    refine J.plain ?_
    refine JO.t (ob_move rfl) rfl ?_
    refine JO.t (ob_assign rfl) rfl ?_
    refine JO.nil ?_
    repeat (first | refine JX.next ?_ | refine JX.normal_block ?_)
    refine J.sel [2] (.cons rfl .nil) ?_
    repeat refine J.seq ?_
    refine J.ret ?_
    repeat (first | refine JX.ret_pass ?_ | refine JX.ret_block ?_)
    exact JX.ret1is rfl rfl (by rw [← hs, List.drop_eq_nil_of_le (by omega)]; rfl)
theorem c_value_Ok (v : V3) : CallTy Tryd.prog f_value_Ok [.is (.agg #[.int .i64 v.k, .int .i64 v.n, .string v.s])] (.is (.bool (okV v))) :=
  CallTy.of (fn := Tryd.f15) Tryd.func15 (n := 45) rfl rfl rfl (fun _ _ => by kernel_rfl) fun E W => by
  repeat refine J.seq ?_
  refine J.plain ?_
  refine JO.box rfl rfl fun b1 => ?_
  refine JO.t (ob_assign rfl) rfl ?_
  refine JO.nil ?_
  repeat (first | refine JX.next ?_ | refine JX.normal_block ?_)
  refine J.sel [1] (.cons rfl .nil) ?_
  repeat refine J.seq ?_
  refine J.plain ?_
  refine JO.t (ob_fieldAddr fo_api_Value_0 rfl) rfl ?_
  refine JO.t (ob_ld1 sz_int rfl rfl) rfl ?_
  refine JO.nil ?_
  repeat (first | refine JX.next ?_ | refine JX.normal_block ?_)
  refine J.sel [1, 4] (.cons rfl (.cons rfl .nil)) ?_
  repeat refine J.seq ?_
  refine J.block ?_
  repeat refine J.seq ?_
  refine J.plain ?_
  refine JO.t (ob_eql rfl rfl) rfl ?_
  refine JO.t (ob_assign rfl) rfl ?_
  refine JO.nil ?_
  repeat (first | refine JX.next ?_ | refine JX.normal_block ?_)
  refine J.sel [1, 4, 5] (.cons rfl (.cons rfl (.cons rfl .nil))) ?_
  repeat refine J.seq ?_
  refine J.cond rfl (fun ht5 => ?_) (fun ht5 => ?_)
  ·
    try simp only [decide_eq_true_eq, decide_eq_false_iff_not] at ht5
    repeat refine J.seq ?_
    refine J.reg0 hmx (by kernel_rfl) (by kernel_rfl) ?_
    refine RT.t (ob_fieldAddr fo_api_Value_1 rfl) ?_
    refine RT.t (ob_ld1 sz_int64 rfl rfl) ?_
    refine RT.t (ob_eql rfl rfl) ?_
    refine RT.t (ob_move rfl) ?_
    refine RT.g rfl rfl rfl (fun hg => ob_fieldAddr fo_api_Value_2 (.inl rfl)) ?_
    refine RT.g rfl rfl rfl (fun hg => ob_ld1 sz_string (.inr ⟨_, rfl, fun h => h⟩) rfl) ?_
    refine RT.g rfl rfl rfl (fun hg => ob_seql (.inr ⟨_, rfl, fun h => h⟩) (.inl rfl)) ?_
    refine RT.t (ob_pickAnd rfl rfl rfl id) ?_
    refine RT.t (ob_assign rfl) ?_
    refine RT.nil ?_
    refine FinS.nil0 ?_
    repeat (first | refine JX.next ?_ | refine JX.normal_block ?_)
    refine J.sel [2] (.cons rfl .nil) ?_
    repeat refine J.seq ?_
    refine J.ret ?_
    repeat (first | refine JX.ret_pass ?_ | refine JX.ret_block ?_)
    exact JX.ret1is rfl rfl (by unfold okV; rw [if_pos ht5])
  ·
    try simp only [decide_eq_true_eq, decide_eq_false_iff_not] at ht5
    repeat refine J.seq ?_
    refine J.plain ?_
    refine JO.t (ob_eql rfl rfl) rfl ?_
    refine JO.t (ob_assign rfl) rfl ?_
    refine JO.nil ?_
    repeat (first | refine JX.next ?_ | refine JX.normal_block ?_)
    refine J.sel [1, 4, 15] (.cons rfl (.cons rfl (.cons rfl .nil))) ?_
    repeat refine J.seq ?_
    refine J.cond rfl (fun ht15 => ?_) (fun ht15 => ?_)
    ·
      try simp only [decide_eq_true_eq, decide_eq_false_iff_not] at ht15
      repeat refine J.seq ?_
      refine J.plain ?_
      refine JO.t (ob_fieldAddr fo_api_Value_2 rfl) rfl ?_
      refine JO.t (ob_ld1 sz_string rfl rfl) rfl ?_
      refine JO.t (ob_seql rfl rfl) rfl ?_
      refine JO.t (ob_assign rfl) rfl ?_
      refine JO.nil ?_
      repeat (first | refine JX.next ?_ | refine JX.normal_block ?_)
      refine J.sel [2] (.cons rfl .nil) ?_
      repeat refine J.seq ?_
      refine J.ret ?_
      repeat (first | refine JX.ret_pass ?_ | refine JX.ret_block ?_)
      exact JX.ret1is rfl rfl (by unfold okV; rw [if_neg (by rw [ht5]; simp), if_pos ht15])
    ·
      try simp only [decide_eq_true_eq, decide_eq_false_iff_not] at ht15
      repeat refine J.seq ?_
      refine J.plain ?_
      refine JO.t (ob_eql rfl rfl) rfl ?_
      refine JO.t (ob_assign rfl) rfl ?_
      refine JO.nil ?_
      repeat (first | refine JX.next ?_ | refine JX.normal_block ?_)
      refine J.sel [1, 20] (.cons rfl (.cons rfl .nil)) ?_
      repeat refine J.seq ?_
      refine J.cond rfl (fun ht20 => ?_) (fun ht20 => ?_)
      ·
        try simp only [decide_eq_true_eq, decide_eq_false_iff_not] at ht20
        repeat refine J.seq ?_
        refine J.reg0 hmx (by kernel_rfl) (by kernel_rfl) ?_
        refine RT.t (ob_fieldAddr fo_api_Value_1 rfl) ?_
        refine RT.t (ob_ld1 sz_int64 rfl rfl) ?_
        refine RT.t (ob_shr rfl rfl rfl) ?_
        refine RT.t (ob_eql rfl rfl) ?_
        refine RT.t (ob_move rfl) ?_
        refine RT.g rfl rfl rfl (fun hg => ob_fieldAddr fo_api_Value_2 (.inl rfl)) ?_
        refine RT.g rfl rfl rfl (fun hg => ob_ld1 sz_string (.inr ⟨_, rfl, fun h => h⟩) rfl) ?_
        refine RT.g rfl rfl rfl (fun hg => ob_seql (.inr ⟨_, rfl, fun h => h⟩) (.inl rfl)) ?_
        refine RT.t (ob_pickAnd rfl rfl rfl id) ?_
        refine RT.t (ob_assign rfl) ?_
        refine RT.nil ?_
        refine FinS.nil0 ?_
        repeat (first | refine JX.next ?_ | refine JX.normal_block ?_)
        refine J.sel [2] (.cons rfl .nil) ?_
        repeat refine J.seq ?_
        refine J.ret ?_
        repeat (first | refine JX.ret_pass ?_ | refine JX.ret_block ?_)
        exact JX.ret1is rfl rfl (by unfold okV; rw [if_neg (by rw [ht5]; simp), if_neg (by rw [ht15]; simp), if_pos ht20]; rfl)
      ·
        try simp only [decide_eq_true_eq, decide_eq_false_iff_not] at ht20
        refine J.skip ?_
        repeat (first | refine JX.next ?_ | refine JX.normal_block ?_)
        repeat refine J.seq ?_
        refine J.reg0 hmx (by kernel_rfl) (by kernel_rfl) ?_
        refine RT.t (ob_fieldAddr fo_api_Value_0 rfl) ?_
        refine RT.t (ob_ld1 sz_int rfl rfl) ?_
        refine RT.t (ob_eql rfl rfl) ?_
        refine RT.t (ob_move rfl) ?_
        refine RT.g rfl rfl rfl (fun hg => ob_fieldAddr fo_api_Value_1 (.inl rfl)) ?_
        refine RT.g rfl rfl rfl (fun hg => ob_ld1 sz_int64 (.inr ⟨_, rfl, fun h => h⟩) rfl) ?_
        refine RT.g rfl rfl rfl (fun hg => ob_eql (.inr ⟨_, rfl, fun h => h⟩) (.inl rfl)) ?_
        refine RT.t (ob_pickAnd rfl rfl rfl id) ?_
        refine RT.t (ob_move rfl) ?_
        refine RT.g rfl rfl rfl (fun hg => ob_fieldAddr fo_api_Value_2 (.inl rfl)) ?_
        refine RT.g rfl rfl rfl (fun hg => ob_ld1 sz_string (.inr ⟨_, rfl, fun h => h⟩) rfl) ?_
        refine RT.g rfl rfl rfl (fun hg => ob_slen un_string (.inr ⟨_, rfl, fun h => h⟩)) ?_
        refine RT.g rfl rfl rfl (fun hg => ob_leq (.inr ⟨_, rfl, fun h => h⟩) (.inl rfl)) ?_
        refine RT.t (ob_pickAnd rfl rfl rfl id) ?_
        refine RT.t (ob_assign rfl) ?_
        refine RT.nil ?_
        refine FinS.nil0 ?_
        repeat (first | refine JX.next ?_ | refine JX.normal_block ?_)
        refine J.sel [2] (.cons rfl .nil) ?_
        repeat refine J.seq ?_
        refine J.ret ?_
        repeat (first | refine JX.ret_pass ?_ | refine JX.ret_block ?_)
        exact JX.ret1is rfl rfl (by unfold okV; rw [if_neg (by rw [ht5]; simp), if_neg (by rw [ht15]; simp), if_neg (by rw [ht20]; simp)])
theorem c_value_Compare (v w : V3) : CallTy Tryd.prog f_value_Compare [.is (.agg #[.int .i64 v.k, .int .i64 v.n, .string v.s]), .is (.agg #[.int .i64 w.k, .int .i64 w.n, .string w.s])] (.is (.int .i64 (cmpV v w))) :=
  CallTy.of (fn := Tryd.f17) Tryd.func17 (n := 22) rfl rfl rfl (fun _ _ => by kernel_rfl) fun E W => by
  repeat refine J.seq ?_
  refine J.plain ?_
  refine JO.box rfl rfl fun b2 => ?_
  refine JO.box rfl rfl fun b3 => ?_
  refine JO.t (ob_assign rfl) rfl ?_
  refine JO.nil ?_
  repeat (first | refine JX.next ?_ | refine JX.normal_block ?_)
  refine J.sel [2, 3] (.cons rfl (.cons rfl .nil)) ?_
  repeat refine J.seq ?_
  refine J.reg0 hmx (by kernel_rfl) (by kernel_rfl) ?_
  refine RT.t (ob_fieldAddr fo_api_Value_0 rfl) ?_
  refine RT.t (ob_ld1 sz_int rfl rfl) ?_
  refine RT.t (ob_fieldAddr fo_api_Value_0 rfl) ?_
  refine RT.t (ob_ld1 sz_int rfl rfl) ?_
  refine RT.t (ob_call rfl (c_cmp_Compare_int _ _) (.one rfl (.one rfl .nil))) ?_
  refine RT.t (ob_fieldAddr fo_api_Value_1 rfl) ?_
  refine RT.t (ob_ld1 sz_int64 rfl rfl) ?_
  refine RT.t (ob_fieldAddr fo_api_Value_1 rfl) ?_
  refine RT.t (ob_ld1 sz_int64 rfl rfl) ?_
  refine RT.t (ob_call rfl (c_cmp_Compare_int64 _ _) (.one rfl (.one rfl .nil))) ?_
  refine RT.t (ob_fieldAddr fo_api_Value_2 rfl) ?_
  refine RT.t (ob_ld1 sz_string rfl rfl) ?_
  refine RT.t (ob_fieldAddr fo_api_Value_2 rfl) ?_
  refine RT.t (ob_ld1 sz_string rfl rfl) ?_
  refine RT.t (ob_call rfl (c_cmp_Compare_string _ _) (.one rfl (.one rfl .nil))) ?_
  refine RT.t (ob_buildSlice (cs := [_, _, _]) sl_sl_int (by omega) (by omega) (.cons rfl (.cons rfl (.cons rfl .nil))) rfl rfl rfl) ?_
  refine RT.t (ob_call rfl (c_cmp_Or_int [cI v.k w.k, cI v.n w.n, cS v.s w.s] (by simp)) (.sub rfl (Sub.newSlG intC_len rfl rfl) .nil)) ?_
  refine RT.t (ob_assign rfl) ?_
  refine RT.nil ?_
  refine FinS.nil0 ?_
  repeat (first | refine JX.next ?_ | refine JX.normal_block ?_)
  refine J.sel [4] (.cons rfl .nil) ?_
  repeat refine J.seq ?_
  refine J.ret ?_
  repeat (first | refine JX.ret_pass ?_ | refine JX.ret_block ?_)
  exact JX.ret1is rfl rfl (by rw [orF_three]; rfl)
theorem c_value_eight (u : Nat) (high : Bool) (hu : u < 18446744073709551616) : CallTy Tryd.prog f_value_eight [.is (.int .u64 (u : Nat)), .is (.bool high)] (.rep (SlC bC 1 (eightL u high))) :=
  CallTy.of (fn := Tryd.f28) Tryd.func28 (n := 23) rfl rfl rfl (fun _ _ => by kernel_rfl) fun E W => by
  repeat refine J.seq ?_
  refine J.plain ?_
  refine JO.t (ob_assign rfl) rfl ?_
  refine JO.nil ?_
  repeat (first | refine JX.next ?_ | refine JX.normal_block ?_)
  refine J.sel [0, 1] (.cons rfl (.cons rfl .nil)) ?_
  repeat refine J.seq ?_
  refine J.plain ?_
  refine JO.t (ob_assign rfl) rfl ?_
  refine JO.nil ?_
  repeat (first | refine JX.next ?_ | refine JX.normal_block ?_)
  refine J.sel [0, 1, 5] (.cons rfl (.cons rfl (.cons rfl .nil))) ?_
  repeat refine J.seq ?_
  refine J.plain ?_
  refine JO.t (ob_move rfl) rfl ?_
  refine JO.nil ?_
  repeat (first | refine JX.next ?_ | refine JX.normal_block ?_)
  refine J.sel [0, 1, 5, 7] (.cons rfl (.cons rfl (.cons rfl (.cons rfl .nil)))) ?_
  repeat refine J.seq ?_
  refine J.block ?_
  repeat refine J.seq ?_
  refine J.loopG (α := Nat × List UInt8 × Option (Nat × List Value) × Nat) (fun z => [(0, .is (.int .u64 (u : Nat))), (1, .is (.bool high)), (5, .is (sliceO z.2.2.1 z.2.1.length z.2.2.2)), (7, .is (.int .i64 (z.1 : Nat)))]) (fun z => ownO z.2.2.1 ty_uint8 []) (fun z => fun _ => True) (fun z => z.1 ≤ 8 ∧ z.2.1 = (List.range z.1).map (fun j => byteN u (eightJ high j)) ∧ z.2.1.length = z.1 ∧ Grows bC 1 z.2.1 z.2.2.1 z.2.2.2) (fun z => 8 - z.1) (0, [], none, 0) [0, 1, 5, 7] (.cons rfl (.cons rfl (.cons rfl (.cons rfl .nil)))) rfl (fun _ => trivial) ⟨by omega, rfl, rfl, rfl⟩ fun ⟨i, xs, st, cp⟩ ⟨hi, hx, hl, hG⟩ => ?_
  try dsimp only
  try dsimp only at xs
  try dsimp only at st
  try dsimp only at cp
  try dsimp only at hi
  try dsimp only at hx
  try dsimp only at hl
  try dsimp only at hG
  repeat refine J.seq ?_
  refine J.plain ?_
  refine JO.t (ob_lss rfl rfl) rfl ?_
  refine JO.nil ?_
  repeat (first | refine JX.next ?_ | refine JX.normal_block ?_)
  refine J.sel [0, 1, 5, 7, 8] (.cons rfl (.cons rfl (.cons rfl (.cons rfl (.cons rfl .nil))))) ?_
  repeat refine J.seq ?_
  refine J.cond rfl (fun ht8 => ?_) (fun ht8 => ?_)
  ·
    try simp only [decide_eq_true_eq, decide_eq_false_iff_not] at ht8
    refine J.skip ?_
    repeat (first | refine JX.next ?_ | refine JX.normal_block ?_)
    repeat refine J.seq ?_
    refine J.block ?_
    repeat refine J.seq ?_
    refine J.plain ?_
    refine JO.t (ob_move rfl) rfl ?_
    refine JO.t (ob_assign rfl) rfl ?_
    refine JO.nil ?_
    repeat (first | refine JX.next ?_ | refine JX.normal_block ?_)
    refine J.sel [0, 1, 5, 6, 7] (.cons rfl (.cons rfl (.cons rfl (.cons rfl (.cons rfl .nil))))) ?_
    repeat refine J.seq ?_
    refine J.plain ?_
    refine JO.t (ob_move rfl) rfl ?_
    refine JO.nil ?_
    repeat (first | refine JX.next ?_ | refine JX.normal_block ?_)
    refine J.sel [0, 1, 5, 6, 7, 10] (.cons rfl (.cons rfl (.cons rfl (.cons rfl (.cons rfl (.cons rfl .nil)))))) ?_
    repeat refine J.seq ?_
    refine J.cond rfl (fun ht10 => ?_) (fun ht10 => ?_)
    ·
      try simp only [decide_eq_true_eq, decide_eq_false_iff_not] at ht10
      subst ht10
      repeat refine J.seq ?_
      refine J.plain ?_
      refine JO.t (ob_move rfl) rfl ?_
      refine JO.t (ob_subv (v := ((7 - i : Nat) : Int)) rfl rfl (by rw [wrap64_eq (by omega) (by omega)]; omega)) rfl ?_
      refine JO.t (ob_assign rfl) rfl ?_
      refine JO.nil ?_
      repeat (first | refine JX.next ?_ | refine JX.normal_block ?_)
      refine J.sel [0, 1, 5, 6, 7] (.cons rfl (.cons rfl (.cons rfl (.cons rfl (.cons rfl .nil))))) ?_
      try subst ht10
      repeat refine J.seq ?_
      refine J.plain ?_
      refine JO.t (ob_move rfl) rfl ?_
      refine JO.t (ob_move rfl) rfl ?_
      refine JO.t (ob_move rfl) rfl ?_
      refine JO.t (ob_mulv (v := 8 * ((7 - i : Nat) : Int)) rfl rfl (wrap64_eq (by omega) (by omega))) rfl ?_
      refine JO.t (ob_shr rfl rfl (decide_eq_true (by omega))) rfl ?_
      refine JO.t (ob_convIIe ⟨_, un_uint64⟩ un_uint8 rfl (eight_at hu (by omega))) rfl ?_
      refine JO.t (ob_buildSlice (cs := [_]) sl_sl_uint8 (by omega) (by omega) (.cons rfl .nil) rfl rfl rfl) rfl ?_
      refine JO.apX ([byteN u (7 - i)]) ap_sl_uint8 bC_len (by repeat (first | exact .here | apply Cx.past | apply Cx.there)) hG rfl rfl (fun L => src_new un_sl_uint8 rfl rfl) (by simp) (by simp; omega) (by simp; omega) rfl (fun st1 cp1 hG1 => ?_)
      try dsimp only
      refine JO.t (ob_assign rfl) rfl ?_
      refine JO.nil ?_
      repeat (first | refine JX.next ?_ | refine JX.normal_block ?_)
      refine J.sel [0, 1, 5, 7] (.cons rfl (.cons rfl (.cons rfl (.cons rfl .nil)))) ?_
      repeat refine J.seq ?_
      refine J.plain ?_
      refine JO.t (ob_addc (cc := ((i + 1 : Nat) : Int)) rfl rfl (by omega) (by omega) (by omega)) rfl ?_
      refine JO.t (ob_move rfl) rfl ?_
      refine JO.nil ?_
      repeat refine JX.normal_block ?_
      refine JX.roundG (x := ⟨i, xs, st, cp⟩) (i + 1, xs ++ [byteN u (7 - i)], st1, cp1) ?_ ?_ [0, 1, 5, 7] ?_ ?_ ?_ ?_
      · exact ⟨by omega, by rw [range_next, hx]; rfl, by simp [hl], hG1⟩
      · exact (by simp only; omega)
      · exact (.cons rfl (.cons rfl (.cons rfl (.cons rfl .nil))))
      · repeat (first | exact .all | exact .nil | refine Has.own (by repeat (first | exact .here | apply Tl.past | apply Tl.there)) ?_ | refine Has.cons (by repeat (first | exact .here | apply Pk.past | apply Pk.there)) ?_)
      · exact fun G hG => by repeat (first | exact hG | refine List.mem_cons_of_mem _ ?_)
      · exact fun _ _ _ => fun _ _ => trivial
    ·
      try simp only [decide_eq_true_eq, decide_eq_false_iff_not] at ht10
      refine J.skip ?_
      repeat (first | refine JX.next ?_ | refine JX.normal_block ?_)
      try subst ht10
      repeat refine J.seq ?_
      refine J.plain ?_
      refine JO.t (ob_move rfl) rfl ?_
      refine JO.t (ob_move rfl) rfl ?_
      refine JO.t (ob_move rfl) rfl ?_
      refine JO.t (ob_mulv (v := 8 * ((i : Nat) : Int)) rfl rfl (wrap64_eq (by omega) (by omega))) rfl ?_
      refine JO.t (ob_shr rfl rfl (decide_eq_true (by omega))) rfl ?_
      refine JO.t (ob_convIIe ⟨_, un_uint64⟩ un_uint8 rfl (eight_at hu (by omega))) rfl ?_
      refine JO.t (ob_buildSlice (cs := [_]) sl_sl_uint8 (by omega) (by omega) (.cons rfl .nil) rfl rfl rfl) rfl ?_
      refine JO.apX ([byteN u i]) ap_sl_uint8 bC_len (by repeat (first | exact .here | apply Cx.past | apply Cx.there)) hG rfl rfl (fun L => src_new un_sl_uint8 rfl rfl) (by simp) (by simp; omega) (by simp; omega) rfl (fun st1 cp1 hG1 => ?_)
      try dsimp only
      refine JO.t (ob_assign rfl) rfl ?_
      refine JO.nil ?_
      repeat (first | refine JX.next ?_ | refine JX.normal_block ?_)
      refine J.sel [0, 1, 5, 7] (.cons rfl (.cons rfl (.cons rfl (.cons rfl .nil)))) ?_
      repeat refine J.seq ?_
      refine J.plain ?_
      refine JO.t (ob_addc (cc := ((i + 1 : Nat) : Int)) rfl rfl (by omega) (by omega) (by omega)) rfl ?_
      refine JO.t (ob_move rfl) rfl ?_
      refine JO.nil ?_
      repeat refine JX.normal_block ?_
      refine JX.roundG (x := ⟨i, xs, st, cp⟩) (i + 1, xs ++ [byteN u (i)], st1, cp1) ?_ ?_ [0, 1, 5, 7] ?_ ?_ ?_ ?_
      · exact ⟨by omega, by rw [range_next, hx]; rfl, by simp [hl], hG1⟩
      · exact (by simp only; omega)
      · exact (.cons rfl (.cons rfl (.cons rfl (.cons rfl .nil))))
      · repeat (first | exact .all | exact .nil | refine Has.own (by repeat (first | exact .here | apply Tl.past | apply Tl.there)) ?_ | refine Has.cons (by repeat (first | exact .here | apply Pk.past | apply Pk.there)) ?_)
      · exact fun G hG => by repeat (first | exact hG | refine List.mem_cons_of_mem _ ?_)
      · exact fun _ _ _ => fun _ _ => trivial
  ·
    try simp only [decide_eq_true_eq, decide_eq_false_iff_not] at ht8
    repeat refine J.seq ?_
    refine J.exit ?_
    repeat (first | refine JX.hit ?_ | refine JX.miss rfl ?_ | refine JX.exit_pass ?_)
    repeat (first | refine JX.next ?_ | refine JX.normal_block ?_)
    refine J.freezeO bC_len hG (e := ty_uint8) (by repeat (first | exact .here | apply Tl.past | apply Tl.there)) (fun _ h => h) rfl rfl ?_
    have he : i = 8 := by omega
    subst he
    have hx8 : xs = eightL u high := hx.trans (eight_map u high)
    repeat refine J.seq ?_
    refine J.plain ?_
    refine JO.t (ob_move rfl) rfl ?_
    refine JO.t (ob_assign rfl) rfl ?_
    refine JO.nil ?_
    repeat (first | refine JX.next ?_ | refine JX.normal_block ?_)
    refine J.sel [4] (.cons rfl .nil) ?_
    repeat refine J.seq ?_
    refine J.ret ?_
    repeat (first | refine JX.ret_pass ?_ | refine JX.ret_block ?_)
    exact JX.ret1sub rfl rfl rfl (by rw [← hx8]; exact Sub.slOC hG (by repeat (first | exact List.mem_cons_self | apply List.mem_cons_of_mem)))
theorem c_value_number (l : List UInt8) (high : Bool) (hl : l.length ≤ 8) : CallTy Tryd.prog f_value_number [.rep (SlC bC 1 l), .is (.bool high)] (.is (.int .u64 (numB l high : Nat))) :=
  CallTy.of (fn := Tryd.f38) Tryd.func38 (n := 33) rfl rfl rfl (fun _ _ => by kernel_rfl) fun E W => by
  refine J.openSlC (s := 0) rfl (fun a len cap b o hlen ha hlc => ?_)
  subst hlen
  repeat refine J.seq ?_
  refine J.plain ?_
  refine JO.t (ob_assign rfl) rfl ?_
  refine JO.nil ?_
  repeat (first | refine JX.next ?_ | refine JX.normal_block ?_)
  refine J.sel [0, 1] (.cons rfl (.cons rfl .nil)) ?_
  repeat refine J.seq ?_
  refine J.plain ?_
  refine JO.t (ob_assign (T := .is (.int .u64 (numB (l.take 0) high : Nat))) (by cases high <;> rfl)) rfl ?_
  refine JO.nil ?_
  repeat (first | refine JX.next ?_ | refine JX.normal_block ?_)
  refine J.sel [0, 1, 5] (.cons rfl (.cons rfl (.cons rfl .nil))) ?_
  repeat refine J.seq ?_
  refine J.plain ?_
  refine JO.t (ob_move rfl) rfl ?_
  refine JO.t (ob_len un_sl_uint8 rfl) rfl ?_
  refine JO.t (ob_move rfl) rfl ?_
  refine JO.nil ?_
  repeat (first | refine JX.next ?_ | refine JX.normal_block ?_)
  refine J.sel [0, 1, 5, 8, 9] (.cons rfl (.cons rfl (.cons rfl (.cons rfl (.cons rfl .nil))))) ?_
  repeat refine J.seq ?_
  refine J.block ?_
  repeat refine J.seq ?_
  refine J.loopF (α := Nat) (fun i => [(0, .is (.slice a l.length cap)), (1, .is (.bool high)), (5, .is (.int .u64 (numB (l.take i) high : Nat))), (8, .is (.int .i64 (l.length : Nat))), (9, .is (.int .i64 (i : Nat)))]) (fun i => i ≤ l.length) (fun i => l.length - i) 0 [0, 1, 5, 8, 9] (.cons rfl (.cons rfl (.cons rfl (.cons rfl (.cons rfl .nil))))) (Nat.zero_le _) fun i hi => ?_
  repeat refine J.seq ?_
  refine J.plain ?_
  refine JO.t (ob_lss rfl rfl) rfl ?_
  refine JO.nil ?_
  repeat (first | refine JX.next ?_ | refine JX.normal_block ?_)
  refine J.sel [0, 1, 5, 8, 9, 10] (.cons rfl (.cons rfl (.cons rfl (.cons rfl (.cons rfl (.cons rfl .nil)))))) ?_
  repeat refine J.seq ?_
  refine J.cond rfl (fun ht10 => ?_) (fun ht10 => ?_)
  ·
    try simp only [decide_eq_true_eq, decide_eq_false_iff_not] at ht10
    refine J.skip ?_
    repeat (first | refine JX.next ?_ | refine JX.normal_block ?_)
    repeat refine J.seq ?_
    refine J.block ?_
    repeat refine J.seq ?_
    refine J.plain ?_
    refine JO.t (ob_move rfl) rfl ?_
    refine JO.t (ob_assign rfl) rfl ?_
    refine JO.nil ?_
    repeat (first | refine JX.next ?_ | refine JX.normal_block ?_)
    refine J.sel [0, 1, 5, 6, 8, 9] (.cons rfl (.cons rfl (.cons rfl (.cons rfl (.cons rfl (.cons rfl .nil)))))) ?_
    repeat refine J.seq ?_
    refine J.plain ?_
    refine JO.t (ob_move rfl) rfl ?_
    refine JO.nil ?_
    repeat (first | refine JX.next ?_ | refine JX.normal_block ?_)
    refine J.sel [0, 1, 5, 6, 8, 9, 12] (.cons rfl (.cons rfl (.cons rfl (.cons rfl (.cons rfl (.cons rfl (.cons rfl .nil))))))) ?_
    repeat refine J.seq ?_
    refine J.cond rfl (fun ht12 => ?_) (fun ht12 => ?_)
    ·
      try simp only [decide_eq_true_eq, decide_eq_false_iff_not] at ht12
      subst ht12
      repeat refine J.seq ?_
      refine J.plain ?_
      refine JO.t (ob_move rfl) rfl ?_
      refine JO.t (ob_shl rfl rfl rfl) rfl ?_
      refine JO.t (ob_move rfl) rfl ?_
      refine JO.t (ob_move rfl) rfl ?_
      refine JO.t (ob_indexAddr el_sl_uint8 rfl (ha (by omega)) rfl (by omega) (by omega)) rfl ?_
      refine JO.t (ob_loadG1 (enc := bC) (sz := 1) (len := l.length) (i := i) (j := 0) (y := l.getD i 0) sz_uint8 rfl (by repeat (first | exact List.mem_cons_self | apply List.mem_cons_of_mem)) (ha (by omega)) (u8_get (by omega)) (by omega) rfl) rfl ?_
      refine JO.t (ob_convIIe (cc := ((l.getD i 0).toNat : Int)) ⟨_, un_uint8⟩ un_uint64 rfl (by have := UInt8.toNat_lt (l.getD i 0); rw [wrap_u64]; omega)) rfl ?_
      refine JO.t (ob_orv rfl rfl (num_high (by omega) hl)) rfl ?_
      refine JO.t (ob_assign rfl) rfl ?_
      refine JO.nil ?_
      repeat (first | refine JX.next ?_ | refine JX.normal_block ?_)
      refine J.sel [0, 1, 5, 8, 9] (.cons rfl (.cons rfl (.cons rfl (.cons rfl (.cons rfl .nil))))) ?_
      repeat refine J.seq ?_
      refine J.plain ?_
      refine JO.t (ob_addc (cc := ((i + 1 : Nat) : Int)) rfl rfl (by omega) (by omega) (by omega)) rfl ?_
      refine JO.t (ob_move rfl) rfl ?_
      refine JO.nil ?_
      repeat refine JX.normal_block ?_
      refine JX.roundS (i + 1) ?_ ?_ [0, 1, 5, 8, 9] ?_ ?_ ?_
      · exact (by omega)
      · exact (by omega)
      · exact (.cons rfl (.cons rfl (.cons rfl (.cons rfl (.cons rfl .nil)))))
      · repeat (first | exact .slnil | apply List.Sublist.cons_cons | apply List.Sublist.cons)
      · repeat (first | exact .slnil | apply List.Sublist.cons_cons | apply List.Sublist.cons)
    ·
      try simp only [decide_eq_true_eq, decide_eq_false_iff_not] at ht12
      subst ht12
      repeat refine J.seq ?_
      refine J.plain ?_
      refine JO.t (ob_move rfl) rfl ?_
      refine JO.t (ob_move rfl) rfl ?_
      refine JO.t (ob_move rfl) rfl ?_
      refine JO.t (ob_indexAddr el_sl_uint8 rfl (ha (by omega)) rfl (by omega) (by omega)) rfl ?_
      refine JO.t (ob_loadG1 (enc := bC) (sz := 1) (len := l.length) (i := i) (j := 0) (y := l.getD i 0) sz_uint8 rfl (by repeat (first | exact List.mem_cons_self | apply List.mem_cons_of_mem)) (ha (by omega)) (u8_get (by omega)) (by omega) rfl) rfl ?_
      refine JO.t (ob_convIIe (cc := ((l.getD i 0).toNat : Int)) ⟨_, un_uint8⟩ un_uint64 rfl (by have := UInt8.toNat_lt (l.getD i 0); rw [wrap_u64]; omega)) rfl ?_
      refine JO.t (ob_move rfl) rfl ?_
      refine JO.t (ob_mulv (v := 8 * (i : Int)) rfl rfl (wrap64_eq (by omega) (by omega))) rfl ?_
      refine JO.t (ob_shl rfl rfl (decide_eq_true (by omega))) rfl ?_
      refine JO.t (ob_orv rfl rfl (num_low (by omega) hl)) rfl ?_
      refine JO.t (ob_assign rfl) rfl ?_
      refine JO.nil ?_
      repeat (first | refine JX.next ?_ | refine JX.normal_block ?_)
      refine J.sel [0, 1, 5, 8, 9] (.cons rfl (.cons rfl (.cons rfl (.cons rfl (.cons rfl .nil))))) ?_
      repeat refine J.seq ?_
      refine J.plain ?_
      refine JO.t (ob_addc (cc := ((i + 1 : Nat) : Int)) rfl rfl (by omega) (by omega) (by omega)) rfl ?_
      refine JO.t (ob_move rfl) rfl ?_
      refine JO.nil ?_
      repeat refine JX.normal_block ?_
      refine JX.roundS (i + 1) ?_ ?_ [0, 1, 5, 8, 9] ?_ ?_ ?_
      · exact (by omega)
      · exact (by omega)
      · exact (.cons rfl (.cons rfl (.cons rfl (.cons rfl (.cons rfl .nil)))))
      · repeat (first | exact .slnil | apply List.Sublist.cons_cons | apply List.Sublist.cons)
      · repeat (first | exact .slnil | apply List.Sublist.cons_cons | apply List.Sublist.cons)
  ·
    try simp only [decide_eq_true_eq, decide_eq_false_iff_not] at ht10
    repeat refine J.seq ?_
    refine J.exit ?_
    repeat (first | refine JX.hit ?_ | refine JX.miss rfl ?_ | refine JX.exit_pass ?_)
    repeat (first | refine JX.next ?_ | refine JX.normal_block ?_)
    have he : i = l.length := by omega
    subst he
    repeat refine J.seq ?_
    refine J.plain ?_
    refine JO.t (ob_move rfl) rfl ?_
    refine JO.t (ob_assign rfl) rfl ?_
    refine JO.nil ?_
    repeat (first | refine JX.next ?_ | refine JX.normal_block ?_)
    refine J.sel [4] (.cons rfl .nil) ?_
    repeat refine J.seq ?_
    refine J.ret ?_
    repeat (first | refine JX.ret_pass ?_ | refine JX.ret_block ?_)
    exact JX.ret1is rfl rfl (by rw [List.take_length])
end Go.Proofs.YtlccnpmhmdoapaaDoor
