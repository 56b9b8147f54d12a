/- The document on values: keys, literals; two lists. No condition. -/
import Derived.Test.YtlccnpmhmdoapaaDoorXP0
import Derived.Test.YtlccnpmhmdoapaaDoorXG4
set_option maxRecDepth 20000
namespace Go.Proofs.YtlccnpmhmdoapaaDoor
open Go Go.Vc
open Go.Vl
theorem sb_eq (s : ByteArray) (i : Nat) : sb s i = ((s.data.toList.getD i 0).toNat : Int) := rfl
theorem esc_end {s : ByteArray} {i : Nat} (h : ¬ i < s.size) : esc (s.data.toList.take i) = esc s.data.toList := by rw [List.take_of_length_le (by rw [len_sz]; omega)]
theorem z_eq {b : UInt8} : (((b.toNat : Nat) : Int) == 0) = true ↔ b = 0 := by
  rw [beq_iff_eq]
  constructor
  · intro h; exact UInt8.toNat_inj.1 (by simpa using h)
  · rintro rfl; rfl
theorem esc_s0 {s : ByteArray} {i : Nat} (h : i < s.size) (hb : (sb s i == 0) = true) : esc (s.data.toList.take (i + 1)) = (esc (s.data.toList.take i) ++ [s.data.toList.getD i 0]) ++ [255] := by
  have e : s.data.toList.getD i 0 = 0 := z_eq.1 hb
  rw [esc_snoc h, if_pos e, e, List.append_assoc]
  rfl
theorem esc_s1 {s : ByteArray} {i : Nat} (h : i < s.size) (hb : (sb s i == 0) = false) : esc (s.data.toList.take (i + 1)) = esc (s.data.toList.take i) ++ [s.data.toList.getD i 0] := by
  rw [esc_snoc h, if_neg (fun e => by rw [show (sb s i == 0) = true from z_eq.2 e] at hb; cases hb)]
theorem dbl_snoc {s : ByteArray} {i : Nat} (h : i < s.size) : dbl (s.data.toList.take (i + 1)) = dbl (s.data.toList.take i) ++ (if s.data.toList.getD i 0 = 39 then [39, 39] else [s.data.toList.getD i 0]) := by
  have hl : i < s.data.toList.length := by rw [len_sz]; exact h
  rw [take_snoc hl]
  show repL _ _ _ = repL _ _ _ ++ _
  unfold repL
  rw [List.flatMap_append]
  congr 1
  simp
theorem one_ext {s : ByteArray} {i : Nat} (h : i < s.size) : (s.extract i (i + 1)).data.toList = [s.data.toList.getD i 0] := by
  have hl : i < s.data.toList.length := by rw [len_sz]; exact h
  have : (s.extract i (i + 1)).data.toList = (s.data.toList.drop i).take 1 := by
    rw [ByteArray.data_extract, Array.toList_extract]
    simp [List.extract]
  rw [this, List.drop_eq_getElem_cons hl, List.getD_eq_getElem?_getD, List.getElem?_eq_getElem hl]
  rfl
def ShowI (U w : Nat) (ds : List UInt8) : Prop := (ds ≠ [] ∧ w = 0 ∧ ds = Lib.decDigits U) ∨ ((w ≠ 0 ∨ ds = []) ∧ Lib.decDigits w ++ ds = Lib.decDigits U)
theorem show_step {U w : Nat} {ds : List UInt8} (h : ShowI U w ds) (hc : ds = [] ∨ 0 < w) : ShowI U (w / 10) (UInt8.ofNat (48 + w % 10) :: ds) := by
  rcases h with ⟨h1, h2, h3⟩ | ⟨h1, h2⟩
  · rcases hc with hc | hc
    · exact absurd hc h1
    · omega
  · by_cases h10 : w < 10
    · rw [Lib.decDigits, dif_pos h10] at h2
      refine .inl ⟨by simp, by omega, ?_⟩
      rw [← h2, show w % 10 = w by omega]
      rfl
    · rw [Lib.decDigits, dif_neg h10] at h2
      refine .inr ⟨.inl (by omega), ?_⟩
      rw [← h2, List.append_assoc]
      rfl
theorem show_end {U w : Nat} {ds : List UInt8} (h : ShowI U w ds) (hc : ds ≠ [] ∧ w = 0) : ds = Lib.decDigits U := by
  rcases h with ⟨h1, h2, h3⟩ | ⟨h1, h2⟩
  · exact h3
  · rcases h1 with h1 | h1
    · exact absurd hc.2 h1
    · exact absurd h1 hc.1
def muD (w : Nat) (ds : List UInt8) : Nat := if ds = [] then w + 1 else w
theorem muD_lt {w : Nat} {ds : List UInt8} {b : UInt8} (hc : ds = [] ∨ 0 < w) : muD (w / 10) (b :: ds) < muD w ds := by
  unfold muD
  rw [if_neg (by simp)]
  split <;> rename_i h
  · omega
  · have := hc.resolve_left h
    omega
theorem neg_uns {n : Int} (h : I64 n) (hn : n < 0) : IntKind.u64.wrap (0 - ((unsN n : Nat) : Int)) = ((n.natAbs : Nat) : Int) := by
  rw [wrap_u64]
  unfold I64 at h
  unfold unsN
  omega
theorem uns_pos {n : Int} (h : I64 n) (hn : ¬ n < 0) : ((unsN n : Nat) : Int) = ((n.natAbs : Nat) : Int) := by
  unfold I64 at h
  unfold unsN
  omega
theorem abs_lt {n : Int} (h : I64 n) : n.natAbs < 18446744073709551616 := by
  unfold I64 at h
  omega
theorem itoa_abs (n : Int) : Lib.itoa n = if n < 0 then 45 :: Lib.decDigits n.natAbs else Lib.decDigits n.natAbs := by
  unfold Lib.itoa
  split
  · rfl
  · rw [show n.toNat = n.natAbs by omega]
theorem dig_wrap (w : Nat) : IntKind.u8.wrap (IntKind.u64.wrap (48 + (w : Int).tmod 10)) = ((UInt8.ofNat (48 + w % 10)).toNat : Int) := by
  rw [show (UInt8.ofNat (48 + w % 10)).toNat = 48 + w % 10 from UInt8.toNat_ofNat_of_lt' (by show 48 + w % 10 < 256; omega), Int.tmod_eq_emod_of_nonneg (Int.natCast_nonneg _), wrap_u64, wrap_u8]
  omega
theorem quo10 {w : Nat} (h : w < 18446744073709551616) : IntKind.u64.wrap ((w : Int).tdiv 10) = ((w / 10 : Nat) : Int) := by
  rw [Int.tdiv_eq_ediv_of_nonneg (Int.natCast_nonneg _), wrap_u64]
  omega
theorem bl_cons (b : UInt8) (l : List UInt8) : bl [b] ++ bl l = bl (b :: l) := list_inj (by rw [app_list, bl_list, bl_list, bl_list]; rfl)
theorem seq_nil (l : List UInt8) : seq (bl l) ⟨#[]⟩ = true ↔ l = [] := by
  rw [seq_iff]
  constructor
  · intro h
    have := congrArg (fun s : ByteArray => s.data.toList) h
    simpa using this
  · rintro rfl; rfl
theorem rshow_no {v : V3} (h : okV v = false) : showV v = ⟨#[]⟩ := by unfold showV; rw [h]; rfl
theorem rshow_int {v : V3} (h : okV v = true) (h1 : (v.k == 1) = true) {r : ByteArray} (hr : r.data.toList = Lib.itoa v.n) : showV v = r := by
  unfold showV
  rw [h, if_neg (by simp), if_pos h1]
  exact list_inj (by rw [hr])
theorem rshow_bool {v : V3} (h : okV v = true) (h1 : (v.k == 1) = false) (h2 : (v.k == 2) = true) {b : Bool} (hb : (v.n == 1) = b) : showV v = if b then ⟨#[84, 82, 85, 69]⟩ else ⟨#[70, 65, 76, 83, 69]⟩ := by
  unfold showV
  rw [h, if_neg (by simp), if_neg (by rw [h1]; simp), if_pos h2, hb]
  cases b <;> decide +kernel
theorem rshow_text {v : V3} (h : okV v = true) (h1 : (v.k == 1) = false) (h2 : (v.k == 2) = false) (h3 : (v.k == 3) = true) {r : ByteArray} (hr : r.data.toList = 39 :: (dbl v.s.data.toList ++ [39])) : showV v = r := by
  unfold showV
  rw [h, if_neg (by simp), if_neg (by rw [h1]; simp), if_neg (by rw [h2]; simp), if_pos h3]
  refine list_inj ?_
  show ((qu1 ++ bl _) ++ qu1).data.toList = _
  rw [app_list, app_list, bl_list, hr]
  rfl
theorem rshow_null {v : V3} (h : okV v = true) (h1 : (v.k == 1) = false) (h2 : (v.k == 2) = false) (h3 : (v.k == 3) = false) : showV v = ⟨#[78, 85, 76, 76]⟩ := by
  unfold showV
  rw [h, if_neg (by simp), if_neg (by rw [h1]; simp), if_neg (by rw [h2]; simp), if_neg (by rw [h3]; simp)]
theorem or_true2 {a b : Bool} (h : (a || b) = true) : a = true ∨ b = true := by simpa using h
theorem show_stop {w : Nat} {ds : List UInt8} (h : (seq (bl ds) ⟨#[]⟩ || decide ((0 : Int) < w)) = false) : ds ≠ [] ∧ w = 0 := by
  rw [Bool.or_eq_false_iff, decide_eq_false_iff_not] at h
  exact ⟨fun e => (by rw [(seq_nil ds).2 e] at h; cases h.1), by omega⟩
def DigL (w : Nat) (ds : List UInt8) : Prop := w < 10 ^ (20 - ds.length) ∧ ds.length ≤ 20
theorem digL_0 {w : Nat} (h : w < 18446744073709551616) : DigL w [] := by
  have h10 : (10 : Nat) ^ 20 = 100000000000000000000 := by decide
  refine ⟨?_, by simp⟩
  show w < 10 ^ 20
  omega
theorem uns_nat {n : Int} (h : I64 n) (hn : ¬ n < 0) : unsN n = n.natAbs := by
  unfold I64 at h
  unfold unsN
  omega
theorem digL_le {w : Nat} {ds : List UInt8} (h : DigL w ds) : ds.length ≤ 20 := h.2
theorem digL_next {w : Nat} {ds : List UInt8} {b : UInt8} (h : DigL w ds) (hc : ds = [] ∨ 0 < w) : DigL (w / 10) (b :: ds) := by
  obtain ⟨h1, h2⟩ := h
  have hlt : ds.length < 20 := by
    rcases hc with rfl | hc
    · simp
    · rcases Nat.lt_or_ge ds.length 20 with h | h
      · exact h
      · rw [show 20 - ds.length = 0 by omega] at h1
        simp at h1
        omega
  obtain ⟨m, hm⟩ : ∃ m, 20 - ds.length = m + 1 := ⟨19 - ds.length, by omega⟩
  rw [hm, Nat.pow_succ] at h1
  refine ⟨?_, by simp; omega⟩
  rw [List.length_cons, show 20 - (ds.length + 1) = m by omega]
  omega
theorem txt_q {s : ByteArray} {i : Nat} (h : i < s.size) (hq : seq (s.extract i (i + 1)) ⟨#[39]⟩ = true) : bl (39 :: dbl (s.data.toList.take i)) ++ (⟨#[39, 39]⟩ : ByteArray) = bl (39 :: dbl (s.data.toList.take (i + 1))) := by
  rw [seq_lists, one_ext h, beq_iff_eq] at hq
  have hq : s.data.toList.getD i 0 = 39 := by simpa using hq
  refine list_inj ?_
  rw [app_list, bl_list, bl_list, dbl_snoc h, if_pos hq]
  rfl
theorem txt_c {s : ByteArray} {i : Nat} (h : i < s.size) (hq : seq (s.extract i (i + 1)) ⟨#[39]⟩ = false) : bl (39 :: dbl (s.data.toList.take i)) ++ s.extract i (i + 1) = bl (39 :: dbl (s.data.toList.take (i + 1))) := by
  rw [seq_lists, one_ext h] at hq
  have hq : ¬ s.data.toList.getD i 0 = 39 := fun e => by rw [e] at hq; revert hq; decide
  refine list_inj ?_
  rw [app_list, bl_list, bl_list, dbl_snoc h, if_neg hq, one_ext h]
  rfl
section
variable {P : Program} {L : List Own} {Φ : List (World → Prop)} {H : Know} {dst : Option Nat} {ty : TypeId} {pos : String} {after : Array Edge} {g : Option (Nat × Bool)}
theorem ob_negv {t : TypeId} {x : Operand} {k : IntKind} {a v : Int} (hx : H x (.is (.int k a))) (h : k.wrap (0 - a) = v) : Ob P L Φ H ⟨dst, .unOp .neg t x, ty, pos, after, g⟩ (.is (.int k v)) := h ▸ ob_neg hx
end
def sameV : List V3 → List V3 → Bool
  | [], [] => true
  | x :: xs, y :: ys => veq x.k x.n x.s y.k y.n y.s && sameV xs ys
  | _, _ => false
theorem sameV_iff : ∀ xs ys : List V3, sameV xs ys = true ↔ xs = ys
  | [], [] => by simp [sameV]
  | x :: xs, y :: ys => by rw [sameV, Bool.and_eq_true, veq_iff, sameV_iff xs ys, List.cons.injEq]
  | [], _ :: _ => by simp [sameV]
  | _ :: _, [] => by simp [sameV]
theorem sameV_self (xs : List V3) : sameV xs xs = true := (sameV_iff xs xs).2 rfl
theorem sameV_drop {xs ys : List V3} {i : Nat} (hx : i < xs.length) (hy : i < ys.length) : sameV (xs.drop i) (ys.drop i) = (veq (xs.getD i v3D).k (xs.getD i v3D).n (xs.getD i v3D).s (ys.getD i v3D).k (ys.getD i v3D).n (ys.getD i v3D).s && sameV (xs.drop (i + 1)) (ys.drop (i + 1))) := by
  rw [List.drop_eq_getElem_cons hx, List.drop_eq_getElem_cons hy, sameV]
  simp [hx, hy]
theorem c_ref01_Key (v : V3) (hr : I64 v.n) : CallTy Tryd.prog f_ref01_Key [.is (.agg #[.int .i64 v.k, .int .i64 v.n, .string v.s])] (.tup2 (.rep (SlC bC 1 (keyR v).1)) (.is (.int .i64 (keyR v).2))) :=
  CallTy.of (fn := Tryd.f14) Tryd.func14 (n := 72) rfl rfl rfl (fun _ _ => by kernel_rfl) fun E W => by
  repeat refine J.seq ?_
  refine J.plain ?_
  refine JO.box rfl rfl fun b1 => ?_
  refine JO.t (ob_assign rfl) rfl ?_
  refine JO.t (ob_assign rfl) rfl ?_
  refine JO.nil ?_
  repeat (first | refine JX.next ?_ | refine JX.normal_block ?_)
  refine J.sel [1] (.cons rfl .nil) ?_
  repeat refine J.seq ?_
  refine J.plain ?_
  refine JO.t (ob_ldN (cs := [_, _, _]) sz_api_Value rfl rfl rfl) rfl ?_
  refine JO.t (ob_call rfl (c_ref01_Ok v) (.one rfl .nil)) rfl ?_
  refine JO.t (ob_not rfl) rfl ?_
  refine JO.nil ?_
  repeat (first | refine JX.next ?_ | refine JX.normal_block ?_)
  refine J.sel [1, 10] (.cons rfl (.cons rfl .nil)) ?_
  repeat refine J.seq ?_
  refine J.cond rfl (fun ht10 => ?_) (fun ht10 => ?_)
  ·
    try simp only [decide_eq_true_eq, decide_eq_false_iff_not] at ht10
    have hx := keyR_no (v := v) (by simpa using ht10)
    repeat refine J.seq ?_
    refine J.plain ?_
    refine JO.t (ob_assign rfl) rfl ?_
    refine JO.t (ob_assign rfl) rfl ?_
    refine JO.nil ?_
    repeat (first | refine JX.next ?_ | refine JX.normal_block ?_)
    refine J.sel [2, 3] (.cons rfl (.cons rfl .nil)) ?_
    repeat refine J.seq ?_
    refine J.ret ?_
    repeat (first | refine JX.ret_pass ?_ | refine JX.ret_block ?_)
    exact JX.ret2sub rfl rfl rfl (by rw [hx]; exact Sub.slNilC) rfl (Sub.isEq (by rw [hx]))
  ·
    try simp only [decide_eq_true_eq, decide_eq_false_iff_not] at ht10
    refine J.skip ?_
    repeat (first | refine JX.next ?_ | refine JX.normal_block ?_)
    have hok : okV v = true := by simpa using ht10
    have hk := ok_k hok
    have hs64 := ok_s3 hok
    repeat refine J.seq ?_
    refine J.plain ?_
    refine JO.t (ob_fieldAddr fo_api_Value_0 rfl) rfl ?_
    refine JO.t (ob_ld1 sz_int rfl rfl) rfl ?_
    refine JO.t (ob_convIIe ⟨_, un_int⟩ un_uint8 rfl (byte_wrap hk.1 (by omega))) rfl ?_
    refine JO.buildOwn (cs := [_]) sl_sl_uint8 (by omega) (by omega) (.cons rfl .nil) rfl rfl rfl rfl (fun b14 => ?_)
    refine JO.t (ob_assign rfl) rfl ?_
    refine JO.nil ?_
    repeat (first | refine JX.next ?_ | refine JX.normal_block ?_)
    refine J.sel [1, 4] (.cons rfl (.cons rfl .nil)) ?_
    repeat refine J.seq ?_
    refine J.plain ?_
    refine JO.t (ob_fieldAddr fo_api_Value_0 rfl) rfl ?_
    refine JO.t (ob_ld1 sz_int rfl rfl) rfl ?_
    refine JO.t (ob_eql rfl rfl) rfl ?_
    refine JO.nil ?_
    repeat (first | refine JX.next ?_ | refine JX.normal_block ?_)
    refine J.sel [1, 4, 17] (.cons rfl (.cons rfl (.cons rfl .nil))) ?_
    repeat refine J.seq ?_
    refine J.cond rfl (fun ht17 => ?_) (fun ht17 => ?_)
    ·
      try simp only [decide_eq_true_eq, decide_eq_false_iff_not] at ht17
      repeat refine J.seq ?_
      refine J.plain ?_
      refine JO.t (ob_fieldAddr fo_api_Value_1 rfl) rfl ?_
      refine JO.t (ob_ld1 sz_int64 rfl rfl) rfl ?_
      refine JO.t (ob_convIIe ⟨_, un_int64⟩ un_uint64 rfl (uns_wrap v.n)) rfl ?_
      refine JO.t (ob_addv rfl rfl (uns_bias hr)) rfl ?_
      refine JO.t (ob_call rfl (c_ref01_Eight (biasN v.n) (by have := bias_lt hr; rw [p256] at this; exact this)) (.one rfl .nil)) rfl ?_
      refine JO.t (ob_assign rfl) rfl ?_
      refine JO.nil ?_
      repeat (first | refine JX.next ?_ | refine JX.normal_block ?_)
      refine J.sel [1, 4, 5] (.cons rfl (.cons rfl (.cons rfl .nil))) ?_
      refine J.openSlC (s := 5) rfl (fun ae ne ce qe oe hle hae hce => ?_)
      rw [leN_len] at hle
      subst hle
      repeat refine J.seq ?_
      refine J.plain ?_
      refine JO.t (ob_assign rfl) rfl ?_
      refine JO.nil ?_
      repeat (first | refine JX.next ?_ | refine JX.normal_block ?_)
      refine J.sel [1, 4, 5, 6] (.cons rfl (.cons rfl (.cons rfl (.cons rfl .nil)))) ?_
      repeat refine J.seq ?_
      refine J.block ?_
      repeat refine J.seq ?_
      refine J.loopG (α := Nat × List UInt8 × Option (Nat × List Value) × Nat) (fun z => [(1, _), (4, .is (sliceO z.2.2.1 z.2.1.length z.2.2.2)), (5, .is (.slice ae 8 ce)), (6, .is (.int .i64 ((z.1 : Nat) - 1)))]) (fun z => ownO z.2.2.1 ty_uint8 [⟨b1, ty_api_Value, .is (.agg #[.int .i64 v.k, .int .i64 v.n, .string v.s])⟩]) (fun z => fun _ => True) (fun z => z.1 ≤ 8 ∧ z.2.1 = [UInt8.ofNat v.k.toNat] ++ ((leN 8 (biasN v.n)).drop z.1).reverse ∧ z.2.1.length + z.1 = 9 ∧ Grows bC 1 z.2.1 z.2.2.1 z.2.2.2) (fun z => z.1) (8, [UInt8.ofNat v.k.toNat], some (b14, bC (UInt8.ofNat v.k.toNat)), 1) [1, 4, 5, 6] (.cons rfl (.cons rfl (.cons rfl (.cons rfl .nil)))) rfl (fun _ => trivial) ⟨by omega, by rw [List.drop_of_length_le (by rw [leN_len]; omega)]; rfl, by simp, ⟨rfl, Nat.le_refl _, rfl⟩⟩ fun ⟨k, xs, st, cp⟩ ⟨hk8, hxs, hxl, hG⟩ => ?_
      try dsimp only
      try dsimp only at xs
      try dsimp only at st
      try dsimp only at cp
      try dsimp only at hk8
      try dsimp only at hxs
      try dsimp only at hxl
      try dsimp only at hG
      repeat refine J.seq ?_
      refine J.plain ?_
      refine JO.t (ob_move rfl) rfl ?_
      refine JO.t (ob_geq rfl rfl) rfl ?_
      refine JO.nil ?_
      repeat (first | refine JX.next ?_ | refine JX.normal_block ?_)
      refine J.sel [1, 4, 5, 6, 24] (.cons rfl (.cons rfl (.cons rfl (.cons rfl (.cons rfl .nil))))) ?_
      repeat refine J.seq ?_
      refine J.cond rfl (fun ht24 => ?_) (fun ht24 => ?_)
      ·
        try simp only [decide_eq_true_eq, decide_eq_false_iff_not] at ht24
        refine J.skip ?_
        repeat (first | refine JX.next ?_ | refine JX.normal_block ?_)
        repeat refine J.seq ?_
        refine J.block ?_
        repeat refine J.seq ?_
        refine J.plain ?_
        refine JO.t (ob_move rfl) rfl ?_
        refine JO.t (ob_move rfl) rfl ?_
        refine JO.t (ob_move rfl) rfl ?_
        refine JO.t (ob_indexAddr el_sl_uint8 rfl (hae (by decide)) rfl (by omega) (by omega)) rfl ?_
        refine JO.t (ob_loadG1 (enc := bC) (sz := 1) (len := 8) (i := k - 1) (j := 0) (xs := (leN 8 (biasN v.n))) (y := (leN 8 (biasN v.n)).getD (k - 1) 0) sz_uint8 rfl (by repeat (first | exact List.mem_cons_self | apply List.mem_cons_of_mem)) (hae (by decide)) (u8_get (by rw [leN_len]; omega)) (by omega) rfl) rfl ?_
        refine JO.t (ob_buildSlice (cs := [_]) sl_sl_uint8 (by omega) (by omega) (.cons rfl .nil) rfl rfl rfl) rfl ?_
        refine JO.apX ([(leN 8 (biasN v.n)).getD (k - 1) 0]) ap_sl_uint8 bC_len (by repeat (first | exact .here | apply Cx.past | apply Cx.there)) hG rfl rfl (fun L => src_new un_sl_uint8 rfl rfl) (by simp) (by simp <;> omega) (by simp <;> omega) rfl (fun st2 cp2 hG2 => ?_)
        try dsimp only
        refine JO.t (ob_assign rfl) rfl ?_
        refine JO.nil ?_
        repeat (first | refine JX.next ?_ | refine JX.normal_block ?_)
        refine J.sel [1, 4, 5, 6] (.cons rfl (.cons rfl (.cons rfl (.cons rfl .nil)))) ?_
        repeat refine J.seq ?_
        refine J.plain ?_
        refine JO.t (ob_move rfl) rfl ?_
        refine JO.t (ob_subc (cc := (((k - 1 : Nat) : Int) - 1)) rfl rfl (by omega) (by omega) (by omega)) rfl ?_
        refine JO.t (ob_assign rfl) rfl ?_
        refine JO.nil ?_
        repeat refine JX.normal_block ?_
        refine JX.roundG (x := ⟨k, xs, st, cp⟩) (k - 1, xs ++ [(leN 8 (biasN v.n)).getD (k - 1) 0], st2, cp2) ?_ ?_ [1, 4, 5, 6] ?_ ?_ ?_ ?_
        · exact ⟨by omega, by show xs ++ _ = _; rw [hxs, drop_rev (i := k - 1) (by rw [leN_len]; omega), show k - 1 + 1 = k by omega, List.append_assoc], by simp; omega, hG2⟩
        · exact (by simp only; omega)
        · exact (.cons rfl (.cons rfl (.cons rfl (.cons rfl .nil))))
        · repeat (first | exact .all | exact .nil | refine Has.own (by repeat (first | exact .here | apply Tl.past | apply Tl.there)) ?_ | refine Has.cons (by repeat (first | exact .here | apply Pk.past | apply Pk.there)) ?_)
        · exact fun G hG => by repeat (first | exact hG | refine List.mem_cons_of_mem _ ?_)
        · exact fun _ _ _ => fun _ _ => trivial
      ·
        try simp only [decide_eq_true_eq, decide_eq_false_iff_not] at ht24
        repeat refine J.seq ?_
        refine J.exit ?_
        repeat (first | refine JX.hit ?_ | refine JX.miss rfl ?_ | refine JX.exit_pass ?_)
        repeat (first | refine JX.next ?_ | refine JX.normal_block ?_)
        repeat refine J.seq ?_
        refine J.plain ?_
        refine JO.t (ob_fieldAddr fo_api_Value_0 rfl) rfl ?_
        refine JO.t (ob_ld1 sz_int rfl rfl) rfl ?_
        refine JO.t (ob_eql rfl rfl) rfl ?_
        refine JO.nil ?_
        repeat (first | refine JX.next ?_ | refine JX.normal_block ?_)
        refine J.sel [1, 4, 36] (.cons rfl (.cons rfl (.cons rfl .nil))) ?_
        repeat refine J.seq ?_
        refine J.cond rfl (fun ht36 => ?_) (fun ht36 => ?_)
        ·
          try simp only [decide_eq_true_eq, decide_eq_false_iff_not] at ht36
          exfalso
          have h1 := kp ht17; have h2 := kp ht36; omega
        ·
          try simp only [decide_eq_true_eq, decide_eq_false_iff_not] at ht36
          refine J.skip ?_
          repeat (first | refine JX.next ?_ | refine JX.normal_block ?_)
          repeat refine J.seq ?_
          refine J.plain ?_
          refine JO.t (ob_fieldAddr fo_api_Value_0 rfl) rfl ?_
          refine JO.t (ob_ld1 sz_int rfl rfl) rfl ?_
          refine JO.t (ob_eql rfl rfl) rfl ?_
          refine JO.nil ?_
          repeat (first | refine JX.next ?_ | refine JX.normal_block ?_)
          refine J.sel [1, 4, 45] (.cons rfl (.cons rfl (.cons rfl .nil))) ?_
          repeat refine J.seq ?_
          refine J.cond rfl (fun ht45 => ?_) (fun ht45 => ?_)
          ·
            try simp only [decide_eq_true_eq, decide_eq_false_iff_not] at ht45
            exfalso
            have h1 := kp ht17; have h2 := kp ht45; omega
          ·
            try simp only [decide_eq_true_eq, decide_eq_false_iff_not] at ht45
            refine J.skip ?_
            repeat (first | refine JX.next ?_ | refine JX.normal_block ?_)
            have hk0 : k = 0 := by omega
            subst hk0
            refine J.freezeO bC_len hG (e := ty_uint8) (by repeat (first | exact .here | apply Tl.past | apply Tl.there)) (fun _ h => h) rfl rfl ?_
            have hx : keyR v = (xs, 0) := keyR_ok hok (by unfold keyL keyP; rw [if_pos ht17, hxs]; rfl)
            repeat refine J.seq ?_
            refine J.plain ?_
            refine JO.t (ob_move rfl) rfl ?_
            refine JO.t (ob_assign rfl) rfl ?_
            refine JO.t (ob_assign rfl) rfl ?_
            refine JO.nil ?_
            repeat (first | refine JX.next ?_ | refine JX.normal_block ?_)
            refine J.sel [2, 3] (.cons rfl (.cons rfl .nil)) ?_
            repeat refine J.seq ?_
            refine J.ret ?_
            repeat (first | refine JX.ret_pass ?_ | refine JX.ret_block ?_)
            exact JX.ret2sub rfl rfl rfl (by rw [hx]; exact Sub.slOC hG (by repeat (first | exact List.mem_cons_self | apply List.mem_cons_of_mem))) rfl (Sub.isEq (by rw [hx]))
    ·
      try simp only [decide_eq_true_eq, decide_eq_false_iff_not] at ht17
      refine J.skip ?_
      repeat (first | refine JX.next ?_ | refine JX.normal_block ?_)
      repeat refine J.seq ?_
      refine J.plain ?_
      refine JO.t (ob_fieldAddr fo_api_Value_0 rfl) rfl ?_
      refine JO.t (ob_ld1 sz_int rfl rfl) rfl ?_
      refine JO.t (ob_eql rfl rfl) rfl ?_
      refine JO.nil ?_
      repeat (first | refine JX.next ?_ | refine JX.normal_block ?_)
      refine J.sel [1, 4, 36] (.cons rfl (.cons rfl (.cons rfl .nil))) ?_
      repeat refine J.seq ?_
      refine J.cond rfl (fun ht36 => ?_) (fun ht36 => ?_)
      ·
        try simp only [decide_eq_true_eq, decide_eq_false_iff_not] at ht36
        have hG0 : Grows bC 1 [UInt8.ofNat v.k.toNat] (some (b14, bC (UInt8.ofNat v.k.toNat))) 1 := ⟨rfl, Nat.le_refl _, rfl⟩
        repeat refine J.seq ?_
        refine J.plain ?_
        refine JO.t (ob_move rfl) rfl ?_
        refine JO.t (ob_fieldAddr fo_api_Value_1 rfl) rfl ?_
        refine JO.t (ob_ld1 sz_int64 rfl rfl) rfl ?_
        refine JO.t (ob_convIIe ⟨_, un_int64⟩ un_uint8 rfl (byte_wrap (ok_n2 hok ht36).1 (ok_n2 hok ht36).2)) rfl ?_
        refine JO.t (ob_buildSlice (cs := [_]) sl_sl_uint8 (by omega) (by omega) (.cons rfl .nil) rfl rfl rfl) rfl ?_
        refine JO.apX ([UInt8.ofNat v.n.toNat]) ap_sl_uint8 bC_len (by repeat (first | exact .here | apply Cx.past | apply Cx.there)) hG0 rfl rfl (fun L => src_new un_sl_uint8 rfl rfl) (by simp) (by simp <;> omega) (by simp <;> omega) rfl (fun st2 cp2 hG2 => ?_)
        try dsimp only
        refine JO.t (ob_assign rfl) rfl ?_
        refine JO.nil ?_
        repeat (first | refine JX.next ?_ | refine JX.normal_block ?_)
        refine J.sel [1, 4] (.cons rfl (.cons rfl .nil)) ?_
        repeat refine J.seq ?_
        refine J.plain ?_
        refine JO.t (ob_fieldAddr fo_api_Value_0 rfl) rfl ?_
        refine JO.t (ob_ld1 sz_int rfl rfl) rfl ?_
        refine JO.t (ob_eql rfl rfl) rfl ?_
        refine JO.nil ?_
        repeat (first | refine JX.next ?_ | refine JX.normal_block ?_)
        refine J.sel [1, 4, 45] (.cons rfl (.cons rfl (.cons rfl .nil))) ?_
        repeat refine J.seq ?_
        refine J.cond rfl (fun ht45 => ?_) (fun ht45 => ?_)
        ·
          try simp only [decide_eq_true_eq, decide_eq_false_iff_not] at ht45
          exfalso
          have h1 := kp ht36; have h2 := kp ht45; omega
        ·
          try simp only [decide_eq_true_eq, decide_eq_false_iff_not] at ht45
          refine J.skip ?_
          repeat (first | refine JX.next ?_ | refine JX.normal_block ?_)
          refine J.freezeO bC_len hG2 (e := ty_uint8) (by repeat (first | exact .here | apply Tl.past | apply Tl.there)) (fun _ h => h) rfl rfl ?_
          have hx : keyR v = ([UInt8.ofNat v.k.toNat] ++ [UInt8.ofNat v.n.toNat], 0) := keyR_ok hok (by unfold keyL keyP; rw [if_neg (kn ht17), if_pos ht36]; rfl)
          repeat refine J.seq ?_
          refine J.plain ?_
          refine JO.t (ob_move rfl) rfl ?_
          refine JO.t (ob_assign rfl) rfl ?_
          refine JO.t (ob_assign rfl) rfl ?_
          refine JO.nil ?_
          repeat (first | refine JX.next ?_ | refine JX.normal_block ?_)
          refine J.sel [2, 3] (.cons rfl (.cons rfl .nil)) ?_
          repeat refine J.seq ?_
          refine J.ret ?_
          repeat (first | refine JX.ret_pass ?_ | refine JX.ret_block ?_)
          exact JX.ret2sub rfl rfl rfl (by rw [hx]; exact Sub.slOC hG2 (by repeat (first | exact List.mem_cons_self | apply List.mem_cons_of_mem))) rfl (Sub.isEq (by rw [hx]))
      ·
        try simp only [decide_eq_true_eq, decide_eq_false_iff_not] at ht36
        refine J.skip ?_
        repeat (first | refine JX.next ?_ | refine JX.normal_block ?_)
        repeat refine J.seq ?_
        refine J.plain ?_
        refine JO.t (ob_fieldAddr fo_api_Value_0 rfl) rfl ?_
        refine JO.t (ob_ld1 sz_int rfl rfl) rfl ?_
        refine JO.t (ob_eql rfl rfl) rfl ?_
        refine JO.nil ?_
        repeat (first | refine JX.next ?_ | refine JX.normal_block ?_)
        refine J.sel [1, 4, 45] (.cons rfl (.cons rfl (.cons rfl .nil))) ?_
        repeat refine J.seq ?_
        refine J.cond rfl (fun ht45 => ?_) (fun ht45 => ?_)
        ·
          try simp only [decide_eq_true_eq, decide_eq_false_iff_not] at ht45
          skip
          repeat refine J.seq ?_
          refine J.plain ?_
          refine JO.t (ob_assign rfl) rfl ?_
          refine JO.nil ?_
          repeat (first | refine JX.next ?_ | refine JX.normal_block ?_)
          refine J.sel [1, 4, 7] (.cons rfl (.cons rfl (.cons rfl .nil))) ?_
          repeat refine J.seq ?_
          refine J.block ?_
          repeat refine J.seq ?_
          refine J.loopG (α := Nat × List UInt8 × Option (Nat × List Value) × Nat) (fun z => [(1, _), (4, .is (sliceO z.2.2.1 z.2.1.length z.2.2.2)), (7, .is (.int .i64 (z.1 : Nat)))]) (fun z => ownO z.2.2.1 ty_uint8 [⟨b1, ty_api_Value, .is (.agg #[.int .i64 v.k, .int .i64 v.n, .string v.s])⟩]) (fun z => fun _ => True) (fun z => z.1 ≤ v.s.size ∧ z.2.1 = [UInt8.ofNat v.k.toNat] ++ esc (v.s.data.toList.take z.1) ∧ z.2.1.length ≤ 1 + 2 * z.1 ∧ Grows bC 1 z.2.1 z.2.2.1 z.2.2.2) (fun z => v.s.size - z.1) (0, [UInt8.ofNat v.k.toNat], some (b14, bC (UInt8.ofNat v.k.toNat)), 1) [1, 4, 7] (.cons rfl (.cons rfl (.cons rfl .nil))) rfl (fun _ => trivial) ⟨by omega, rfl, by simp, ⟨rfl, Nat.le_refl _, rfl⟩⟩ fun ⟨i, xs, st, cp⟩ ⟨hi, hxs, hxl, hG⟩ => ?_
          try dsimp only
          try dsimp only at xs
          try dsimp only at st
          try dsimp only at cp
          try dsimp only at hi
          try dsimp only at hxs
          try dsimp only at hxl
          try dsimp only at hG
          repeat refine J.seq ?_
          refine J.plain ?_
          refine JO.t (ob_move rfl) rfl ?_
          refine JO.t (ob_fieldAddr fo_api_Value_2 rfl) rfl ?_
          refine JO.t (ob_ld1 sz_string rfl rfl) rfl ?_
          refine JO.t (ob_slen un_string rfl) rfl ?_
          refine JO.t (ob_lss rfl rfl) rfl ?_
          refine JO.nil ?_
          repeat (first | refine JX.next ?_ | refine JX.normal_block ?_)
          refine J.sel [1, 4, 7, 50] (.cons rfl (.cons rfl (.cons rfl (.cons rfl .nil)))) ?_
          repeat refine J.seq ?_
          refine J.cond rfl (fun ht50 => ?_) (fun ht50 => ?_)
          ·
            try simp only [decide_eq_true_eq, decide_eq_false_iff_not] at ht50
            refine J.skip ?_
            repeat (first | refine JX.next ?_ | refine JX.normal_block ?_)
            repeat refine J.seq ?_
            refine J.block ?_
            repeat refine J.seq ?_
            refine J.plain ?_
            refine JO.t (ob_move rfl) rfl ?_
            refine JO.t (ob_fieldAddr fo_api_Value_2 rfl) rfl ?_
            refine JO.t (ob_ld1 sz_string rfl rfl) rfl ?_
            refine JO.t (ob_move rfl) rfl ?_
            refine JO.t (ob_sindex un_string rfl rfl (by omega) (by omega)) rfl ?_
            refine JO.t (ob_buildSlice (cs := [_]) sl_sl_uint8 (by omega) (by omega) (.cons rfl .nil) rfl rfl rfl) rfl ?_
            refine JO.apX ([v.s.data.toList.getD i 0]) ap_sl_uint8 bC_len (by repeat (first | exact .here | apply Cx.past | apply Cx.there)) hG rfl rfl (fun L => src_new un_sl_uint8 rfl rfl) (by simp) (by simp <;> omega) (by simp <;> omega) rfl (fun st2 cp2 hG2 => ?_)
            try dsimp only
            refine JO.t (ob_assign rfl) rfl ?_
            refine JO.nil ?_
            repeat (first | refine JX.next ?_ | refine JX.normal_block ?_)
            refine J.sel [1, 4, 7] (.cons rfl (.cons rfl (.cons rfl .nil))) ?_
            repeat refine J.seq ?_
            refine J.plain ?_
            refine JO.t (ob_fieldAddr fo_api_Value_2 rfl) rfl ?_
            refine JO.t (ob_ld1 sz_string rfl rfl) rfl ?_
            refine JO.t (ob_move rfl) rfl ?_
            refine JO.t (ob_sindex un_string rfl rfl (by omega) (by omega)) rfl ?_
            refine JO.t (ob_eql rfl rfl) rfl ?_
            refine JO.nil ?_
            repeat (first | refine JX.next ?_ | refine JX.normal_block ?_)
            refine J.sel [1, 4, 7, 64] (.cons rfl (.cons rfl (.cons rfl (.cons rfl .nil)))) ?_
            repeat refine J.seq ?_
            refine J.cond rfl (fun ht64 => ?_) (fun ht64 => ?_)
            ·
              try simp only [decide_eq_true_eq, decide_eq_false_iff_not] at ht64
              repeat refine J.seq ?_
              refine J.plain ?_
              refine JO.t (ob_move rfl) rfl ?_
              refine JO.t (ob_buildSlice (cs := [_]) sl_sl_uint8 (by omega) (by omega) (.cons rfl .nil) rfl rfl rfl) rfl ?_
              refine JO.apX ([255]) ap_sl_uint8 bC_len (by repeat (first | exact .here | apply Cx.past | apply Cx.there)) hG2 rfl rfl (fun L => src_new un_sl_uint8 rfl rfl) (by simp) (by simp <;> omega) (by simp <;> omega) rfl (fun st3 cp3 hG3 => ?_)
              try dsimp only
              refine JO.t (ob_assign rfl) rfl ?_
              refine JO.nil ?_
              repeat (first | refine JX.next ?_ | refine JX.normal_block ?_)
              refine J.sel [1, 4, 7] (.cons rfl (.cons rfl (.cons rfl .nil))) ?_
              repeat refine J.seq ?_
              refine J.plain ?_
              refine JO.t (ob_move rfl) rfl ?_
              refine JO.t (ob_addc (cc := ((i + 1 : Nat) : Int)) rfl rfl (by omega) (by omega) (by omega)) rfl ?_
              refine JO.t (ob_assign rfl) rfl ?_
              refine JO.nil ?_
              repeat refine JX.normal_block ?_
              refine JX.roundG (x := ⟨i, xs, st, cp⟩) (i + 1, (xs ++ [v.s.data.toList.getD i 0]) ++ [255], st3, cp3) ?_ ?_ [1, 4, 7] ?_ ?_ ?_ ?_
              · exact ⟨by omega, by show (xs ++ _) ++ _ = _; rw [hxs, esc_s0 (i := i) (by omega) ht64]; simp, by simp; omega, hG3⟩
              · exact (by simp only; omega)
              · exact (.cons rfl (.cons rfl (.cons rfl .nil)))
              · repeat (first | exact .all | exact .nil | refine Has.own (by repeat (first | exact .here | apply Tl.past | apply Tl.there)) ?_ | refine Has.cons (by repeat (first | exact .here | apply Pk.past | apply Pk.there)) ?_)
              · exact fun G hG => by repeat (first | exact hG | refine List.mem_cons_of_mem _ ?_)
              · exact fun _ _ _ => fun _ _ => trivial
            ·
              try simp only [decide_eq_true_eq, decide_eq_false_iff_not] at ht64
              refine J.skip ?_
              repeat (first | refine JX.next ?_ | refine JX.normal_block ?_)
              repeat refine J.seq ?_
              refine J.plain ?_
              refine JO.t (ob_move rfl) rfl ?_
              refine JO.t (ob_addc (cc := ((i + 1 : Nat) : Int)) rfl rfl (by omega) (by omega) (by omega)) rfl ?_
              refine JO.t (ob_assign rfl) rfl ?_
              refine JO.nil ?_
              repeat refine JX.normal_block ?_
              refine JX.roundG (x := ⟨i, xs, st, cp⟩) (i + 1, xs ++ [v.s.data.toList.getD i 0], st2, cp2) ?_ ?_ [1, 4, 7] ?_ ?_ ?_ ?_
              · exact ⟨by omega, by show xs ++ _ = _; rw [hxs, esc_s1 (i := i) (by omega) ht64, List.append_assoc], by simp; omega, hG2⟩
              · exact (by simp only; omega)
              · exact (.cons rfl (.cons rfl (.cons rfl .nil)))
              · repeat (first | exact .all | exact .nil | refine Has.own (by repeat (first | exact .here | apply Tl.past | apply Tl.there)) ?_ | refine Has.cons (by repeat (first | exact .here | apply Pk.past | apply Pk.there)) ?_)
              · exact fun G hG => by repeat (first | exact hG | refine List.mem_cons_of_mem _ ?_)
              · exact fun _ _ _ => fun _ _ => trivial
          ·
            try simp only [decide_eq_true_eq, decide_eq_false_iff_not] at ht50
            repeat refine J.seq ?_
            refine J.exit ?_
            repeat (first | refine JX.hit ?_ | refine JX.miss rfl ?_ | refine JX.exit_pass ?_)
            repeat (first | refine JX.next ?_ | refine JX.normal_block ?_)
            repeat refine J.seq ?_
            refine J.plain ?_
            refine JO.t (ob_move rfl) rfl ?_
            refine JO.t (ob_buildSlice (cs := [_, _]) sl_sl_uint8 (by omega) (by omega) (.cons rfl (.cons rfl .nil)) rfl rfl rfl) rfl ?_
            refine JO.apX ([0, 0]) ap_sl_uint8 bC_len (by repeat (first | exact .here | apply Cx.past | apply Cx.there)) hG rfl rfl (fun L => src_new un_sl_uint8 rfl rfl) (by simp) (by simp <;> omega) (by simp <;> omega) rfl (fun st4 cp4 hG4 => ?_)
            try dsimp only
            refine JO.t (ob_assign rfl) rfl ?_
            refine JO.nil ?_
            repeat (first | refine JX.next ?_ | refine JX.normal_block ?_)
            refine J.sel [4] (.cons rfl .nil) ?_
            refine J.freezeO bC_len hG4 (e := ty_uint8) (by repeat (first | exact .here | apply Tl.past | apply Tl.there)) (fun _ h => h) rfl rfl ?_
            have hx : keyR v = (xs ++ [0, 0], 0) := keyR_ok hok (by unfold keyL keyP; rw [if_neg (kn ht17), if_neg (kn ht36), if_pos ht45, hxs, esc_end (by omega), List.append_assoc]; rfl)
            repeat refine J.seq ?_
            refine J.plain ?_
            refine JO.t (ob_move rfl) rfl ?_
            refine JO.t (ob_assign rfl) rfl ?_
            refine JO.t (ob_assign rfl) rfl ?_
            refine JO.nil ?_
            repeat (first | refine JX.next ?_ | refine JX.normal_block ?_)
            refine J.sel [2, 3] (.cons rfl (.cons rfl .nil)) ?_
            repeat refine J.seq ?_
            refine J.ret ?_
            repeat (first | refine JX.ret_pass ?_ | refine JX.ret_block ?_)
            exact JX.ret2sub rfl rfl rfl (by rw [hx]; exact Sub.slOC hG4 (by repeat (first | exact List.mem_cons_self | apply List.mem_cons_of_mem))) rfl (Sub.isEq (by rw [hx]))
        ·
          try simp only [decide_eq_true_eq, decide_eq_false_iff_not] at ht45
          refine J.skip ?_
          repeat (first | refine JX.next ?_ | refine JX.normal_block ?_)
          have hG0 : Grows bC 1 [UInt8.ofNat v.k.toNat] (some (b14, bC (UInt8.ofNat v.k.toNat))) 1 := ⟨rfl, Nat.le_refl _, rfl⟩
          refine J.freezeO bC_len hG0 (e := ty_uint8) (by repeat (first | exact .here | apply Tl.past | apply Tl.there)) (fun _ h => h) rfl rfl ?_
          have hx : keyR v = ([UInt8.ofNat v.k.toNat], 0) := keyR_ok hok (by unfold keyL keyP; rw [if_neg (kn ht17), if_neg (kn ht36), if_neg (kn ht45)])
          repeat refine J.seq ?_
          refine J.plain ?_
          refine JO.t (ob_move rfl) rfl ?_
          refine JO.t (ob_assign rfl) rfl ?_
          refine JO.t (ob_assign rfl) rfl ?_
          refine JO.nil ?_
          repeat (first | refine JX.next ?_ | refine JX.normal_block ?_)
          refine J.sel [2, 3] (.cons rfl (.cons rfl .nil)) ?_
          repeat refine J.seq ?_
          refine J.ret ?_
          repeat (first | refine JX.ret_pass ?_ | refine JX.ret_block ?_)
          exact JX.ret2sub rfl rfl rfl (by rw [hx]; exact Sub.slOC hG0 (by repeat (first | exact List.mem_cons_self | apply List.mem_cons_of_mem))) rfl (Sub.isEq (by rw [hx]))
theorem c_ref01_Show (v : V3) (hr : I64 v.n) : CallTy Tryd.prog f_ref01_Show [.is (.agg #[.int .i64 v.k, .int .i64 v.n, .string v.s])] (.is (.string (showV v))) :=
  CallTy.of (fn := Tryd.f20) Tryd.func20 (n := 72) rfl rfl rfl (fun _ _ => by kernel_rfl) fun E W => by
  repeat refine J.seq ?_
  refine J.plain ?_
  refine JO.box rfl rfl fun b1 => ?_
  refine JO.t (ob_assign rfl) rfl ?_
  refine JO.nil ?_
  repeat (first | refine JX.next ?_ | refine JX.normal_block ?_)
  refine J.sel [1] (.cons rfl .nil) ?_
  repeat refine J.seq ?_
  refine J.plain ?_
  refine JO.t (ob_ldN (cs := [_, _, _]) sz_api_Value rfl rfl rfl) rfl ?_
  refine JO.t (ob_call rfl (c_ref01_Ok v) (.one rfl .nil)) rfl ?_
  refine JO.t (ob_not rfl) rfl ?_
  refine JO.nil ?_
  repeat (first | refine JX.next ?_ | refine JX.normal_block ?_)
  refine J.sel [1, 10] (.cons rfl (.cons rfl .nil)) ?_
  repeat refine J.seq ?_
  refine J.cond rfl (fun ht10 => ?_) (fun ht10 => ?_)
  ·
    try simp only [decide_eq_true_eq, decide_eq_false_iff_not] at ht10
    have hx := rshow_no (v := v) (by simpa using ht10)
    repeat refine J.seq ?_
    refine J.plain ?_
    refine JO.t (ob_assign rfl) rfl ?_
    refine JO.nil ?_
    repeat (first | refine JX.next ?_ | refine JX.normal_block ?_)
    refine J.sel [2] (.cons rfl .nil) ?_
    repeat refine J.seq ?_
    refine J.ret ?_
    repeat (first | refine JX.ret_pass ?_ | refine JX.ret_block ?_)
    exact JX.ret1is rfl rfl (by rw [hx])
  ·
    try simp only [decide_eq_true_eq, decide_eq_false_iff_not] at ht10
    refine J.skip ?_
    repeat (first | refine JX.next ?_ | refine JX.normal_block ?_)
    have hok : okV v = true := by simpa using ht10
    have hs64 := ok_s3 hok
    have hz := len_sz v.s
    repeat refine J.seq ?_
    refine J.plain ?_
    refine JO.t (ob_fieldAddr fo_api_Value_0 rfl) rfl ?_
    refine JO.t (ob_ld1 sz_int rfl rfl) rfl ?_
    refine JO.nil ?_
    repeat (first | refine JX.next ?_ | refine JX.normal_block ?_)
    refine J.sel [1, 12] (.cons rfl (.cons rfl .nil)) ?_
    repeat refine J.seq ?_
    refine J.block ?_
    repeat refine J.seq ?_
    refine J.plain ?_
    refine JO.t (ob_eql rfl rfl) rfl ?_
    refine JO.t (ob_assign rfl) rfl ?_
    refine JO.nil ?_
    repeat (first | refine JX.next ?_ | refine JX.normal_block ?_)
    refine J.sel [1, 12, 13] (.cons rfl (.cons rfl (.cons rfl .nil))) ?_
    repeat refine J.seq ?_
    refine J.cond rfl (fun ht13 => ?_) (fun ht13 => ?_)
    ·
      try simp only [decide_eq_true_eq, decide_eq_false_iff_not] at ht13
      repeat refine J.seq ?_
      refine J.plain ?_
      refine JO.t (ob_assign rfl) rfl ?_
      refine JO.nil ?_
      repeat (first | refine JX.next ?_ | refine JX.normal_block ?_)
      refine J.sel [1, 3] (.cons rfl (.cons rfl .nil)) ?_
      repeat refine J.seq ?_
      refine J.plain ?_
      refine JO.t (ob_fieldAddr fo_api_Value_1 rfl) rfl ?_
      refine JO.t (ob_ld1 sz_int64 rfl rfl) rfl ?_
      refine JO.t (ob_convIIe ⟨_, un_int64⟩ un_uint64 rfl (uns_wrap v.n)) rfl ?_
      refine JO.t (ob_assign rfl) rfl ?_
      refine JO.nil ?_
      repeat (first | refine JX.next ?_ | refine JX.normal_block ?_)
      refine J.sel [1, 3, 4] (.cons rfl (.cons rfl (.cons rfl .nil))) ?_
      repeat refine J.seq ?_
      refine J.plain ?_
      refine JO.t (ob_fieldAddr fo_api_Value_1 rfl) rfl ?_
      refine JO.t (ob_ld1 sz_int64 rfl rfl) rfl ?_
      refine JO.t (ob_lss rfl rfl) rfl ?_
      refine JO.nil ?_
      repeat (first | refine JX.next ?_ | refine JX.normal_block ?_)
      refine J.sel [1, 3, 4, 20] (.cons rfl (.cons rfl (.cons rfl (.cons rfl .nil)))) ?_
      repeat refine J.seq ?_
      refine J.cond rfl (fun ht20 => ?_) (fun ht20 => ?_)
      ·
        try simp only [decide_eq_true_eq, decide_eq_false_iff_not] at ht20
        repeat refine J.seq ?_
        refine J.plain ?_
        refine JO.t (ob_move rfl) rfl ?_
        refine JO.t (ob_negv rfl (neg_uns hr (by omega))) rfl ?_
        refine JO.t (ob_assign rfl) rfl ?_
        refine JO.nil ?_
        repeat (first | refine JX.next ?_ | refine JX.normal_block ?_)
        refine J.sel [1, 3, 4] (.cons rfl (.cons rfl (.cons rfl .nil))) ?_
        repeat refine J.seq ?_
        refine J.block ?_
        repeat refine J.seq ?_
        refine J.loopF (α := Nat × List UInt8) (fun z => [(1, _), (3, .is (.string (bl z.2))), (4, .is (.int .u64 (z.1 : Nat)))]) (fun z => ShowI v.n.natAbs z.1 z.2 ∧ z.1 < 18446744073709551616 ∧ DigL z.1 z.2) (fun z => muD z.1 z.2) (v.n.natAbs, []) [1, 3, 4] (.cons rfl (.cons rfl (.cons rfl .nil))) ⟨.inr ⟨.inr rfl, List.append_nil _⟩, abs_lt hr, digL_0 (abs_lt hr)⟩ fun ⟨w, ds⟩ ⟨hS, hw, hD⟩ => ?_
        try dsimp only at ds
        try dsimp only at hS
        try dsimp only at hw
        try dsimp only at hD
        repeat refine J.seq ?_
        refine J.reg0 hmx (by kernel_rfl) (by kernel_rfl) ?_
        refine RT.t (ob_move rfl) ?_
        refine RT.t (ob_seql rfl rfl) ?_
        refine RT.t (ob_move rfl) ?_
        refine RT.g rfl rfl rfl (fun hg => ob_move (.inl rfl)) ?_
        refine RT.g rfl rfl rfl (fun hg => ob_gtr (.inr ⟨_, rfl, fun h => h⟩) (.inl rfl)) ?_
        refine RT.t (ob_pickOr rfl rfl rfl id) ?_
        refine RT.nil ?_
        refine FinS.nil0 ?_
        repeat (first | refine JX.next ?_ | refine JX.normal_block ?_)
        refine J.sel [1, 3, 4, 28] (.cons rfl (.cons rfl (.cons rfl (.cons rfl .nil)))) ?_
        repeat refine J.seq ?_
        refine J.cond rfl (fun ht28 => ?_) (fun ht28 => ?_)
        ·
          try simp only [decide_eq_true_eq, decide_eq_false_iff_not] at ht28
          refine J.skip ?_
          repeat (first | refine JX.next ?_ | refine JX.normal_block ?_)
          repeat refine J.seq ?_
          refine J.block ?_
          have hcd : ds = [] ∨ 0 < w := by
            rcases or_true2 ht28 with h | h
            · exact .inl ((seq_nil ds).1 h)
            · simp at h; exact .inr (by omega)
          have hdl := digL_le hD
          repeat refine J.seq ?_
          refine J.plain ?_
          refine JO.t (ob_move rfl) rfl ?_
          refine JO.t (ob_rem rfl rfl (by decide)) rfl ?_
          refine JO.t (ob_add rfl rfl) rfl ?_
          refine JO.t (ob_convIIe ⟨_, un_uint64⟩ un_uint8 rfl (dig_wrap w)) rfl ?_
          refine JO.t (ob_buildSlice (cs := [_]) sl_sl_uint8 (by omega) (by omega) (.cons rfl .nil) rfl rfl rfl) rfl ?_
          refine JO.openNew (s := 33) rfl (fun b33 => ?_)
          refine JO.fact (RowG bC 1 [UInt8.ofNat (48 + w % 10)] (some ⟨b33, 0, none⟩) 1) (fun E w_ hF _ => fun w1 hk => row_own bC_len rfl rfl (hF _ List.mem_cons_self w1 hk)) ?_
          refine JO.t (ob_str un_sl_uint8 un_uint8 un_string rfl (by repeat (first | exact List.mem_cons_self | apply List.mem_cons_of_mem))) rfl ?_
          refine JO.t (ob_move rfl) rfl ?_
          refine JO.t (ob_saddv (u := bl (UInt8.ofNat (48 + w % 10) :: ds)) rfl rfl (by show (bl [_]).size + (bl ds).size ≤ _; rw [bl_size, bl_size]; simp; omega) (bl_cons _ _)) rfl ?_
          refine JO.t (ob_assign rfl) rfl ?_
          refine JO.nil ?_
          repeat (first | refine JX.next ?_ | refine JX.normal_block ?_)
          refine J.sel [1, 3, 4] (.cons rfl (.cons rfl (.cons rfl .nil))) ?_
          repeat refine J.seq ?_
          refine J.plain ?_
          refine JO.t (ob_move rfl) rfl ?_
          refine JO.t (ob_quov rfl rfl (by decide) (quo10 hw)) rfl ?_
          refine JO.t (ob_assign rfl) rfl ?_
          refine JO.nil ?_
          repeat refine JX.normal_block ?_
          refine JX.roundS (w / 10, UInt8.ofNat (48 + w % 10) :: ds) ?_ ?_ [1, 3, 4] ?_ ?_ ?_
          · exact ⟨show_step hS hcd, by show w / 10 < _; omega, digL_next hD hcd⟩
          · exact (muD_lt hcd)
          · exact (.cons rfl (.cons rfl (.cons rfl .nil)))
          · repeat (first | exact .slnil | apply List.Sublist.cons_cons | apply List.Sublist.cons)
          · repeat (first | exact .slnil | apply List.Sublist.cons_cons | apply List.Sublist.cons)
        ·
          try simp only [decide_eq_true_eq, decide_eq_false_iff_not] at ht28
          repeat refine J.seq ?_
          refine J.exit ?_
          repeat (first | refine JX.hit ?_ | refine JX.miss rfl ?_ | refine JX.exit_pass ?_)
          repeat (first | refine JX.next ?_ | refine JX.normal_block ?_)
          have hde := show_end hS (show_stop ht28)
          repeat refine J.seq ?_
          refine J.plain ?_
          refine JO.t (ob_fieldAddr fo_api_Value_1 rfl) rfl ?_
          refine JO.t (ob_ld1 sz_int64 rfl rfl) rfl ?_
          refine JO.t (ob_lss rfl rfl) rfl ?_
          refine JO.nil ?_
          repeat (first | refine JX.next ?_ | refine JX.normal_block ?_)
          refine J.sel [3, 41] (.cons rfl (.cons rfl .nil)) ?_
          repeat refine J.seq ?_
          refine J.cond rfl (fun ht41 => ?_) (fun ht41 => ?_)
          ·
            try simp only [decide_eq_true_eq, decide_eq_false_iff_not] at ht41
            repeat refine J.seq ?_
            refine J.plain ?_
            refine JO.t (ob_move rfl) rfl ?_
            refine JO.t (ob_saddv (u := bl (45 :: ds)) rfl rfl (by show (bl [_]).size + (bl ds).size ≤ _; rw [bl_size, bl_size]; have := digL_le hD; simp; omega) (bl_cons _ _)) rfl ?_
            refine JO.t (ob_assign rfl) rfl ?_
            refine JO.nil ?_
            repeat (first | refine JX.next ?_ | refine JX.normal_block ?_)
            refine J.sel [3] (.cons rfl .nil) ?_
            repeat refine J.seq ?_
            refine J.plain ?_
            refine JO.t (ob_move rfl) rfl ?_
            refine JO.t (ob_assign rfl) rfl ?_
            refine JO.nil ?_
            repeat (first | refine JX.next ?_ | refine JX.normal_block ?_)
            refine J.sel [2] (.cons rfl .nil) ?_
            repeat refine J.seq ?_
            refine J.ret ?_
            repeat (first | refine JX.ret_pass ?_ | refine JX.ret_block ?_)
            exact JX.ret1is rfl rfl (by rw [rshow_int hok ht13 (r := bl (45 :: ds)) (by rw [bl_list, itoa_abs, if_pos (by omega), hde])])
          ·
            try simp only [decide_eq_true_eq, decide_eq_false_iff_not] at ht41
            exfalso
            omega
      ·
        try simp only [decide_eq_true_eq, decide_eq_false_iff_not] at ht20
        refine J.skip ?_
        repeat (first | refine JX.next ?_ | refine JX.normal_block ?_)
        repeat refine J.seq ?_
        refine J.block ?_
        repeat refine J.seq ?_
        refine J.loopF (α := Nat × List UInt8) (fun z => [(1, _), (3, .is (.string (bl z.2))), (4, .is (.int .u64 (z.1 : Nat)))]) (fun z => ShowI v.n.natAbs z.1 z.2 ∧ z.1 < 18446744073709551616 ∧ DigL z.1 z.2) (fun z => muD z.1 z.2) (unsN v.n, []) [1, 3, 4] (.cons rfl (.cons rfl (.cons rfl .nil))) ⟨by rw [uns_nat hr (by omega)]; exact .inr ⟨.inr rfl, List.append_nil _⟩, by rw [uns_nat hr (by omega)]; exact abs_lt hr, by rw [uns_nat hr (by omega)]; exact digL_0 (abs_lt hr)⟩ fun ⟨w, ds⟩ ⟨hS, hw, hD⟩ => ?_
        try dsimp only at ds
        try dsimp only at hS
        try dsimp only at hw
        try dsimp only at hD
        repeat refine J.seq ?_
        refine J.reg0 hmx (by kernel_rfl) (by kernel_rfl) ?_
        refine RT.t (ob_move rfl) ?_
        refine RT.t (ob_seql rfl rfl) ?_
        refine RT.t (ob_move rfl) ?_
        refine RT.g rfl rfl rfl (fun hg => ob_move (.inl rfl)) ?_
        refine RT.g rfl rfl rfl (fun hg => ob_gtr (.inr ⟨_, rfl, fun h => h⟩) (.inl rfl)) ?_
        refine RT.t (ob_pickOr rfl rfl rfl id) ?_
        refine RT.nil ?_
        refine FinS.nil0 ?_
        repeat (first | refine JX.next ?_ | refine JX.normal_block ?_)
        refine J.sel [1, 3, 4, 28] (.cons rfl (.cons rfl (.cons rfl (.cons rfl .nil)))) ?_
        repeat refine J.seq ?_
        refine J.cond rfl (fun ht28 => ?_) (fun ht28 => ?_)
        ·
          try simp only [decide_eq_true_eq, decide_eq_false_iff_not] at ht28
          refine J.skip ?_
          repeat (first | refine JX.next ?_ | refine JX.normal_block ?_)
          repeat refine J.seq ?_
          refine J.block ?_
          have hcd : ds = [] ∨ 0 < w := by
            rcases or_true2 ht28 with h | h
            · exact .inl ((seq_nil ds).1 h)
            · simp at h; exact .inr (by omega)
          have hdl := digL_le hD
          repeat refine J.seq ?_
          refine J.plain ?_
          refine JO.t (ob_move rfl) rfl ?_
          refine JO.t (ob_rem rfl rfl (by decide)) rfl ?_
          refine JO.t (ob_add rfl rfl) rfl ?_
          refine JO.t (ob_convIIe ⟨_, un_uint64⟩ un_uint8 rfl (dig_wrap w)) rfl ?_
          refine JO.t (ob_buildSlice (cs := [_]) sl_sl_uint8 (by omega) (by omega) (.cons rfl .nil) rfl rfl rfl) rfl ?_
          refine JO.openNew (s := 33) rfl (fun b33 => ?_)
          refine JO.fact (RowG bC 1 [UInt8.ofNat (48 + w % 10)] (some ⟨b33, 0, none⟩) 1) (fun E w_ hF _ => fun w1 hk => row_own bC_len rfl rfl (hF _ List.mem_cons_self w1 hk)) ?_
          refine JO.t (ob_str un_sl_uint8 un_uint8 un_string rfl (by repeat (first | exact List.mem_cons_self | apply List.mem_cons_of_mem))) rfl ?_
          refine JO.t (ob_move rfl) rfl ?_
          refine JO.t (ob_saddv (u := bl (UInt8.ofNat (48 + w % 10) :: ds)) rfl rfl (by show (bl [_]).size + (bl ds).size ≤ _; rw [bl_size, bl_size]; simp; omega) (bl_cons _ _)) rfl ?_
          refine JO.t (ob_assign rfl) rfl ?_
          refine JO.nil ?_
          repeat (first | refine JX.next ?_ | refine JX.normal_block ?_)
          refine J.sel [1, 3, 4] (.cons rfl (.cons rfl (.cons rfl .nil))) ?_
          repeat refine J.seq ?_
          refine J.plain ?_
          refine JO.t (ob_move rfl) rfl ?_
          refine JO.t (ob_quov rfl rfl (by decide) (quo10 hw)) rfl ?_
          refine JO.t (ob_assign rfl) rfl ?_
          refine JO.nil ?_
          repeat refine JX.normal_block ?_
          refine JX.roundS (w / 10, UInt8.ofNat (48 + w % 10) :: ds) ?_ ?_ [1, 3, 4] ?_ ?_ ?_
          · exact ⟨show_step hS hcd, by show w / 10 < _; omega, digL_next hD hcd⟩
          · exact (muD_lt hcd)
          · exact (.cons rfl (.cons rfl (.cons rfl .nil)))
          · repeat (first | exact .slnil | apply List.Sublist.cons_cons | apply List.Sublist.cons)
          · repeat (first | exact .slnil | apply List.Sublist.cons_cons | apply List.Sublist.cons)
        ·
          try simp only [decide_eq_true_eq, decide_eq_false_iff_not] at ht28
          repeat refine J.seq ?_
          refine J.exit ?_
          repeat (first | refine JX.hit ?_ | refine JX.miss rfl ?_ | refine JX.exit_pass ?_)
          repeat (first | refine JX.next ?_ | refine JX.normal_block ?_)
          have hde := show_end hS (show_stop ht28)
          repeat refine J.seq ?_
          refine J.plain ?_
          refine JO.t (ob_fieldAddr fo_api_Value_1 rfl) rfl ?_
          refine JO.t (ob_ld1 sz_int64 rfl rfl) rfl ?_
          refine JO.t (ob_lss rfl rfl) rfl ?_
          refine JO.nil ?_
          repeat (first | refine JX.next ?_ | refine JX.normal_block ?_)
          refine J.sel [3, 41] (.cons rfl (.cons rfl .nil)) ?_
          repeat refine J.seq ?_
          refine J.cond rfl (fun ht41 => ?_) (fun ht41 => ?_)
          ·
            try simp only [decide_eq_true_eq, decide_eq_false_iff_not] at ht41
            exfalso
            omega
          ·
            try simp only [decide_eq_true_eq, decide_eq_false_iff_not] at ht41
            refine J.skip ?_
            repeat (first | refine JX.next ?_ | refine JX.normal_block ?_)
            repeat refine J.seq ?_
            refine J.plain ?_
            refine JO.t (ob_move rfl) rfl ?_
            refine JO.t (ob_assign rfl) rfl ?_
            refine JO.nil ?_
            repeat (first | refine JX.next ?_ | refine JX.normal_block ?_)
            refine J.sel [2] (.cons rfl .nil) ?_
            repeat refine J.seq ?_
            refine J.ret ?_
            repeat (first | refine JX.ret_pass ?_ | refine JX.ret_block ?_)
            exact JX.ret1is rfl rfl (by rw [rshow_int hok ht13 (r := bl ds) (by rw [bl_list, itoa_abs, if_neg (by omega), hde])])
    ·
      try simp only [decide_eq_true_eq, decide_eq_false_iff_not] at ht13
      repeat refine J.seq ?_
      refine J.plain ?_
      refine JO.t (ob_eql rfl rfl) rfl ?_
      refine JO.t (ob_assign rfl) rfl ?_
      refine JO.nil ?_
      repeat (first | refine JX.next ?_ | refine JX.normal_block ?_)
      refine J.sel [1, 12, 45] (.cons rfl (.cons rfl (.cons rfl .nil))) ?_
      repeat refine J.seq ?_
      refine J.cond rfl (fun ht45 => ?_) (fun ht45 => ?_)
      ·
        try simp only [decide_eq_true_eq, decide_eq_false_iff_not] at ht45
        repeat refine J.seq ?_
        refine J.plain ?_
        refine JO.t (ob_fieldAddr fo_api_Value_1 rfl) rfl ?_
        refine JO.t (ob_ld1 sz_int64 rfl rfl) rfl ?_
        refine JO.t (ob_eql rfl rfl) rfl ?_
        refine JO.nil ?_
        repeat (first | refine JX.next ?_ | refine JX.normal_block ?_)
        refine J.sel [49] (.cons rfl .nil) ?_
        repeat refine J.seq ?_
        refine J.cond rfl (fun ht49 => ?_) (fun ht49 => ?_)
        ·
          try simp only [decide_eq_true_eq, decide_eq_false_iff_not] at ht49
          repeat refine J.seq ?_
          refine J.plain ?_
          refine JO.t (ob_assign rfl) rfl ?_
          refine JO.nil ?_
          repeat (first | refine JX.next ?_ | refine JX.normal_block ?_)
          refine J.sel [2] (.cons rfl .nil) ?_
          repeat refine J.seq ?_
          refine J.ret ?_
          repeat (first | refine JX.ret_pass ?_ | refine JX.ret_block ?_)
          exact JX.ret1is rfl rfl (by rw [rshow_bool hok ht13 ht45 ht49]; rfl)
        ·
          try simp only [decide_eq_true_eq, decide_eq_false_iff_not] at ht49
          refine J.skip ?_
          repeat (first | refine JX.next ?_ | refine JX.normal_block ?_)
          repeat refine J.seq ?_
          refine J.plain ?_
          refine JO.t (ob_assign rfl) rfl ?_
          refine JO.nil ?_
          repeat (first | refine JX.next ?_ | refine JX.normal_block ?_)
          refine J.sel [2] (.cons rfl .nil) ?_
          repeat refine J.seq ?_
          refine J.ret ?_
          repeat (first | refine JX.ret_pass ?_ | refine JX.ret_block ?_)
          exact JX.ret1is rfl rfl (by rw [rshow_bool hok ht13 ht45 ht49]; rfl)
      ·
        try simp only [decide_eq_true_eq, decide_eq_false_iff_not] at ht45
        repeat refine J.seq ?_
        refine J.plain ?_
        refine JO.t (ob_eql rfl rfl) rfl ?_
        refine JO.t (ob_assign rfl) rfl ?_
        refine JO.nil ?_
        repeat (first | refine JX.next ?_ | refine JX.normal_block ?_)
        refine J.sel [1, 50] (.cons rfl (.cons rfl .nil)) ?_
        repeat refine J.seq ?_
        refine J.cond rfl (fun ht50 => ?_) (fun ht50 => ?_)
        ·
          try simp only [decide_eq_true_eq, decide_eq_false_iff_not] at ht50
          repeat refine J.seq ?_
          refine J.plain ?_
          refine JO.t (ob_assign rfl) rfl ?_
          refine JO.nil ?_
          repeat (first | refine JX.next ?_ | refine JX.normal_block ?_)
          refine J.sel [1, 5] (.cons rfl (.cons rfl .nil)) ?_
          repeat refine J.seq ?_
          refine J.plain ?_
          refine JO.t (ob_assign rfl) rfl ?_
          refine JO.nil ?_
          repeat (first | refine JX.next ?_ | refine JX.normal_block ?_)
          refine J.sel [1, 5, 6] (.cons rfl (.cons rfl (.cons rfl .nil))) ?_
          repeat refine J.seq ?_
          refine J.block ?_
          repeat refine J.seq ?_
          refine J.loopF (α := Nat) (fun i => [(1, _), (5, .is (.string (bl (39 :: dbl (v.s.data.toList.take i))))), (6, .is (.int .i64 (i : Nat)))]) (fun i => i ≤ v.s.size) (fun i => v.s.size - i) 0 [1, 5, 6] (.cons rfl (.cons rfl (.cons rfl .nil))) (Nat.zero_le _) fun i hi => ?_
          repeat refine J.seq ?_
          refine J.plain ?_
          refine JO.t (ob_move rfl) rfl ?_
          refine JO.t (ob_fieldAddr fo_api_Value_2 rfl) rfl ?_
          refine JO.t (ob_ld1 sz_string rfl rfl) rfl ?_
          refine JO.t (ob_slen un_string rfl) rfl ?_
          refine JO.t (ob_lss rfl rfl) rfl ?_
          refine JO.nil ?_
          repeat (first | refine JX.next ?_ | refine JX.normal_block ?_)
          refine J.sel [1, 5, 6, 56] (.cons rfl (.cons rfl (.cons rfl (.cons rfl .nil)))) ?_
          repeat refine J.seq ?_
          refine J.cond rfl (fun ht56 => ?_) (fun ht56 => ?_)
          ·
            try simp only [decide_eq_true_eq, decide_eq_false_iff_not] at ht56
            refine J.skip ?_
            repeat (first | refine JX.next ?_ | refine JX.normal_block ?_)
            repeat refine J.seq ?_
            refine J.block ?_
            repeat refine J.seq ?_
            refine J.plain ?_
            refine JO.t (ob_fieldAddr fo_api_Value_2 rfl) rfl ?_
            refine JO.t (ob_ld1 sz_string rfl rfl) rfl ?_
            refine JO.t (ob_move rfl) rfl ?_
            refine JO.t (ob_move rfl) rfl ?_
            refine JO.t (ob_addc (cc := ((i + 1 : Nat) : Int)) rfl rfl (by omega) (by omega) (by omega)) rfl ?_
            refine JO.t (ob_sslice un_string rfl rfl rfl (by omega) (by omega) (by omega)) rfl ?_
            refine JO.t (ob_assign rfl) rfl ?_
            refine JO.nil ?_
            repeat (first | refine JX.next ?_ | refine JX.normal_block ?_)
            refine J.sel [1, 5, 6, 7] (.cons rfl (.cons rfl (.cons rfl (.cons rfl .nil)))) ?_
            repeat refine J.seq ?_
            refine J.plain ?_
            refine JO.t (ob_move rfl) rfl ?_
            refine JO.t (ob_seql rfl rfl) rfl ?_
            refine JO.nil ?_
            repeat (first | refine JX.next ?_ | refine JX.normal_block ?_)
            refine J.sel [1, 5, 6, 7, 66] (.cons rfl (.cons rfl (.cons rfl (.cons rfl (.cons rfl .nil))))) ?_
            repeat refine J.seq ?_
            refine J.cond rfl (fun ht66 => ?_) (fun ht66 => ?_)
            ·
              try simp only [decide_eq_true_eq, decide_eq_false_iff_not] at ht66
              repeat refine J.seq ?_
              refine J.plain ?_
              refine JO.t (ob_assign rfl) rfl ?_
              refine JO.nil ?_
              repeat (first | refine JX.next ?_ | refine JX.normal_block ?_)
              refine J.sel [1, 5, 6, 7] (.cons rfl (.cons rfl (.cons rfl (.cons rfl .nil)))) ?_
              have hdd : (dbl (v.s.data.toList.take i)).length ≤ _ := repL_len 39 (new := [39, 39]) (by decide) (v.s.data.toList.take i)
              rw [List.length_take] at hdd
              repeat refine J.seq ?_
              refine J.plain ?_
              refine JO.t (ob_move rfl) rfl ?_
              refine JO.t (ob_move rfl) rfl ?_
              refine JO.t (ob_saddv (u := bl (39 :: dbl (v.s.data.toList.take (i + 1)))) rfl rfl (by show (bl _).size + (bl [39, 39]).size ≤ _; rw [bl_size, bl_size]; simp only [List.length_cons, List.length_nil]; omega) (txt_q (by omega) ht66)) rfl ?_
              refine JO.t (ob_assign rfl) rfl ?_
              refine JO.nil ?_
              repeat (first | refine JX.next ?_ | refine JX.normal_block ?_)
              refine J.sel [1, 5, 6] (.cons rfl (.cons rfl (.cons rfl .nil))) ?_
              repeat refine J.seq ?_
              refine J.plain ?_
              refine JO.t (ob_move rfl) rfl ?_
              refine JO.t (ob_addc (cc := ((i + 1 : Nat) : Int)) rfl rfl (by omega) (by omega) (by omega)) rfl ?_
              refine JO.t (ob_assign rfl) rfl ?_
              refine JO.nil ?_
              repeat refine JX.normal_block ?_
              refine JX.roundS (i + 1) ?_ ?_ [1, 5, 6] ?_ ?_ ?_
              · exact (by omega)
              · exact (by omega)
              · exact (.cons rfl (.cons rfl (.cons rfl .nil)))
              · repeat (first | exact .slnil | apply List.Sublist.cons_cons | apply List.Sublist.cons)
              · repeat (first | exact .slnil | apply List.Sublist.cons_cons | apply List.Sublist.cons)
            ·
              try simp only [decide_eq_true_eq, decide_eq_false_iff_not] at ht66
              refine J.skip ?_
              repeat (first | refine JX.next ?_ | refine JX.normal_block ?_)
              have hdd : (dbl (v.s.data.toList.take i)).length ≤ _ := repL_len 39 (new := [39, 39]) (by decide) (v.s.data.toList.take i)
              rw [List.length_take] at hdd
              repeat refine J.seq ?_
              refine J.plain ?_
              refine JO.t (ob_move rfl) rfl ?_
              refine JO.t (ob_move rfl) rfl ?_
              refine JO.t (ob_saddv (u := bl (39 :: dbl (v.s.data.toList.take (i + 1)))) rfl rfl (by have e1 := congrArg List.length (one_ext (s := v.s) (i := i) (by omega)); rw [len_sz] at e1; show (bl _).size + (v.s.extract i (i + 1)).size ≤ _; rw [bl_size, e1]; simp only [List.length_cons, List.length_nil]; omega) (txt_c (by omega) ht66)) rfl ?_
              refine JO.t (ob_assign rfl) rfl ?_
              refine JO.nil ?_
              repeat (first | refine JX.next ?_ | refine JX.normal_block ?_)
              refine J.sel [1, 5, 6] (.cons rfl (.cons rfl (.cons rfl .nil))) ?_
              repeat refine J.seq ?_
              refine J.plain ?_
              refine JO.t (ob_move rfl) rfl ?_
              refine JO.t (ob_addc (cc := ((i + 1 : Nat) : Int)) rfl rfl (by omega) (by omega) (by omega)) rfl ?_
              refine JO.t (ob_assign rfl) rfl ?_
              refine JO.nil ?_
              repeat refine JX.normal_block ?_
              refine JX.roundS (i + 1) ?_ ?_ [1, 5, 6] ?_ ?_ ?_
              · exact (by omega)
              · exact (by omega)
              · exact (.cons rfl (.cons rfl (.cons rfl .nil)))
              · repeat (first | exact .slnil | apply List.Sublist.cons_cons | apply List.Sublist.cons)
              · repeat (first | exact .slnil | apply List.Sublist.cons_cons | apply List.Sublist.cons)
          ·
            try simp only [decide_eq_true_eq, decide_eq_false_iff_not] at ht56
            repeat refine J.seq ?_
            refine J.exit ?_
            repeat (first | refine JX.hit ?_ | refine JX.miss rfl ?_ | refine JX.exit_pass ?_)
            repeat (first | refine JX.next ?_ | refine JX.normal_block ?_)
            have he : i = v.s.size := by omega
            subst he
            rw [List.take_of_length_le (by omega)]
            have hdd : (dbl v.s.data.toList).length ≤ _ := repL_len 39 (new := [39, 39]) (by decide) v.s.data.toList
            repeat refine J.seq ?_
            refine J.plain ?_
            refine JO.t (ob_move rfl) rfl ?_
            refine JO.t (ob_saddv (u := bl (39 :: (dbl v.s.data.toList ++ [39]))) rfl rfl (by show (bl _).size + (bl [39]).size ≤ _; rw [bl_size, bl_size]; simp only [List.length_cons, List.length_nil]; omega) (list_inj (by rw [app_list, bl_list, bl_list]; rfl))) rfl ?_
            refine JO.t (ob_assign rfl) rfl ?_
            refine JO.nil ?_
            repeat (first | refine JX.next ?_ | refine JX.normal_block ?_)
            refine J.sel [2] (.cons rfl .nil) ?_
            repeat refine J.seq ?_
            refine J.ret ?_
            repeat (first | refine JX.ret_pass ?_ | refine JX.ret_block ?_)
            exact JX.ret1is rfl rfl (by rw [rshow_text hok ht13 ht45 ht50 (bl_list _)])
        ·
          try simp only [decide_eq_true_eq, decide_eq_false_iff_not] at ht50
          refine J.skip ?_
          repeat (first | refine JX.next ?_ | refine JX.normal_block ?_)
          repeat refine J.seq ?_
          refine J.plain ?_
          refine JO.t (ob_assign rfl) rfl ?_
          refine JO.nil ?_
          repeat (first | refine JX.next ?_ | refine JX.normal_block ?_)
          refine J.sel [2] (.cons rfl .nil) ?_
          repeat refine J.seq ?_
          refine J.ret ?_
          repeat (first | refine JX.ret_pass ?_ | refine JX.ret_block ?_)
          exact JX.ret1is rfl rfl (by rw [rshow_null hok ht13 ht45 ht50])
theorem c_ref01_Same (xs ys : List V3) (hl : xs.length ≤ 9223372036854775806) : CallTy Tryd.prog f_ref01_Same [.rep (SlG V3.cells 3 xs), .rep (SlG V3.cells 3 ys)] (.is (.bool (sameV xs ys))) :=
  CallTy.of (fn := Tryd.f25) Tryd.func25 (n := 26) rfl rfl rfl (fun _ _ => by kernel_rfl) fun E W => by
  refine J.openSl (s := 0) rfl (fun a len cap b o hlen ha => ?_)
  refine J.openSl (s := 1) rfl (fun ya yl yc yb yo hyl hya => ?_)
  subst hlen hyl
  repeat refine J.seq ?_
  refine J.plain ?_
  refine JO.t (ob_assign rfl) rfl ?_
  refine JO.nil ?_
  repeat (first | refine JX.next ?_ | refine JX.normal_block ?_)
  refine J.sel [0, 1] (.cons rfl (.cons rfl .nil)) ?_
  repeat refine J.seq ?_
  refine J.plain ?_
  refine JO.t (ob_move rfl) rfl ?_
  refine JO.t (ob_len un_sl_api_Value rfl) rfl ?_
  refine JO.t (ob_move rfl) rfl ?_
  refine JO.t (ob_len un_sl_api_Value rfl) rfl ?_
  refine JO.t (ob_neq rfl rfl) rfl ?_
  refine JO.nil ?_
  repeat (first | refine JX.next ?_ | refine JX.normal_block ?_)
  refine J.sel [0, 1, 10] (.cons rfl (.cons rfl (.cons rfl .nil))) ?_
  repeat refine J.seq ?_
  refine J.cond rfl (fun ht10 => ?_) (fun ht10 => ?_)
  ·
    try simp only [decide_eq_true_eq, decide_eq_false_iff_not] at ht10
    repeat refine J.seq ?_
    refine J.plain ?_
    refine JO.t (ob_assign rfl) rfl ?_
    refine JO.nil ?_
    repeat (first | refine JX.next ?_ | refine JX.normal_block ?_)
    refine J.sel [4] (.cons rfl .nil) ?_
    repeat refine J.seq ?_
    refine J.ret ?_
    repeat (first | refine JX.ret_pass ?_ | refine JX.ret_block ?_)
    exact JX.ret1is rfl rfl (by cases hq : sameV xs ys; rfl; have := congrArg List.length ((sameV_iff xs ys).1 hq); simp at ht10; omega)
  ·
    try simp only [decide_eq_true_eq, decide_eq_false_iff_not] at ht10
    refine J.skip ?_
    repeat (first | refine JX.next ?_ | refine JX.normal_block ?_)
    have hll : xs.length = ys.length := by have h := ht10; simp at h; omega
    repeat refine J.seq ?_
    refine J.plain ?_
    refine JO.t (ob_assign rfl) rfl ?_
    refine JO.nil ?_
    repeat (first | refine JX.next ?_ | refine JX.normal_block ?_)
    refine J.sel [0, 1, 5] (.cons rfl (.cons rfl (.cons rfl .nil))) ?_
    repeat refine J.seq ?_
    refine J.block ?_
    repeat refine J.seq ?_
    refine J.loopF (α := Nat) (fun i => [(0, .is (.slice a xs.length cap)), (1, .is (.slice ya ys.length yc)), (5, .is (.int .i64 (i : Nat)))]) (fun i => i ≤ xs.length ∧ sameV (xs.drop i) (ys.drop i) = sameV xs ys) (fun i => xs.length - i) 0 [0, 1, 5] (.cons rfl (.cons rfl (.cons rfl .nil))) ⟨by omega, rfl⟩ fun i ⟨hi, hs⟩ => ?_
    repeat refine J.seq ?_
    refine J.plain ?_
    refine JO.t (ob_move rfl) rfl ?_
    refine JO.t (ob_move rfl) rfl ?_
    refine JO.t (ob_len un_sl_api_Value rfl) rfl ?_
    refine JO.t (ob_lss rfl rfl) rfl ?_
    refine JO.nil ?_
    repeat (first | refine JX.next ?_ | refine JX.normal_block ?_)
    refine J.sel [0, 1, 5, 14] (.cons rfl (.cons rfl (.cons rfl (.cons rfl .nil)))) ?_
    repeat refine J.seq ?_
    refine J.cond rfl (fun ht14 => ?_) (fun ht14 => ?_)
    ·
      try simp only [decide_eq_true_eq, decide_eq_false_iff_not] at ht14
      refine J.skip ?_
      repeat (first | refine JX.next ?_ | refine JX.normal_block ?_)
      repeat refine J.seq ?_
      refine J.block ?_
      repeat refine J.seq ?_
      refine J.reg0 hmx (by kernel_rfl) (by kernel_rfl) ?_
      refine RT.t (ob_move rfl) ?_
      refine RT.t (ob_move rfl) ?_
      refine RT.t (ob_indexAddr el_sl_api_Value rfl (ha (by omega)) rfl (by omega) (by omega)) ?_
      refine RT.t (ob_loadG (enc := V3.cells) (sz := 3) (len := xs.length) (i := i) (y := xs.getD i v3D) (cs := V3.cells (xs.getD i v3D)) sz_api_Value rfl (by repeat (first | exact List.mem_cons_self | apply List.mem_cons_of_mem)) (ha (by omega)) (v3_get (by omega)) (by omega) rfl) ?_
      refine RT.t (ob_move rfl) ?_
      refine RT.t (ob_move rfl) ?_
      refine RT.t (ob_indexAddr el_sl_api_Value rfl (hya (by omega)) rfl (by omega) (by omega)) ?_
      refine RT.t (ob_loadG (enc := V3.cells) (sz := 3) (len := ys.length) (i := i) (y := ys.getD i v3D) (cs := V3.cells (ys.getD i v3D)) sz_api_Value rfl (by repeat (first | exact List.mem_cons_self | apply List.mem_cons_of_mem)) (hya (by omega)) (v3_get (by omega)) (by omega) rfl) ?_
      refine RT.t (ob_vneq veq_api_Value rfl rfl) ?_
      refine RT.nil ?_
      refine FinS.nil0 ?_
      repeat (first | refine JX.next ?_ | refine JX.normal_block ?_)
      refine J.sel [0, 1, 5, 25] (.cons rfl (.cons rfl (.cons rfl (.cons rfl .nil)))) ?_
      repeat refine J.seq ?_
      refine J.cond rfl (fun ht25 => ?_) (fun ht25 => ?_)
      ·
        try simp only [decide_eq_true_eq, decide_eq_false_iff_not] at ht25
        repeat refine J.seq ?_
        refine J.plain ?_
        refine JO.t (ob_assign rfl) rfl ?_
        refine JO.nil ?_
        repeat (first | refine JX.next ?_ | refine JX.normal_block ?_)
        refine J.sel [4] (.cons rfl .nil) ?_
        repeat refine J.seq ?_
        refine J.ret ?_
        repeat (first | refine JX.ret_pass ?_ | refine JX.ret_block ?_)
        exact JX.ret1is rfl rfl (by rw [← hs, sameV_drop (by omega) (by omega), show veq _ _ _ _ _ _ = false by simpa using ht25]; rfl)
      ·
        try simp only [decide_eq_true_eq, decide_eq_false_iff_not] at ht25
        refine J.skip ?_
        repeat (first | refine JX.next ?_ | refine JX.normal_block ?_)
        repeat refine J.seq ?_
        refine J.plain ?_
        refine JO.t (ob_move rfl) rfl ?_
        refine JO.t (ob_addc (cc := ((i + 1 : Nat) : Int)) rfl rfl (by omega) (by omega) (by omega)) rfl ?_
        refine JO.t (ob_assign rfl) rfl ?_
        refine JO.nil ?_
        repeat refine JX.normal_block ?_
        refine JX.roundS (i + 1) ?_ ?_ [0, 1, 5] ?_ ?_ ?_
        · exact ⟨by omega, by have h1 := sameV_drop (xs := xs) (ys := ys) (i := i) (by omega) (by omega); rw [show veq _ _ _ _ _ _ = true by simpa using ht25] at h1; rw [← hs, h1]; rfl⟩
        · exact (by omega)
        · exact (.cons rfl (.cons rfl (.cons rfl .nil)))
        · repeat (first | exact .slnil | apply List.Sublist.cons_cons | apply List.Sublist.cons)
        · repeat (first | exact .slnil | apply List.Sublist.cons_cons | apply List.Sublist.cons)
    ·
      try simp only [decide_eq_true_eq, decide_eq_false_iff_not] at ht14
      repeat refine J.seq ?_
      refine J.exit ?_
      repeat (first | refine JX.hit ?_ | refine JX.miss rfl ?_ | refine JX.exit_pass ?_)
      repeat (first | refine JX.next ?_ | refine JX.normal_block ?_)
      repeat refine J.seq ?_
      refine J.plain ?_
      refine JO.t (ob_assign rfl) rfl ?_
      refine JO.nil ?_
      repeat (first | refine JX.next ?_ | refine JX.normal_block ?_)
      refine J.sel [4] (.cons rfl .nil) ?_
      repeat refine J.seq ?_
      refine J.ret ?_
      repeat (first | refine JX.ret_pass ?_ | refine JX.ret_block ?_)
      exact JX.ret1is rfl rfl (by rw [← hs, List.drop_eq_nil_of_le (by omega), List.drop_eq_nil_of_le (by omega)]; rfl)
end Go.Proofs.YtlccnpmhmdoapaaDoor
