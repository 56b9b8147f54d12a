/- The document on groups: may, check, sum. No condition. -/
import Derived.Test.YtgpikmonklainaaXM3
import Derived.Test.YtgpikmonklainaaXR5
set_option maxRecDepth 20000
namespace Go.Proofs.Ytgpikmonklainaa
open Go Go.Vc
open Go.Vl Go.Od
def sI : List Int → Int
  | [] => 0
  | x :: xs => x + sI xs
theorem sI_app (a b : List Int) : sI (a ++ b) = sI a + sI b := by
  induction a with
  | nil => simp [sI]
  | cons v a ih => simp only [List.cons_append, sI, ih]; omega
def loL (xs : List Int) : Int := sI (xs.map fun x => x % 4294967296)
def hiL (xs : List Int) : Int := sI (xs.map fun x => x / 4294967296)
theorem loL_app (a b : List Int) : loL (a ++ b) = loL a + loL b := by unfold loL; rw [List.map_append, sI_app]
theorem hiL_app (a b : List Int) : hiL (a ++ b) = hiL a + hiL b := by unfold hiL; rw [List.map_append, sI_app]
theorem hilo : ∀ xs : List Int, sI xs = hiL xs * 4294967296 + loL xs
  | [] => rfl
  | x :: xs => by
    have ih := hilo xs
    have h1 : hiL (x :: xs) = x / 4294967296 + hiL xs := rfl
    have h2 : loL (x :: xs) = x % 4294967296 + loL xs := rfl
    rw [h1, h2, show sI (x :: xs) = x + sI xs from rfl, ih]
    omega
theorem lo_bd : ∀ (xs : List Int), 0 ≤ loL xs ∧ loL xs ≤ 4294967296 * (xs.length : Int)
  | [] => by simp [loL, sI]
  | x :: xs => by
    have ih := lo_bd xs
    have h2 : loL (x :: xs) = x % 4294967296 + loL xs := rfl
    rw [h2, List.length_cons]
    omega
theorem hi_bd : ∀ (xs : List Int), (∀ x ∈ xs, I64 x) → -(4294967296 * (xs.length : Int)) ≤ hiL xs ∧ hiL xs ≤ 4294967296 * (xs.length : Int)
  | [], _ => by simp [hiL, sI]
  | x :: xs, h => by
    have ih := hi_bd xs fun y hy => h y (List.mem_cons_of_mem _ hy)
    have h1 := h x List.mem_cons_self
    unfold I64 at h1
    have h2 : hiL (x :: xs) = x / 4294967296 + hiL xs := rfl
    rw [h2, List.length_cons]
    omega
theorem take_snoc {xs : List Int} {i : Nat} (h : i < xs.length) : xs.take (i + 1) = xs.take i ++ [xs.getD i 0] := by
  rw [List.take_add_one, getD_some (d := 0) h]; rfl
theorem loL_step {xs : List Int} {i : Nat} (h : i < xs.length) : loL (xs.take (i + 1)) = loL (xs.take i) + xs.getD i 0 % 4294967296 := by
  rw [take_snoc h, loL_app]; simp [loL, sI]
theorem hiL_step {xs : List Int} {i : Nat} (h : i < xs.length) : hiL (xs.take (i + 1)) = hiL (xs.take i) + xs.getD i 0 / 4294967296 := by
  rw [take_snoc h, hiL_app]; simp [hiL, sI]
theorem ofI (x : Int) : (BitVec.ofInt 64 x).toNat = (x % 18446744073709551616).toNat := by
  rw [BitVec.toNat_ofInt]; rfl
theorem and_lo (x : Int) : IntKind.i64.wrap (BitVec.ofInt IntKind.i64.bits x &&& BitVec.ofInt IntKind.i64.bits 4294967295).toNat = x % 4294967296 := by
  show IntKind.i64.wrap (BitVec.ofInt 64 x &&& BitVec.ofInt 64 4294967295).toNat = _
  rw [BitVec.toNat_and, ofI, ofI, show ((4294967295 : Int) % 18446744073709551616).toNat = 2 ^ 32 - 1 by decide, Nat.and_two_pow_sub_one_eq_mod]
  rw [wrap64_eq (by omega) (by omega)]
  omega
theorem or_hl {h l : Int} (h0 : 0 ≤ l) (h1 : l < 4294967296) : IntKind.i64.wrap (BitVec.ofInt IntKind.i64.bits (IntKind.i64.wrap (h * 4294967296)) ||| BitVec.ofInt IntKind.i64.bits l).toNat = IntKind.i64.wrap (h * 4294967296 + l) := by
  show IntKind.i64.wrap (BitVec.ofInt 64 (IntKind.i64.wrap (h * 4294967296)) ||| BitVec.ofInt 64 l).toNat = _
  rw [BitVec.toNat_or, ofI, ofI]
  obtain ⟨q, hq⟩ : ∃ q : Nat, (IntKind.i64.wrap (h * 4294967296) % 18446744073709551616).toNat = q <<< 32 := by
    refine ⟨((h % 4294967296).toNat), ?_⟩
    rw [Nat.shiftLeft_eq, IntKind.wrap_i64]
    omega
  have hl : (l % 18446744073709551616).toNat = l.toNat := by omega
  rw [hq, hl, ← Nat.shiftLeft_add_eq_or_of_lt (by omega), ← hq]
  rw [IntKind.wrap_i64, IntKind.wrap_i64, IntKind.wrap_i64]
  omega
theorem eU_bad {ks : List Int} {args : List (List V3)} {i j : Nat} (h : i < args.length) (hb : eW ks args i (args.getD i []) (j + 1) = true) : eU ks args args.length = true := by
  have h1 : eU ks args (i + 1) = true := by
    rw [eU_step h]
    unfold eW at hb
    rw [Bool.or_eq_true] at hb ⊢
    rcases hb with hb | hb
    · exact .inl hb
    · right
      unfold bT
      rw [List.any_eq_true] at hb ⊢
      obtain ⟨p, h1, h2⟩ := hb
      exact ⟨p, List.take_subset _ _ h1, h2⟩
  unfold eU at h1 ⊢
  rw [List.any_eq_true] at h1 ⊢
  obtain ⟨p, h2, h3⟩ := h1
  rw [List.take_length]
  exact ⟨p, List.take_subset _ _ h2, h3⟩
section
variable {P : Program} {L : List Own} {Φ : List (World → Prop)} {H : Know} {dst : Option Nat} {ty : TypeId} {pos : String} {after : Array Edge} {g : Option (Nat × Bool)}
theorem ob_andv {k : IntKind} {a b v : Int} {x y : Operand} {xt yt : TypeId} (hx : H x (.is (.int k a))) (hy : H y (.is (.int k b))) (h : k.wrap (BitVec.ofInt k.bits a &&& BitVec.ofInt k.bits b).toNat = v) : Ob P L Φ H ⟨dst, .binOp .and xt x y yt, ty, pos, after, g⟩ (.is (.int k v)) := h ▸ ob_and hx hy
end
theorem c_ref16_may (xs : List V3) (hl : xs.length ≤ 9223372036854775806) : CallTy Try.prog f_ref16_may [.rep (RowS xs)] (.is (.bool (xs.all okV))) :=
  CallTy.of (fn := Try.f54) Try.func54 (n := 16) rfl rfl rfl (fun _ _ => by kernel_rfl) fun E W => by
  refine J.openSl (enc := V3.cells) (sz := 3) (s := 0) rfl (fun a len cap b o hlen ha => ?_)
  subst hlen
  repeat refine J.seq ?_
  refine J.plain ?_
  refine JO.t (ob_assign rfl) rfl ?_
  refine JO.nil ?_
  repeat (first | refine JX.next ?_ | refine JX.normal_block ?_)
  refine J.sel [0] (.cons rfl .nil) ?_
  repeat refine J.seq ?_
  refine J.plain ?_
  refine JO.t (ob_assign rfl) rfl ?_
  refine JO.nil ?_
  repeat (first | refine JX.next ?_ | refine JX.normal_block ?_)
  refine J.sel [0, 3] (.cons rfl (.cons rfl .nil)) ?_
  repeat refine J.seq ?_
  refine J.block ?_
  repeat refine J.seq ?_
  refine J.loopF (α := Nat) (fun i => [(0, .is (.slice a xs.length cap)), (3, .is (.int .i64 (i : Nat)))]) (fun i => i ≤ xs.length ∧ (xs.drop i).all okV = xs.all okV) (fun i => xs.length - i) 0 [0, 3] (.cons rfl (.cons rfl .nil)) ⟨by omega, rfl⟩ fun i ⟨hi, hs⟩ => ?_
  repeat refine J.seq ?_
  refine J.plain ?_
  refine JO.t (ob_move rfl) rfl ?_
  refine JO.t (ob_move rfl) rfl ?_
  refine JO.t (ob_len un_sl_api_Value rfl) rfl ?_
  refine JO.t (ob_lss rfl rfl) rfl ?_
  refine JO.nil ?_
  repeat (first | refine JX.next ?_ | refine JX.normal_block ?_)
  refine J.sel [0, 3, 7] (.cons rfl (.cons rfl (.cons rfl .nil))) ?_
  repeat refine J.seq ?_
  refine J.cond rfl (fun ht7 => ?_) (fun ht7 => ?_)
  ·
    try simp only [decide_eq_true_eq, decide_eq_false_iff_not] at ht7
    refine J.skip ?_
    repeat (first | refine JX.next ?_ | refine JX.normal_block ?_)
    repeat refine J.seq ?_
    refine J.block ?_
    repeat refine J.seq ?_
    refine J.plain ?_
    refine JO.t (ob_move rfl) rfl ?_
    refine JO.t (ob_move rfl) rfl ?_
    refine JO.t (ob_indexAddr el_sl_api_Value rfl (ha (by omega)) rfl (by omega) (by omega)) rfl ?_
    refine JO.t (ob_loadG (enc := V3.cells) (sz := 3) (len := xs.length) (i := i) (y := xs.getD i v3E) (cs := V3.cells (xs.getD i v3E)) sz_api_Value rfl (by repeat (first | exact List.mem_cons_self | apply List.mem_cons_of_mem)) (ha (by omega)) (v3_get (by omega)) (by omega) rfl) rfl ?_
    refine JO.t (ob_call rfl (c_ref01_Ok (xs.getD i v3E)) (.one rfl .nil)) rfl ?_
    refine JO.t (ob_not rfl) rfl ?_
    refine JO.nil ?_
    repeat (first | refine JX.next ?_ | refine JX.normal_block ?_)
    refine J.sel [0, 3, 15] (.cons rfl (.cons rfl (.cons rfl .nil))) ?_
    repeat refine J.seq ?_
    refine J.cond rfl (fun ht15 => ?_) (fun ht15 => ?_)
    ·
      try simp only [decide_eq_true_eq, decide_eq_false_iff_not] at ht15
      repeat refine J.seq ?_
      refine J.plain ?_
      refine JO.t (ob_assign rfl) rfl ?_
      refine JO.nil ?_
      repeat (first | refine JX.next ?_ | refine JX.normal_block ?_)
      refine J.sel [2] (.cons rfl .nil) ?_
      repeat refine J.seq ?_
      refine J.ret ?_
      repeat (first | refine JX.ret_pass ?_ | refine JX.ret_block ?_)
      exact JX.ret1is rfl rfl (by rw [← hs, all_drop (i := i) (by omega), show okV (xs.getD i v3E) = false by simpa using ht15]; rfl)
    ·
      try simp only [decide_eq_true_eq, decide_eq_false_iff_not] at ht15
      refine J.skip ?_
      repeat (first | refine JX.next ?_ | refine JX.normal_block ?_)
      repeat refine J.seq ?_
      refine J.plain ?_
      refine JO.t (ob_move rfl) rfl ?_
      refine JO.t (ob_addc (cc := ((i + 1 : Nat) : Int)) rfl rfl (by omega) (by omega) (by omega)) rfl ?_
      refine JO.t (ob_assign rfl) rfl ?_
      refine JO.nil ?_
      repeat refine JX.normal_block ?_
      refine JX.roundS (i + 1) ?_ ?_ [0, 3] ?_ ?_ ?_
      · exact ⟨by omega, by rw [← hs, all_drop (i := i) (by omega), show okV (xs.getD i v3E) = true by simpa using ht15]; rfl⟩
      · exact (by omega)
      · exact (.cons rfl (.cons rfl .nil))
      · repeat (first | exact .slnil | exact List.Sublist.refl _ | apply List.Sublist.cons_cons | apply List.Sublist.cons)
      · repeat (first | exact .slnil | exact List.Sublist.refl _ | apply List.Sublist.cons_cons | apply List.Sublist.cons)
  ·
    try simp only [decide_eq_true_eq, decide_eq_false_iff_not] at ht7
    repeat refine J.seq ?_
    refine J.exit ?_
    repeat (first | refine JX.hit ?_ | refine JX.miss rfl ?_ | refine JX.exit_pass ?_)
    repeat (first | refine JX.next ?_ | refine JX.normal_block ?_)
    repeat refine J.seq ?_
    refine J.plain ?_
    refine JO.t (ob_assign rfl) rfl ?_
    refine JO.nil ?_
    repeat (first | refine JX.next ?_ | refine JX.normal_block ?_)
    refine J.sel [2] (.cons rfl .nil) ?_
    repeat refine J.seq ?_
    refine J.ret ?_
    repeat (first | refine JX.ret_pass ?_ | refine JX.ret_block ?_)
    exact JX.ret1is rfl rfl (by rw [← hs, List.drop_eq_nil_of_le (by omega)]; rfl)
theorem c_ref16_check (keys args : List (List V3)) (ks : List Int) (hn : args.length ≤ 1048576) (hR : ∀ r ∈ args, r.length ≤ 1048576) (hK : ∀ r ∈ keys, r.length ≤ 1048576) (hks : ks.length ≤ 1048576) : CallTy Try.prog f_ref16_check [.rep (RowsR noG keys), .rep (RowsR noG args), .rep (SlG kC 1 ks)] (.is (.int .i64 (chk keys args ks))) :=
  CallTy.of (fn := Try.f38) Try.func38 (n := 92) rfl rfl rfl (fun _ _ => by kernel_rfl) fun E W => by
  refine J.openRows (s := 0) rfl (fun kps ka kl kc kb ko hkm hkl hkc hka => ?_)
  refine J.openRows (s := 1) rfl (fun aps aa al ac ab ao ham hal hac haa => ?_)
  refine J.openSl (enc := kC) (sz := 1) (s := 2) rfl (fun da dl dcap db dof hdl hda => ?_)
  subst hdl hkl hal hkm ham
  refine J.know (∀ p ∈ aps, p.row.length = p.len) (fun E w hG _ => fun p hp => ((hG (RVF aps) (by repeat (first | exact List.mem_cons_self | apply List.mem_cons_of_mem))).now p hp).2.1) (fun hkn => ?_)
  rw [List.length_map] at hn
  repeat refine J.seq ?_
  refine J.plain ?_
  refine JO.t (ob_assign rfl) rfl ?_
  refine JO.nil ?_
  repeat (first | refine JX.next ?_ | refine JX.normal_block ?_)
  refine J.sel [0, 1, 2] (.cons rfl (.cons rfl (.cons rfl .nil))) ?_
  repeat refine J.seq ?_
  refine J.plain ?_
  refine JO.t (ob_move rfl) rfl ?_
  refine JO.t (ob_len un_sl_sl_api_Value rfl) rfl ?_
  refine JO.t (ob_move rfl) rfl ?_
  refine JO.t (ob_len un_sl_sl_api_Value rfl) rfl ?_
  refine JO.t (ob_neq rfl rfl) rfl ?_
  refine JO.nil ?_
  repeat (first | refine JX.next ?_ | refine JX.normal_block ?_)
  refine J.sel [0, 1, 2, 15] (.cons rfl (.cons rfl (.cons rfl (.cons rfl .nil)))) ?_
  repeat refine J.seq ?_
  refine J.cond rfl (fun ht15 => ?_) (fun ht15 => ?_)
  ·
    try simp only [decide_eq_true_eq, decide_eq_false_iff_not] at ht15
    repeat refine J.seq ?_
    refine J.plain ?_
    refine JO.t (ob_assign rfl) rfl ?_
    refine JO.nil ?_
    repeat (first | refine JX.next ?_ | refine JX.normal_block ?_)
    refine J.sel [6] (.cons rfl .nil) ?_
    repeat refine J.seq ?_
    refine J.ret ?_
    repeat (first | refine JX.ret_pass ?_ | refine JX.ret_block ?_)
    exact JX.ret1is rfl rfl (by rw [← chk_a (ks := ks) (kps := kps) (aps := aps) (by rw [ht15]; rfl)])
  ·
    try simp only [decide_eq_true_eq, decide_eq_false_iff_not] at ht15
    refine J.skip ?_
    repeat (first | refine JX.next ?_ | refine JX.normal_block ?_)
    have hkn2 : kps.length = aps.length := by rw [bne_eq_false_iff_eq] at ht15; omega
    repeat refine J.seq ?_
    refine J.plain ?_
    refine JO.t (ob_assign rfl) rfl ?_
    refine JO.nil ?_
    repeat (first | refine JX.next ?_ | refine JX.normal_block ?_)
    refine J.sel [0, 1, 2, 7] (.cons rfl (.cons rfl (.cons rfl (.cons rfl .nil)))) ?_
    repeat refine J.seq ?_
    refine J.block ?_
    repeat refine J.seq ?_
    refine J.loopF (α := Nat) (fun i => [(0, .is (.slice ka kps.length kc)), (1, .is (.slice aa aps.length ac)), (2, .is (.slice da ks.length dcap)), (7, .is (.int .i64 (i : Nat)))]) (fun i => i ≤ ks.length ∧ (ks.take i).any badK = false) (fun i => ks.length - i) 0 [0, 1, 2, 7] (.cons rfl (.cons rfl (.cons rfl (.cons rfl .nil)))) ⟨Nat.zero_le _, rfl⟩ fun i ⟨hi, hok⟩ => ?_
    repeat refine J.seq ?_
    refine J.plain ?_
    refine JO.t (ob_move rfl) rfl ?_
    refine JO.t (ob_move rfl) rfl ?_
    refine JO.t (ob_len un_sl_int rfl) rfl ?_
    refine JO.t (ob_lss rfl rfl) rfl ?_
    refine JO.nil ?_
    repeat (first | refine JX.next ?_ | refine JX.normal_block ?_)
    refine J.sel [0, 1, 2, 7, 19] (.cons rfl (.cons rfl (.cons rfl (.cons rfl (.cons rfl .nil))))) ?_
    repeat refine J.seq ?_
    refine J.cond rfl (fun ht19 => ?_) (fun ht19 => ?_)
    ·
      try simp only [decide_eq_true_eq, decide_eq_false_iff_not] at ht19
      refine J.skip ?_
      repeat (first | refine JX.next ?_ | refine JX.normal_block ?_)
      repeat refine J.seq ?_
      refine J.block ?_
      repeat refine J.seq ?_
      refine J.reg0 hmx (by kernel_rfl) (by kernel_rfl) ?_
      refine RT.t (ob_move rfl) ?_
      refine RT.t (ob_move rfl) ?_
      refine RT.t (ob_indexAddr el_sl_int rfl (hda (by omega)) rfl (by omega) (by omega)) ?_
      refine RT.t (ob_loadG1 (enc := kC) (sz := 1) (i := i) (j := 0) (y := ks.getD i 0) (u := .int .i64 (ks.getD i 0)) sz_int rfl (by repeat (first | exact List.mem_cons_self | apply List.mem_cons_of_mem)) (hda (by omega)) (getD_some (by omega)) (by omega) rfl) ?_
      refine RT.t (ob_lss rfl rfl) ?_
      refine RT.t (ob_move rfl) ?_
      refine RT.g rfl rfl rfl (fun hg => ob_move (.inl rfl)) ?_
      refine RT.g rfl rfl rfl (fun hg => ob_move (.inl rfl)) ?_
      refine RT.g rfl rfl rfl (fun hg => ob_indexAddr el_sl_int (.inr ⟨_, rfl, fun h => h⟩) (hda (by omega)) (.inr ⟨_, rfl, fun h => h⟩) (by omega) (by omega)) ?_
      refine RT.g rfl rfl rfl (fun hg => ob_loadG1 (enc := kC) (sz := 1) (i := i) (j := 0) (y := ks.getD i 0) (u := .int .i64 (ks.getD i 0)) sz_int (.inr ⟨_, rfl, fun h => h⟩) (by repeat (first | exact List.mem_cons_self | apply List.mem_cons_of_mem)) (hda (by omega)) (getD_some (by omega)) (by omega) rfl) ?_
      refine RT.g rfl rfl rfl (fun hg => ob_gtr (.inr ⟨_, rfl, fun h => h⟩) (.inl rfl)) ?_
      refine RT.t (ob_pickOr rfl rfl rfl id) ?_
      refine RT.nil ?_
      refine FinS.nil0 ?_
      repeat (first | refine JX.next ?_ | refine JX.normal_block ?_)
      refine J.sel [0, 1, 2, 7, 33] (.cons rfl (.cons rfl (.cons rfl (.cons rfl (.cons rfl .nil))))) ?_
      repeat refine J.seq ?_
      refine J.cond rfl (fun ht33 => ?_) (fun ht33 => ?_)
      ·
        try simp only [decide_eq_true_eq, decide_eq_false_iff_not] at ht33
        repeat refine J.seq ?_
        refine J.plain ?_
        refine JO.t (ob_assign rfl) rfl ?_
        refine JO.nil ?_
        repeat (first | refine JX.next ?_ | refine JX.normal_block ?_)
        refine J.sel [6] (.cons rfl .nil) ?_
        repeat refine J.seq ?_
        refine J.ret ?_
        repeat (first | refine JX.ret_pass ?_ | refine JX.ret_block ?_)
        exact JX.ret1is rfl rfl (by rw [← chk_a (ks := ks) (kps := kps) (aps := aps) (by rw [Bool.or_eq_true]; right; rw [List.any_eq_true]; refine ⟨ks.getD i 0, getD_mem (by omega), ?_⟩; simp only [badK, kOk]; simp [-List.getD_eq_getElem?_getD] at ht33 ⊢; omega)])
      ·
        try simp only [decide_eq_true_eq, decide_eq_false_iff_not] at ht33
        refine J.skip ?_
        repeat (first | refine JX.next ?_ | refine JX.normal_block ?_)
        repeat refine J.seq ?_
        refine J.plain ?_
        refine JO.t (ob_move rfl) rfl ?_
        refine JO.t (ob_addc (cc := ((i + 1 : Nat) : Int)) rfl rfl (by omega) (by omega) (by omega)) rfl ?_
        refine JO.t (ob_assign rfl) rfl ?_
        refine JO.nil ?_
        repeat refine JX.normal_block ?_
        refine JX.roundS (i + 1) ?_ ?_ [0, 1, 2, 7] ?_ ?_ ?_
        · exact ⟨by omega, by rw [take_snoc (by omega), List.any_append, hok]; simp only [List.any_cons, List.any_nil, Bool.or_false, Bool.false_or, badK, kOk]; simp [-List.getD_eq_getElem?_getD] at ht33 ⊢; omega⟩
        · exact (by omega)
        · exact (.cons rfl (.cons rfl (.cons rfl (.cons rfl .nil))))
        · repeat (first | exact .slnil | exact List.Sublist.refl _ | apply List.Sublist.cons_cons | apply List.Sublist.cons)
        · repeat (first | exact .slnil | exact List.Sublist.refl _ | apply List.Sublist.cons_cons | apply List.Sublist.cons)
    ·
      try simp only [decide_eq_true_eq, decide_eq_false_iff_not] at ht19
      repeat refine J.seq ?_
      refine J.exit ?_
      repeat (first | refine JX.hit ?_ | refine JX.miss rfl ?_ | refine JX.exit_pass ?_)
      repeat (first | refine JX.next ?_ | refine JX.normal_block ?_)
      have hka2 : ks.any badK = false := by
        have hi2 : i = ks.length := by omega
        rw [hi2, List.take_length] at hok
        exact hok
      repeat refine J.seq ?_
      refine J.plain ?_
      refine JO.t (ob_assign rfl) rfl ?_
      refine JO.nil ?_
      repeat (first | refine JX.next ?_ | refine JX.normal_block ?_)
      refine J.sel [0, 1, 2, 8] (.cons rfl (.cons rfl (.cons rfl (.cons rfl .nil)))) ?_
      repeat refine J.seq ?_
      refine J.block ?_
      repeat refine J.seq ?_
      refine J.loopF (α := Nat) (fun i => [(0, .is (.slice ka kps.length kc)), (1, .is (.slice aa aps.length ac)), (2, .is (.slice da ks.length dcap)), (8, .is (.int .i64 (i : Nat)))]) (fun i => i ≤ kps.length ∧ ∀ j, j < i → okR ks ((kps.getD j rv0).row, (aps.getD j rv0).row) = true) (fun i => kps.length - i) 0 [0, 1, 2, 8] (.cons rfl (.cons rfl (.cons rfl (.cons rfl .nil)))) ⟨Nat.zero_le _, fun j h => absurd h (Nat.not_lt_zero _)⟩ fun i ⟨hi, hok⟩ => ?_
      repeat refine J.seq ?_
      refine J.plain ?_
      refine JO.t (ob_move rfl) rfl ?_
      refine JO.t (ob_move rfl) rfl ?_
      refine JO.t (ob_len un_sl_sl_api_Value rfl) rfl ?_
      refine JO.t (ob_lss rfl rfl) rfl ?_
      refine JO.nil ?_
      repeat (first | refine JX.next ?_ | refine JX.normal_block ?_)
      refine J.sel [0, 1, 2, 8, 37] (.cons rfl (.cons rfl (.cons rfl (.cons rfl (.cons rfl .nil))))) ?_
      repeat refine J.seq ?_
      refine J.cond rfl (fun ht37 => ?_) (fun ht37 => ?_)
      ·
        try simp only [decide_eq_true_eq, decide_eq_false_iff_not] at ht37
        refine J.skip ?_
        repeat (first | refine JX.next ?_ | refine JX.normal_block ?_)
        repeat refine J.seq ?_
        refine J.block ?_
        have hia : i < aps.length := by omega
        have hik : i < kps.length := by omega
        have hrl : (aps.getD i rv0).row.length = (aps.getD i rv0).len := hkn _ (getD_mem hia)
        repeat refine J.seq ?_
        refine J.reg0 hmx (by kernel_rfl) (by kernel_rfl) ?_
        refine RT.t (ob_move rfl) ?_
        refine RT.t (ob_move rfl) ?_
        refine RT.t (ob_indexAddr el_sl_sl_api_Value rfl (haa (by omega)) rfl (by omega) (by omega)) ?_
        refine RT.t (ob_loadG1 (enc := RV.c) (sz := 1) (i := i) (j := 0) (y := aps.getD i rv0) (u := (aps.getD i rv0).v) sz_sl_api_Value rfl (by repeat (first | exact List.mem_cons_self | apply List.mem_cons_of_mem)) (haa (by omega)) (getD_some (by omega)) (by omega) rfl) ?_
        refine RT.t (ob_len un_sl_api_Value rfl) ?_
        refine RT.t (ob_move rfl) ?_
        refine RT.t (ob_len un_sl_int rfl) ?_
        refine RT.t (ob_neq rfl rfl) ?_
        refine RT.t (ob_move rfl) ?_
        refine RT.g rfl rfl rfl (fun hg => ob_move (.inl rfl)) ?_
        refine RT.g rfl rfl rfl (fun hg => ob_move (.inl rfl)) ?_
        refine RT.g rfl rfl rfl (fun hg => ob_indexAddr el_sl_sl_api_Value (.inr ⟨_, rfl, fun h => h⟩) (hka (by omega)) (.inr ⟨_, rfl, fun h => h⟩) (by omega) (by omega)) ?_
        refine RT.g rfl rfl rfl (fun hg => ob_loadG1 (enc := RV.c) (sz := 1) (i := i) (j := 0) (y := kps.getD i rv0) (u := (kps.getD i rv0).v) sz_sl_api_Value (.inr ⟨_, rfl, fun h => h⟩) (by repeat (first | exact List.mem_cons_self | apply List.mem_cons_of_mem)) (hka (by omega)) (getD_some (by omega)) (by omega) rfl) ?_
        refine RT.g rfl rfl rfl (fun hg => ob_call (.inl rfl) (c_ref16_may (kps.getD i rv0).row (by have := hK _ (List.mem_map_of_mem (getD_mem (d := rv0) hik)); omega)) (.sub (.inr ⟨_, rfl, fun h => h⟩) (Sub.rvS (p := kps.getD i rv0) (getD_mem hik) (by repeat (first | exact List.mem_cons_self | apply List.mem_cons_of_mem))) .nil)) ?_
        refine RT.g rfl rfl rfl (fun hg => ob_not (.inr ⟨_, rfl, fun h => h⟩)) ?_
        refine RT.t (ob_pickOr rfl rfl rfl id) ?_
        refine RT.t (ob_move rfl) ?_
        refine RT.g rfl rfl rfl (fun hg => ob_move (.inl rfl)) ?_
        refine RT.g rfl rfl rfl (fun hg => ob_move (.inl rfl)) ?_
        refine RT.g rfl rfl rfl (fun hg => ob_indexAddr el_sl_sl_api_Value (.inr ⟨_, rfl, fun h => h⟩) (haa (by omega)) (.inr ⟨_, rfl, fun h => h⟩) (by omega) (by omega)) ?_
        refine RT.g rfl rfl rfl (fun hg => ob_loadG1 (enc := RV.c) (sz := 1) (i := i) (j := 0) (y := aps.getD i rv0) (u := (aps.getD i rv0).v) sz_sl_api_Value (.inr ⟨_, rfl, fun h => h⟩) (by repeat (first | exact List.mem_cons_self | apply List.mem_cons_of_mem)) (haa (by omega)) (getD_some (by omega)) (by omega) rfl) ?_
        refine RT.g rfl rfl rfl (fun hg => ob_call (.inl rfl) (c_ref16_may (aps.getD i rv0).row (by have := hR _ (List.mem_map_of_mem (getD_mem (d := rv0) hia)); omega)) (.sub (.inr ⟨_, rfl, fun h => h⟩) (Sub.rvS (p := aps.getD i rv0) (getD_mem hia) (by repeat (first | exact List.mem_cons_self | apply List.mem_cons_of_mem))) .nil)) ?_
        refine RT.g rfl rfl rfl (fun hg => ob_not (.inr ⟨_, rfl, fun h => h⟩)) ?_
        refine RT.t (ob_pickOr rfl rfl rfl id) ?_
        refine RT.nil ?_
        refine FinS.nil0 ?_
        repeat (first | refine JX.next ?_ | refine JX.normal_block ?_)
        refine J.sel [0, 1, 2, 8, 63] (.cons rfl (.cons rfl (.cons rfl (.cons rfl (.cons rfl .nil))))) ?_
        repeat refine J.seq ?_
        refine J.cond rfl (fun ht63 => ?_) (fun ht63 => ?_)
        ·
          try simp only [decide_eq_true_eq, decide_eq_false_iff_not] at ht63
          repeat refine J.seq ?_
          refine J.plain ?_
          refine JO.t (ob_assign rfl) rfl ?_
          refine JO.nil ?_
          repeat (first | refine JX.next ?_ | refine JX.normal_block ?_)
          refine J.sel [6] (.cons rfl .nil) ?_
          repeat refine J.seq ?_
          refine J.ret ?_
          repeat (first | refine JX.ret_pass ?_ | refine JX.ret_block ?_)
          exact JX.ret1is rfl rfl (by rw [← chk_b hkn2 hka2 (i := i) (by omega) (by unfold okR; cases q1 : (kps.getD i rv0).row.all okV <;> cases q2 : (aps.getD i rv0).row.all okV <;> rw [q1, q2] at ht63 <;> simp [-List.getD_eq_getElem?_getD] at ht63 ⊢ <;> omega)])
        ·
          try simp only [decide_eq_true_eq, decide_eq_false_iff_not] at ht63
          refine J.skip ?_
          repeat (first | refine JX.next ?_ | refine JX.normal_block ?_)
          repeat refine J.seq ?_
          refine J.plain ?_
          refine JO.t (ob_move rfl) rfl ?_
          refine JO.t (ob_addc (cc := ((i + 1 : Nat) : Int)) rfl rfl (by omega) (by omega) (by omega)) rfl ?_
          refine JO.t (ob_assign rfl) rfl ?_
          refine JO.nil ?_
          repeat refine JX.normal_block ?_
          refine JX.roundS (i + 1) ?_ ?_ [0, 1, 2, 8] ?_ ?_ ?_
          · exact ⟨by omega, fun j hj => by
    rcases Nat.lt_or_ge j i with h | h
    · exact hok j h
    · rw [show j = i by omega]
      unfold okR
      cases q1 : (kps.getD i rv0).row.all okV <;> cases q2 : (aps.getD i rv0).row.all okV <;> rw [q1, q2] at ht63 <;> simp [-List.getD_eq_getElem?_getD] at ht63 ⊢ <;> omega⟩
          · exact (by omega)
          · exact (.cons rfl (.cons rfl (.cons rfl (.cons rfl .nil))))
          · repeat (first | exact .slnil | exact List.Sublist.refl _ | apply List.Sublist.cons_cons | apply List.Sublist.cons)
          · repeat (first | exact .slnil | exact List.Sublist.refl _ | apply List.Sublist.cons_cons | apply List.Sublist.cons)
      ·
        try simp only [decide_eq_true_eq, decide_eq_false_iff_not] at ht37
        repeat refine J.seq ?_
        refine J.exit ?_
        repeat (first | refine JX.hit ?_ | refine JX.miss rfl ?_ | refine JX.exit_pass ?_)
        repeat (first | refine JX.next ?_ | refine JX.normal_block ?_)
        have hokA : ∀ j, j < aps.length → okR ks ((kps.getD j rv0).row, (aps.getD j rv0).row) = true := fun j hj => hok j (by omega)
        repeat refine J.seq ?_
        refine J.plain ?_
        refine JO.t (ob_assign rfl) rfl ?_
        refine JO.nil ?_
        repeat (first | refine JX.next ?_ | refine JX.normal_block ?_)
        refine J.sel [0, 1, 2, 9] (.cons rfl (.cons rfl (.cons rfl (.cons rfl .nil)))) ?_
        repeat refine J.seq ?_
        refine J.block ?_
        repeat refine J.seq ?_
        refine J.loopF (α := Nat) (fun i => [(0, .is (.slice ka kps.length kc)), (1, .is (.slice aa aps.length ac)), (2, .is (.slice da ks.length dcap)), (9, .is (.int .i64 (i : Nat)))]) (fun i => i ≤ kps.length ∧ eU ks (aps.map RV.row) i = false) (fun i => kps.length - i) 0 [0, 1, 2, 9] (.cons rfl (.cons rfl (.cons rfl (.cons rfl .nil)))) ⟨Nat.zero_le _, rfl⟩ fun i ⟨hi, hu⟩ => ?_
        repeat refine J.seq ?_
        refine J.plain ?_
        refine JO.t (ob_move rfl) rfl ?_
        refine JO.t (ob_move rfl) rfl ?_
        refine JO.t (ob_len un_sl_sl_api_Value rfl) rfl ?_
        refine JO.t (ob_lss rfl rfl) rfl ?_
        refine JO.nil ?_
        repeat (first | refine JX.next ?_ | refine JX.normal_block ?_)
        refine J.sel [0, 1, 2, 9, 67] (.cons rfl (.cons rfl (.cons rfl (.cons rfl (.cons rfl .nil))))) ?_
        repeat refine J.seq ?_
        refine J.cond rfl (fun ht67 => ?_) (fun ht67 => ?_)
        ·
          try simp only [decide_eq_true_eq, decide_eq_false_iff_not] at ht67
          refine J.skip ?_
          repeat (first | refine JX.next ?_ | refine JX.normal_block ?_)
          repeat refine J.seq ?_
          refine J.block ?_
          have hia : i < aps.length := by omega
          have hrl : (aps.getD i rv0).row.length = (aps.getD i rv0).len := hkn _ (getD_mem hia)
          have hkl3 : (aps.getD i rv0).row.length = ks.length := by
            have := hokA i hia
            simp only [okR, Bool.and_eq_true, beq_iff_eq] at this
            exact this.1.1
          refine J.fact (RowG V3.cells 3 (aps.getD i rv0).row (aps.getD i rv0).a (aps.getD i rv0).len) (fun E w hG _ => fun w2 hk => (hG (RVF aps) (by repeat (first | exact List.mem_cons_self | apply List.mem_cons_of_mem)) w2 hk _ (getD_mem hia)).2) ?_
          refine J.knG List.mem_cons_self (fun rb ro _ hra => ?_)
          repeat refine J.seq ?_
          refine J.plain ?_
          refine JO.t (ob_assign rfl) rfl ?_
          refine JO.nil ?_
          repeat (first | refine JX.next ?_ | refine JX.normal_block ?_)
          refine J.sel [0, 1, 2, 9, 10] (.cons rfl (.cons rfl (.cons rfl (.cons rfl (.cons rfl .nil))))) ?_
          repeat refine J.seq ?_
          refine J.block ?_
          repeat refine J.seq ?_
          refine J.loopF (α := Nat) (fun j => [(0, .is (.slice ka kps.length kc)), (1, .is (.slice aa aps.length ac)), (2, .is (.slice da ks.length dcap)), (9, .is (.int .i64 (i : Nat))), (10, .is (.int .i64 (j : Nat)))]) (fun j => j ≤ ks.length ∧ eW ks (aps.map RV.row) i (aps.getD i rv0).row j = false) (fun j => ks.length - j) 0 [0, 1, 2, 9, 10] (.cons rfl (.cons rfl (.cons rfl (.cons rfl (.cons rfl .nil))))) ⟨Nat.zero_le _, by rw [eW_zero]; exact hu⟩ fun j ⟨hj, hw⟩ => ?_
          repeat refine J.seq ?_
          refine J.plain ?_
          refine JO.t (ob_move rfl) rfl ?_
          refine JO.t (ob_move rfl) rfl ?_
          refine JO.t (ob_len un_sl_int rfl) rfl ?_
          refine JO.t (ob_lss rfl rfl) rfl ?_
          refine JO.nil ?_
          repeat (first | refine JX.next ?_ | refine JX.normal_block ?_)
          refine J.sel [0, 1, 2, 9, 10, 73] (.cons rfl (.cons rfl (.cons rfl (.cons rfl (.cons rfl (.cons rfl .nil)))))) ?_
          repeat refine J.seq ?_
          refine J.cond rfl (fun ht73 => ?_) (fun ht73 => ?_)
          ·
            try simp only [decide_eq_true_eq, decide_eq_false_iff_not] at ht73
            refine J.skip ?_
            repeat (first | refine JX.next ?_ | refine JX.normal_block ?_)
            repeat refine J.seq ?_
            refine J.block ?_
            repeat refine J.seq ?_
            refine J.reg0 hmx (by kernel_rfl) (by kernel_rfl) ?_
            refine RT.t (ob_move rfl) ?_
            refine RT.t (ob_move rfl) ?_
            refine RT.t (ob_indexAddr el_sl_int rfl (hda (by omega)) rfl (by omega) (by omega)) ?_
            refine RT.t (ob_loadG1 (enc := kC) (sz := 1) (i := j) (j := 0) (y := ks.getD j 0) (u := .int .i64 (ks.getD j 0)) sz_int rfl (by repeat (first | exact List.mem_cons_self | apply List.mem_cons_of_mem)) (hda (by omega)) (getD_some (by omega)) (by omega) rfl) ?_
            refine RT.t (ob_eql rfl rfl) ?_
            refine RT.t (ob_move rfl) ?_
            refine RT.g rfl rfl rfl (fun hg => ob_move (.inl rfl)) ?_
            refine RT.g rfl rfl rfl (fun hg => ob_move (.inl rfl)) ?_
            refine RT.g rfl rfl rfl (fun hg => ob_indexAddr el_sl_sl_api_Value (.inr ⟨_, rfl, fun h => h⟩) (haa (by omega)) (.inr ⟨_, rfl, fun h => h⟩) (by omega) (by omega)) ?_
            refine RT.g rfl rfl rfl (fun hg => ob_loadG1 (enc := RV.c) (sz := 1) (i := i) (j := 0) (y := aps.getD i rv0) (u := (aps.getD i rv0).v) sz_sl_api_Value (.inr ⟨_, rfl, fun h => h⟩) (by repeat (first | exact List.mem_cons_self | apply List.mem_cons_of_mem)) (haa (by omega)) (getD_some (by omega)) (by omega) rfl) ?_
            refine RT.g rfl rfl rfl (fun hg => ob_move (.inl rfl)) ?_
            refine RT.g rfl rfl rfl (fun hg => ob_indexAddr el_sl_api_Value (.inr ⟨_, rfl, fun h => h⟩) (hra (by omega)) (.inr ⟨_, rfl, fun h => h⟩) (by omega) (by omega)) ?_
            refine RT.g rfl rfl rfl (fun hg => ob_fieldAddr fo_api_Value_0 (.inr ⟨_, rfl, fun h => h⟩)) ?_
            refine RT.g rfl rfl rfl (fun hg => ob_loadG1 (enc := V3.cells) (sz := 3) (i := j) (j := 0) (y := (aps.getD i rv0).row.getD j v3E) (u := .int .i64 ((aps.getD i rv0).row.getD j v3E).k) sz_int (.inr ⟨_, rfl, fun h => h⟩) (by repeat (first | exact List.mem_cons_self | apply List.mem_cons_of_mem)) (hra (by omega)) (v3_get (by omega)) (by omega) rfl) ?_
            refine RT.g rfl rfl rfl (fun hg => ob_gtr (.inr ⟨_, rfl, fun h => h⟩) (.inl rfl)) ?_
            refine RT.t (ob_pickAnd rfl rfl rfl id) ?_
            refine RT.nil ?_
            refine FinS.nil0 ?_
            repeat (first | refine JX.next ?_ | refine JX.normal_block ?_)
            refine J.sel [0, 1, 2, 9, 10, 91] (.cons rfl (.cons rfl (.cons rfl (.cons rfl (.cons rfl (.cons rfl .nil)))))) ?_
            repeat refine J.seq ?_
            refine J.cond rfl (fun ht91 => ?_) (fun ht91 => ?_)
            ·
              try simp only [decide_eq_true_eq, decide_eq_false_iff_not] at ht91
              repeat refine J.seq ?_
              refine J.plain ?_
              refine JO.t (ob_assign rfl) rfl ?_
              refine JO.nil ?_
              repeat (first | refine JX.next ?_ | refine JX.normal_block ?_)
              refine J.sel [6] (.cons rfl .nil) ?_
              repeat refine J.seq ?_
              refine J.ret ?_
              repeat (first | refine JX.ret_pass ?_ | refine JX.ret_block ?_)
              exact JX.ret1is rfl rfl (by
      have hb : bt (ks.getD j 0) ((aps.getD i rv0).row.getD j v3E) = true := ht91
      have h2 := eW_step (ks := ks) (args := aps.map RV.row) (i := i) (j := j) (a := (aps.getD i rv0).row) (by omega) (by omega)
      rw [hb, Bool.or_true] at h2
      have h3 := eU_bad (ks := ks) (args := aps.map RV.row) (i := i) (j := j) (by rw [List.length_map]; omega) (by rw [rowD (by omega)]; exact h2)
      rw [List.length_map] at h3
      rw [← chk_c hkn2 hka2 hokA, h3]
      rfl)
            ·
              try simp only [decide_eq_true_eq, decide_eq_false_iff_not] at ht91
              refine J.skip ?_
              repeat (first | refine JX.next ?_ | refine JX.normal_block ?_)
              repeat refine J.seq ?_
              refine J.plain ?_
              refine JO.t (ob_move rfl) rfl ?_
              refine JO.t (ob_addc (cc := ((j + 1 : Nat) : Int)) rfl rfl (by omega) (by omega) (by omega)) rfl ?_
              refine JO.t (ob_assign rfl) rfl ?_
              refine JO.nil ?_
              repeat refine JX.normal_block ?_
              refine JX.roundS (j + 1) ?_ ?_ [0, 1, 2, 9, 10] ?_ ?_ ?_
              · exact ⟨by omega, by have hb : bt (ks.getD j 0) ((aps.getD i rv0).row.getD j v3E) = false := ht91; rw [eW_step (by omega) (by omega), hw, hb]; rfl⟩
              · exact (by omega)
              · exact (.cons rfl (.cons rfl (.cons rfl (.cons rfl (.cons rfl .nil)))))
              · repeat (first | exact .slnil | exact List.Sublist.refl _ | apply List.Sublist.cons_cons | apply List.Sublist.cons)
              · repeat (first | exact .slnil | exact List.Sublist.refl _ | apply List.Sublist.cons_cons | apply List.Sublist.cons)
          ·
            try simp only [decide_eq_true_eq, decide_eq_false_iff_not] at ht73
            repeat refine J.seq ?_
            refine J.exit ?_
            repeat (first | refine JX.hit ?_ | refine JX.miss rfl ?_ | refine JX.exit_pass ?_)
            repeat (first | refine JX.next ?_ | refine JX.normal_block ?_)
            repeat refine J.seq ?_
            refine J.plain ?_
            refine JO.t (ob_move rfl) rfl ?_
            refine JO.t (ob_addc (cc := ((i + 1 : Nat) : Int)) rfl rfl (by omega) (by omega) (by omega)) rfl ?_
            refine JO.t (ob_assign rfl) rfl ?_
            refine JO.nil ?_
            repeat refine JX.normal_block ?_
            refine JX.roundS (i + 1) ?_ ?_ [0, 1, 2, 9] ?_ ?_ ?_
            · exact ⟨by omega, by have h := eW_end (ks := ks) (args := aps.map RV.row) (i := i) (j := j) (by rw [List.length_map]; omega) (by rw [rowD (by omega)]; omega); rw [rowD (by omega)] at h; rw [← h]; exact hw⟩
            · exact (by omega)
            · exact (.cons rfl (.cons rfl (.cons rfl (.cons rfl .nil))))
            · repeat (first | exact .slnil | exact List.Sublist.refl _ | apply List.Sublist.cons_cons | apply List.Sublist.cons)
            · repeat (first | exact .slnil | exact List.Sublist.refl _ | apply List.Sublist.cons_cons | apply List.Sublist.cons)
        ·
          try simp only [decide_eq_true_eq, decide_eq_false_iff_not] at ht67
          repeat refine J.seq ?_
          refine J.exit ?_
          repeat (first | refine JX.hit ?_ | refine JX.miss rfl ?_ | refine JX.exit_pass ?_)
          repeat (first | refine JX.next ?_ | refine JX.normal_block ?_)
          repeat refine J.seq ?_
          refine J.plain ?_
          refine JO.t (ob_assign rfl) rfl ?_
          refine JO.nil ?_
          repeat (first | refine JX.next ?_ | refine JX.normal_block ?_)
          refine J.sel [6] (.cons rfl .nil) ?_
          repeat refine J.seq ?_
          refine J.ret ?_
          repeat (first | refine JX.ret_pass ?_ | refine JX.ret_block ?_)
          exact JX.ret1is rfl rfl (by rw [← chk_c hkn2 hka2 hokA, show aps.length = i by omega, hu]; rfl)
theorem c_ref16_sum (xs : List Int) (hl : xs.length ≤ 1048576) (hx : ∀ x ∈ xs, I64 x) : CallTy Try.prog f_ref16_sum [.rep (SlG kC 1 xs)] (.tup2 (.is (.int .i64 (IntKind.i64.wrap (sI xs)))) (.is (.bool (decide (-9223372036854775808 ≤ sI xs ∧ sI xs < 9223372036854775808))))) :=
  CallTy.of (fn := Try.f55) Try.func55 (n := 43) rfl rfl rfl (fun _ _ => by kernel_rfl) fun E W => by
  refine J.openSl (enc := kC) (sz := 1) (s := 0) rfl (fun a len cap b o hlen ha => ?_)
  subst hlen
  repeat refine J.seq ?_
  refine J.plain ?_
  refine JO.t (ob_assign rfl) rfl ?_
  refine JO.t (ob_assign rfl) rfl ?_
  refine JO.nil ?_
  repeat (first | refine JX.next ?_ | refine JX.normal_block ?_)
  refine J.sel [0] (.cons rfl .nil) ?_
  repeat refine J.seq ?_
  refine J.plain ?_
  refine JO.t (ob_assign rfl) rfl ?_
  refine JO.nil ?_
  repeat (first | refine JX.next ?_ | refine JX.normal_block ?_)
  refine J.sel [0, 4] (.cons rfl (.cons rfl .nil)) ?_
  repeat refine J.seq ?_
  refine J.plain ?_
  refine JO.t (ob_assign rfl) rfl ?_
  refine JO.nil ?_
  repeat (first | refine JX.next ?_ | refine JX.normal_block ?_)
  refine J.sel [0, 4, 5] (.cons rfl (.cons rfl (.cons rfl .nil))) ?_
  repeat refine J.seq ?_
  refine J.plain ?_
  refine JO.t (ob_assign rfl) rfl ?_
  refine JO.nil ?_
  repeat (first | refine JX.next ?_ | refine JX.normal_block ?_)
  refine J.sel [0, 4, 5, 6] (.cons rfl (.cons rfl (.cons rfl (.cons rfl .nil)))) ?_
  repeat refine J.seq ?_
  refine J.block ?_
  repeat refine J.seq ?_
  refine J.loopF (α := Nat) (fun i => [(0, .is (.slice a xs.length cap)), (4, .is (.int .i64 (hiL (xs.take i)))), (5, .is (.int .i64 (loL (xs.take i)))), (6, .is (.int .i64 (i : Nat)))]) (fun i => i ≤ xs.length) (fun i => xs.length - i) 0 [0, 4, 5, 6] (.cons rfl (.cons rfl (.cons rfl (.cons rfl .nil)))) (Nat.zero_le _) fun i hi => ?_
  repeat refine J.seq ?_
  refine J.plain ?_
  refine JO.t (ob_move rfl) rfl ?_
  refine JO.t (ob_move rfl) rfl ?_
  refine JO.t (ob_len un_sl_int64 rfl) rfl ?_
  refine JO.t (ob_lss rfl rfl) rfl ?_
  refine JO.nil ?_
  repeat (first | refine JX.next ?_ | refine JX.normal_block ?_)
  refine J.sel [0, 4, 5, 6, 10] (.cons rfl (.cons rfl (.cons rfl (.cons rfl (.cons rfl .nil))))) ?_
  repeat refine J.seq ?_
  refine J.cond rfl (fun ht10 => ?_) (fun ht10 => ?_)
  ·
    try simp only [decide_eq_true_eq, decide_eq_false_iff_not] at ht10
    refine J.skip ?_
    repeat (first | refine JX.next ?_ | refine JX.normal_block ?_)
    repeat refine J.seq ?_
    refine J.block ?_
    have hb1 := lo_bd (xs.take i)
    have hb2 := hi_bd (xs.take i) (fun x h => hx x (List.take_subset _ _ h))
    have hb3 : I64 (xs.getD i 0) := hx _ (getD_mem (by omega))
    have hb4 : (xs.take i).length ≤ 1048576 := by rw [List.length_take]; omega
    unfold I64 at hb3
    repeat refine J.seq ?_
    refine J.plain ?_
    refine JO.t (ob_move rfl) rfl ?_
    refine JO.t (ob_move rfl) rfl ?_
    refine JO.t (ob_move rfl) rfl ?_
    refine JO.t (ob_indexAddr el_sl_int64 rfl (ha (by omega)) rfl (by omega) (by omega)) rfl ?_
    refine JO.t (ob_loadG1 (enc := kC) (sz := 1) (i := i) (j := 0) (y := xs.getD i 0) (u := .int .i64 (xs.getD i 0)) sz_int64 rfl (by repeat (first | exact List.mem_cons_self | apply List.mem_cons_of_mem)) (ha (by omega)) (getD_some (by omega)) (by omega) rfl) rfl ?_
    refine JO.t (ob_andv (v := xs.getD i 0 % 4294967296) rfl rfl (and_lo _)) rfl ?_
    refine JO.t (ob_addv (v := loL (xs.take (i + 1))) rfl rfl (by rw [loL_step (by omega), wrap64_eq (by omega) (by omega)])) rfl ?_
    refine JO.t (ob_assign rfl) rfl ?_
    refine JO.nil ?_
    repeat (first | refine JX.next ?_ | refine JX.normal_block ?_)
    refine J.sel [0, 4, 5, 6] (.cons rfl (.cons rfl (.cons rfl (.cons rfl .nil)))) ?_
    repeat refine J.seq ?_
    refine J.plain ?_
    refine JO.t (ob_move rfl) rfl ?_
    refine JO.t (ob_move rfl) rfl ?_
    refine JO.t (ob_move rfl) rfl ?_
    refine JO.t (ob_indexAddr el_sl_int64 rfl (ha (by omega)) rfl (by omega) (by omega)) rfl ?_
    refine JO.t (ob_loadG1 (enc := kC) (sz := 1) (i := i) (j := 0) (y := xs.getD i 0) (u := .int .i64 (xs.getD i 0)) sz_int64 rfl (by repeat (first | exact List.mem_cons_self | apply List.mem_cons_of_mem)) (ha (by omega)) (getD_some (by omega)) (by omega) rfl) rfl ?_
    refine JO.t (ob_shrv (v := xs.getD i 0 / 4294967296) rfl rfl (by omega) (by show Int.fdiv _ (2 ^ 32) = _; rw [Int.fdiv_eq_ediv_of_nonneg _ (by omega)]; rfl)) rfl ?_
    refine JO.t (ob_addv (v := hiL (xs.take (i + 1))) rfl rfl (by rw [hiL_step (by omega), wrap64_eq (by omega) (by omega)])) rfl ?_
    refine JO.t (ob_assign rfl) rfl ?_
    refine JO.nil ?_
    repeat (first | refine JX.next ?_ | refine JX.normal_block ?_)
    refine J.sel [0, 4, 5, 6] (.cons rfl (.cons rfl (.cons rfl (.cons rfl .nil)))) ?_
    repeat refine J.seq ?_
    refine J.plain ?_
    refine JO.t (ob_move rfl) rfl ?_
    refine JO.t (ob_addc (cc := ((i + 1 : Nat) : Int)) rfl rfl (by omega) (by omega) (by omega)) rfl ?_
    refine JO.t (ob_assign rfl) rfl ?_
    refine JO.nil ?_
    repeat refine JX.normal_block ?_
    refine JX.roundS (i + 1) ?_ ?_ [0, 4, 5, 6] ?_ ?_ ?_
    · exact (by omega)
    · exact (by omega)
    · exact (.cons rfl (.cons rfl (.cons rfl (.cons rfl .nil))))
    · repeat (first | exact .slnil | exact List.Sublist.refl _ | apply List.Sublist.cons_cons | apply List.Sublist.cons)
    · repeat (first | exact .slnil | exact List.Sublist.refl _ | apply List.Sublist.cons_cons | apply List.Sublist.cons)
  ·
    try simp only [decide_eq_true_eq, decide_eq_false_iff_not] at ht10
    repeat refine J.seq ?_
    refine J.exit ?_
    repeat (first | refine JX.hit ?_ | refine JX.miss rfl ?_ | refine JX.exit_pass ?_)
    repeat (first | refine JX.next ?_ | refine JX.normal_block ?_)
    have hi2 : i = xs.length := by omega
    subst hi2
    rw [List.take_length]
    have hb1 := lo_bd xs
    have hb2 := hi_bd xs hx
    have hS := hilo xs
    repeat refine J.seq ?_
    refine J.plain ?_
    refine JO.t (ob_move rfl) rfl ?_
    refine JO.t (ob_move rfl) rfl ?_
    refine JO.t (ob_shrv (v := loL xs / 4294967296) rfl rfl (by omega) (by show Int.fdiv _ (2 ^ 32) = _; rw [Int.fdiv_eq_ediv_of_nonneg _ (by omega)]; rfl)) rfl ?_
    refine JO.t (ob_addv (v := sI xs / 4294967296) rfl rfl (by rw [wrap64_eq (by omega) (by omega)]; omega)) rfl ?_
    refine JO.t (ob_assign rfl) rfl ?_
    refine JO.nil ?_
    repeat (first | refine JX.next ?_ | refine JX.normal_block ?_)
    refine J.sel [4, 5] (.cons rfl (.cons rfl .nil)) ?_
    repeat refine J.seq ?_
    refine J.plain ?_
    refine JO.t (ob_move rfl) rfl ?_
    refine JO.t (ob_andv (v := sI xs % 4294967296) rfl rfl (by rw [and_lo]; omega)) rfl ?_
    refine JO.t (ob_assign rfl) rfl ?_
    refine JO.nil ?_
    repeat (first | refine JX.next ?_ | refine JX.normal_block ?_)
    refine J.sel [4, 5] (.cons rfl (.cons rfl .nil)) ?_
    repeat refine J.seq ?_
    refine J.reg0 hmx (by kernel_rfl) (by kernel_rfl) ?_
    refine RT.t (ob_move rfl) ?_
    refine RT.t (ob_shlv (v := IntKind.i64.wrap (sI xs / 4294967296 * 4294967296)) rfl rfl (by omega) rfl) ?_
    refine RT.t (ob_move rfl) ?_
    refine RT.t (ob_orv (v := IntKind.i64.wrap (sI xs)) rfl rfl (by rw [or_hl (by omega) (by omega)]; congr 1; omega)) ?_
    refine RT.t (ob_move rfl) ?_
    refine RT.t (ob_geq rfl rfl) ?_
    refine RT.t (ob_move rfl) ?_
    refine RT.g rfl rfl rfl (fun hg => ob_move (.inl rfl)) ?_
    refine RT.g rfl rfl rfl (fun hg => ob_leq (.inr ⟨_, rfl, fun h => h⟩) (.inl rfl)) ?_
    refine RT.t (ob_pickAnd rfl rfl rfl id) ?_
    refine RT.t (ob_assign rfl) ?_
    refine RT.t (ob_assign rfl) ?_
    refine RT.nil ?_
    refine FinS.nil0 ?_
    repeat (first | refine JX.next ?_ | refine JX.normal_block ?_)
    refine J.sel [2, 3] (.cons rfl (.cons rfl .nil)) ?_
    repeat refine J.seq ?_
    refine J.ret ?_
    repeat (first | refine JX.ret_pass ?_ | refine JX.ret_block ?_)
    exact JX.ret2is rfl rfl rfl (by rfl) (by congr 1; rw [← Bool.decide_and]; exact decide_eq_decide.2 (by omega))
end Go.Proofs.Ytgpikmonklainaa
