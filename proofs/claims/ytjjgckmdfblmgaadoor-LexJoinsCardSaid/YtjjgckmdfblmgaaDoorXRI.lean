/- The document's scanner: its parts. No condition. -/
import Derived.Test.YtjjgckmdfblmgaaDoorXRE
import Derived.Test.YtjjgckmdfblmgaaDoorXG4
set_option maxRecDepth 20000
namespace Go.Proofs.YtjjgckmdfblmgaaDoor
open Go Go.Vc
theorem up_next {f : UInt8 → UInt8} {s : ByteArray} {i : Nat} {acc X : List UInt8} {y : UInt8} (h : i < s.size) (hy : f (by_ s i) = y) (hx : acc ++ (dr s i).map f = X) : (acc ++ [y]) ++ (dr s (i + 1)).map f = X := by
  rw [← hx, dr_cons h, ← hy]
  simp
theorem upF_no {fr tp d : Int} {b : UInt8} (h : (decide (fr ≤ (b.toNat : Int)) && decide ((b.toNat : Int) ≤ tp)) = false) : upF fr tp d b = b := by
  unfold upF upV
  rw [if_neg (by rw [h]; simp)]
  simp
theorem seq_two (s : ByteArray) (x : List UInt8) : seq (s.extract 0 2) (bl x) = (s.data.toList.take 2 == x) := by
  rw [seq_list, show (2 : Nat) = 0 + 2 from rfl, ext_bytes]
  rfl
def quoP (s : ByteArray) (n : Nat) : Option (List UInt8 × Nat) := (quoF (dr s (n + 1)) []).map fun r => (r.1, n + 1 + r.2)
def quoS : Option (List UInt8 × Nat) → ByteArray | some r => bl r.1 | none => ⟨#[]⟩
def quoE : Option (List UInt8 × Nat) → Int | some r => (r.2 : Int) | none => -1
theorem quo_next {s : ByteArray} {i k : Nat} {acc acc' : List UInt8} {X : Option (List UInt8 × Nat)} (e : quoF (dr s i) acc = (quoF (dr s (i + k)) acc').map fun r => (r.1, r.2 + k)) (hr : (quoF (dr s i) acc).map (fun r => (r.1, i + r.2)) = X) : (quoF (dr s (i + k)) acc').map (fun r => (r.1, i + k + r.2)) = X := by
  rw [← hr, e, Option.map_map]
  congr 1
  funext r
  exact Prod.ext rfl (by show i + k + r.2 = i + (r.2 + k); omega)
theorem one_get {s : ByteArray} {i : Nat} (h : i < s.size) : s.data.toList[i]? = some (by_ s i) := by
  have : i < s.data.toList.length := by rw [len_bytes]; exact h
  unfold by_
  rw [List.getD_eq_getElem?_getD, List.getElem?_eq_getElem this]
  rfl
theorem num_next {s : ByteArray} {i : Nat} {u : Int} {X : Option Int} (h : i < s.size) (ho : overF u (dgU (by_ s i)) = false) (hr : refG (dr s i) u = X) : refG (dr s (i + 1)) (IntKind.u64.wrap (IntKind.u64.wrap (10 * u) + dgU (by_ s i))) = X := by
  rw [← hr, dr_cons h, refG, if_neg (by rw [ho]; simp)]
theorem u8_beq (a b : UInt8) : ((a.toNat : Int) == (b.toNat : Int)) = (a == b) := by
  refine Bool.eq_iff_iff.2 ⟨fun h => ?_, fun h => ?_⟩
  · have h : (a.toNat : Int) = (b.toNat : Int) := by simpa using h
    have : a = b := UInt8.toNat_inj.1 (by omega)
    simp [this]
  · have h : a = b := by simpa using h
    subst h
    simp
theorem one_next {b : UInt8} {i : Nat} (h : i < oneB.size) (hr : (oneB.data.toList.take i).contains b = false) (ht : ((b.toNat : Int) == ((by_ oneB i).toNat : Int)) = false) : (oneB.data.toList.take (i + 1)).contains b = false := by
  rw [List.take_add_one, one_get h, List.contains_append, hr]
  rw [u8_beq] at ht
  simpa [bne] using ht
theorem one_hit {b : UInt8} {i : Nat} (h : i < oneB.size) (ht : ((b.toNat : Int) == ((by_ oneB i).toNat : Int)) = true) : oneB.data.toList.contains b = true := by
  rw [u8_beq] at ht
  have e : b = by_ oneB i := by simpa using ht
  rw [List.contains_iff_mem, e]
  exact List.mem_of_getElem? (one_get h)
theorem sgn_cond (s : ByteArray) : (decide (2 ≤ (s.size : Int)) && ((seq (s.extract 0 2) (bl [60, 62]) || seq (s.extract 0 2) (bl [60, 61])) || seq (s.extract 0 2) (bl [62, 61]))) = (decide (2 ≤ (s.data.toList.length : Int)) && ((s.data.toList.take 2 == [60, 62]) || (s.data.toList.take 2 == [60, 61]) || (s.data.toList.take 2 == [62, 61]))) := by
  rw [seq_two, seq_two, seq_two, len_bytes]
theorem sgn_head {s : ByteArray} (h : 0 < s.size) : s.data.toList.headD 0 = by_ s 0 := by
  have h1 := dr_cons h
  have : dr s 0 = s.data.toList := rfl
  rw [this] at h1
  rw [h1]
  rfl
theorem one_end {b : UInt8} {i : Nat} (h : oneB.size ≤ i) (hr : (oneB.data.toList.take i).contains b = false) : oneB.data.toList.contains b = false := by
  rwa [List.take_of_length_le (by rw [len_bytes]; exact h)] at hr
theorem str_get {l : List ByteArray} {i : Nat} (h : i < l.length) : l[i]? = some (l.getD i ⟨#[]⟩) := by simp [h]
theorem bne39 {b : UInt8} (h : ((b.toNat : Int) != 39) = true) : (b == 39) = false := by rw [← q39]; simpa [bne] using h
theorem beq39 {b : UInt8} (h : ((b.toNat : Int) != 39) = false) : (b == 39) = true := by rw [← q39]; simpa [bne] using h
theorem c_ref09_class (c : Int) : CallTy Tryd.prog f_ref09_class [.is (.int .u8 c)] (.is (.int .i64 (classF c))) :=
  CallTy.of (fn := Tryd.f15) Tryd.func15 (n := 44) rfl rfl rfl (fun _ _ => by kernel_rfl) fun E W => by
  repeat refine J.seq ?_
  refine J.plain ?_
  refine JO.t (ob_assign rfl) rfl ?_
  refine JO.nil ?_
  repeat (first | refine JX.next ?_ | refine JX.normal_block ?_)
  refine J.sel [0] (.cons rfl .nil) ?_
  repeat refine J.seq ?_
  refine J.block ?_
  repeat refine J.seq ?_
  refine J.reg0 hmx (by kernel_rfl) (by kernel_rfl) ?_
  refine RT.t (ob_move rfl) ?_
  refine RT.t (ob_geq rfl rfl) ?_
  refine RT.t (ob_move rfl) ?_
  refine RT.g rfl rfl rfl (fun hg => ob_move (.inl rfl)) ?_
  refine RT.g rfl rfl rfl (fun hg => ob_leq (.inr ⟨_, rfl, fun h => h⟩) (.inl rfl)) ?_
  refine RT.t (ob_pickAnd rfl rfl rfl id) ?_
  refine RT.t (ob_move rfl) ?_
  refine RT.g rfl rfl rfl (fun hg => ob_move (.inl rfl)) ?_
  refine RT.g rfl rfl rfl (fun hg => ob_geq (.inr ⟨_, rfl, fun h => h⟩) (.inl rfl)) ?_
  refine RT.g rfl rfl rfl (fun hg => ob_move (.inr ⟨_, rfl, fun h => h⟩)) ?_
  refine RT.gg rfl rfl rfl (fun hg => (ob_move (.inl rfl))) ?_
  refine RT.gg rfl rfl rfl (fun hg => (ob_leq (.inr ⟨_, rfl, fun h => h⟩) (.inl rfl))) ?_
  refine RT.g rfl rfl rfl (fun hg => ob_pickAnd (.inr ⟨_, rfl, fun h => h⟩) (.inl rfl) (.inl rfl) (fun h => ⟨hg, h⟩)) ?_
  refine RT.t (ob_pickOr rfl rfl rfl id) ?_
  refine RT.t (ob_move rfl) ?_
  refine RT.g rfl rfl rfl (fun hg => ob_move (.inl rfl)) ?_
  refine RT.g rfl rfl rfl (fun hg => ob_eql (.inr ⟨_, rfl, fun h => h⟩) (.inl rfl)) ?_
  refine RT.t (ob_pickOr rfl rfl rfl id) ?_
  refine RT.t (ob_assign rfl) ?_
  refine RT.nil ?_
  refine FinS.nil0 ?_
  repeat (first | refine JX.next ?_ | refine JX.normal_block ?_)
  refine J.sel [0, 3] (.cons rfl (.cons rfl .nil)) ?_
  repeat refine J.seq ?_
  refine J.cond rfl (fun ht3 => ?_) (fun ht3 => ?_)
  ·
    try simp only [decide_eq_true_eq, decide_eq_false_iff_not] at ht3
    repeat refine J.seq ?_
    refine J.plain ?_
    refine JO.t (ob_assign rfl) rfl ?_
    refine JO.nil ?_
    repeat (first | refine JX.next ?_ | refine JX.normal_block ?_)
    refine J.sel [2] (.cons rfl .nil) ?_
    repeat refine J.seq ?_
    refine J.ret ?_
    repeat (first | refine JX.ret_pass ?_ | refine JX.ret_block ?_)
    exact JX.ret1is rfl rfl (by unfold classF; rw [if_pos (show isW c = true from ht3)])
  ·
    try simp only [decide_eq_true_eq, decide_eq_false_iff_not] at ht3
    repeat refine J.seq ?_
    refine J.reg0 hmx (by kernel_rfl) (by kernel_rfl) ?_
    refine RT.t (ob_move rfl) ?_
    refine RT.t (ob_geq rfl rfl) ?_
    refine RT.t (ob_move rfl) ?_
    refine RT.g rfl rfl rfl (fun hg => ob_move (.inl rfl)) ?_
    refine RT.g rfl rfl rfl (fun hg => ob_leq (.inr ⟨_, rfl, fun h => h⟩) (.inl rfl)) ?_
    refine RT.t (ob_pickAnd rfl rfl rfl id) ?_
    refine RT.t (ob_assign rfl) ?_
    refine RT.nil ?_
    refine FinS.nil0 ?_
    repeat (first | refine JX.next ?_ | refine JX.normal_block ?_)
    refine J.sel [0, 22] (.cons rfl (.cons rfl .nil)) ?_
    repeat refine J.seq ?_
    refine J.cond rfl (fun ht22 => ?_) (fun ht22 => ?_)
    ·
      try simp only [decide_eq_true_eq, decide_eq_false_iff_not] at ht22
      repeat refine J.seq ?_
      refine J.plain ?_
      refine JO.t (ob_assign rfl) rfl ?_
      refine JO.nil ?_
      repeat (first | refine JX.next ?_ | refine JX.normal_block ?_)
      refine J.sel [2] (.cons rfl .nil) ?_
      repeat refine J.seq ?_
      refine J.ret ?_
      repeat (first | refine JX.ret_pass ?_ | refine JX.ret_block ?_)
      exact JX.ret1is rfl rfl (by unfold classF; rw [if_neg (show ¬ isW c = true by rw [show isW c = false from ht3]; simp), if_pos (show digitF c = true from ht22)])
    ·
      try simp only [decide_eq_true_eq, decide_eq_false_iff_not] at ht22
      repeat refine J.seq ?_
      refine J.reg0 hmx (by kernel_rfl) (by kernel_rfl) ?_
      refine RT.t (ob_move rfl) ?_
      refine RT.t (ob_eql rfl rfl) ?_
      refine RT.t (ob_move rfl) ?_
      refine RT.g rfl rfl rfl (fun hg => ob_move (.inl rfl)) ?_
      refine RT.g rfl rfl rfl (fun hg => ob_eql (.inr ⟨_, rfl, fun h => h⟩) (.inl rfl)) ?_
      refine RT.t (ob_pickOr rfl rfl rfl id) ?_
      refine RT.t (ob_move rfl) ?_
      refine RT.g rfl rfl rfl (fun hg => ob_move (.inl rfl)) ?_
      refine RT.g rfl rfl rfl (fun hg => ob_eql (.inr ⟨_, rfl, fun h => h⟩) (.inl rfl)) ?_
      refine RT.t (ob_pickOr rfl rfl rfl id) ?_
      refine RT.t (ob_move rfl) ?_
      refine RT.g rfl rfl rfl (fun hg => ob_move (.inl rfl)) ?_
      refine RT.g rfl rfl rfl (fun hg => ob_eql (.inr ⟨_, rfl, fun h => h⟩) (.inl rfl)) ?_
      refine RT.t (ob_pickOr rfl rfl rfl id) ?_
      refine RT.t (ob_assign rfl) ?_
      refine RT.nil ?_
      refine FinS.nil0 ?_
      repeat (first | refine JX.next ?_ | refine JX.normal_block ?_)
      refine J.sel [29] (.cons rfl .nil) ?_
      repeat refine J.seq ?_
      refine J.cond rfl (fun ht29 => ?_) (fun ht29 => ?_)
      ·
        try simp only [decide_eq_true_eq, decide_eq_false_iff_not] at ht29
        repeat refine J.seq ?_
        refine J.plain ?_
        refine JO.t (ob_assign rfl) rfl ?_
        refine JO.nil ?_
        repeat (first | refine JX.next ?_ | refine JX.normal_block ?_)
        refine J.sel [2] (.cons rfl .nil) ?_
        repeat refine J.seq ?_
        refine J.ret ?_
        repeat (first | refine JX.ret_pass ?_ | refine JX.ret_block ?_)
        exact JX.ret1is rfl rfl (by unfold classF; rw [if_neg (show ¬ isW c = true by rw [show isW c = false from ht3]; simp), if_neg (show ¬ digitF c = true by rw [show digitF c = false from ht22]; simp), if_pos (show isB c = true from ht29)])
      ·
        try simp only [decide_eq_true_eq, decide_eq_false_iff_not] at ht29
        refine J.skip ?_
        repeat (first | refine JX.next ?_ | refine JX.normal_block ?_)
        repeat refine J.seq ?_
        refine J.plain ?_
        refine JO.t (ob_assign rfl) rfl ?_
        refine JO.nil ?_
        repeat (first | refine JX.next ?_ | refine JX.normal_block ?_)
        refine J.sel [2] (.cons rfl .nil) ?_
        repeat refine J.seq ?_
        refine J.ret ?_
        repeat (first | refine JX.ret_pass ?_ | refine JX.ret_block ?_)
        exact JX.ret1is rfl rfl (by unfold classF; rw [if_neg (show ¬ isW c = true by rw [show isW c = false from ht3]; simp), if_neg (show ¬ digitF c = true by rw [show digitF c = false from ht22]; simp), if_neg (show ¬ isB c = true by rw [show isB c = false from ht29]; simp)])
theorem c_ref09_upper (s : ByteArray) (fr tp d : Int) (hs : s.size ≤ 2048) : CallTy Tryd.prog f_ref09_upper [.is (.string s), .is (.int .u8 fr), .is (.int .u8 tp), .is (.int .i64 d)] (.is (.string (bl (s.data.toList.map (upF fr tp d))))) :=
  CallTy.of (fn := Tryd.f32) Tryd.func32 (n := 40) rfl rfl rfl (fun _ _ => by kernel_rfl) fun E W => by
  repeat refine J.seq ?_
  refine J.plain ?_
  refine JO.t (ob_assign rfl) rfl ?_
  refine JO.nil ?_
  repeat (first | refine JX.next ?_ | refine JX.normal_block ?_)
  refine J.sel [0, 1, 2, 3] (.cons rfl (.cons rfl (.cons rfl (.cons rfl .nil)))) ?_
  repeat refine J.seq ?_
  refine J.plain ?_
  refine JO.t (ob_assign rfl) rfl ?_
  refine JO.nil ?_
  repeat (first | refine JX.next ?_ | refine JX.normal_block ?_)
  refine J.sel [0, 1, 2, 3, 9] (.cons rfl (.cons rfl (.cons rfl (.cons rfl (.cons rfl .nil))))) ?_
  repeat refine J.seq ?_
  refine J.plain ?_
  refine JO.t (ob_assign rfl) rfl ?_
  refine JO.nil ?_
  repeat (first | refine JX.next ?_ | refine JX.normal_block ?_)
  refine J.sel [0, 1, 2, 3, 9, 10] (.cons rfl (.cons rfl (.cons rfl (.cons rfl (.cons rfl (.cons rfl .nil)))))) ?_
  repeat refine J.seq ?_
  refine J.block ?_
  repeat refine J.seq ?_
  refine J.loopG (α := Nat × List UInt8 × Option (Nat × List Value) × Nat) (fun z => [(0, .is (.string s)), (1, .is (.int .u8 fr)), (2, .is (.int .u8 tp)), (3, .is (.int .i64 d)), (9, .is (sliceO z.2.2.1 z.2.1.length z.2.2.2)), (10, .is (.int .i64 (z.1 : Nat)))]) (fun z => ownO z.2.2.1 ty_uint8 []) (fun z => fun _ => True) (fun z => z.1 ≤ s.size ∧ z.2.1 ++ (dr s z.1).map (upF fr tp d) = (s.data.toList.map (upF fr tp d)) ∧ Grows bC 1 z.2.1 z.2.2.1 z.2.2.2 ∧ z.2.1.length ≤ z.1) (fun z => s.size - z.1) (0, [], none, 0) [0, 1, 2, 3, 9, 10] (.cons rfl (.cons rfl (.cons rfl (.cons rfl (.cons rfl (.cons rfl .nil)))))) rfl (fun _ => trivial) ⟨by omega, rfl, rfl, by simp⟩ fun ⟨i, acc, st, cp⟩ ⟨hi, hx, hG, hal⟩ => ?_
  try dsimp only
  try dsimp only at acc
  try dsimp only at st
  try dsimp only at cp
  try dsimp only at hi
  try dsimp only at hx
  try dsimp only at hG
  try dsimp only at hal
  repeat refine J.seq ?_
  refine J.plain ?_
  refine JO.t (ob_move rfl) rfl ?_
  refine JO.t (ob_move rfl) rfl ?_
  refine JO.t (ob_slen un_string rfl) rfl ?_
  refine JO.t (ob_lss rfl rfl) rfl ?_
  refine JO.nil ?_
  repeat (first | refine JX.next ?_ | refine JX.normal_block ?_)
  refine J.sel [0, 1, 2, 3, 9, 10, 15] (.cons rfl (.cons rfl (.cons rfl (.cons rfl (.cons rfl (.cons rfl (.cons rfl .nil))))))) ?_
  repeat refine J.seq ?_
  refine J.cond rfl (fun ht15 => ?_) (fun ht15 => ?_)
  ·
    try simp only [decide_eq_true_eq, decide_eq_false_iff_not] at ht15
    refine J.skip ?_
    repeat (first | refine JX.next ?_ | refine JX.normal_block ?_)
    repeat refine J.seq ?_
    refine J.block ?_
    repeat refine J.seq ?_
    refine J.plain ?_
    refine JO.t (ob_move rfl) rfl ?_
    refine JO.t (ob_move rfl) rfl ?_
    refine JO.t (ob_sindex un_string rfl rfl (by omega) (by omega)) rfl ?_
    refine JO.t (ob_assign rfl) rfl ?_
    refine JO.nil ?_
    repeat (first | refine JX.next ?_ | refine JX.normal_block ?_)
    refine J.sel [0, 1, 2, 3, 9, 10, 11] (.cons rfl (.cons rfl (.cons rfl (.cons rfl (.cons rfl (.cons rfl (.cons rfl .nil))))))) ?_
    repeat refine J.seq ?_
    refine J.reg0 hmx (by kernel_rfl) (by kernel_rfl) ?_
    refine RT.t (ob_move rfl) ?_
    refine RT.t (ob_move rfl) ?_
    refine RT.t (ob_geq rfl rfl) ?_
    refine RT.t (ob_move rfl) ?_
    refine RT.g rfl rfl rfl (fun hg => ob_move (.inl rfl)) ?_
    refine RT.g rfl rfl rfl (fun hg => ob_move (.inl rfl)) ?_
    refine RT.g rfl rfl rfl (fun hg => ob_leq (.inr ⟨_, rfl, fun h => h⟩) (.inr ⟨_, rfl, fun h => h⟩)) ?_
    refine RT.t (ob_pickAnd rfl rfl rfl id) ?_
    refine RT.nil ?_
    refine FinS.nil0 ?_
    repeat (first | refine JX.next ?_ | refine JX.normal_block ?_)
    refine J.sel [0, 1, 2, 3, 9, 10, 11, 28] (.cons rfl (.cons rfl (.cons rfl (.cons rfl (.cons rfl (.cons rfl (.cons rfl (.cons rfl .nil)))))))) ?_
    repeat refine J.seq ?_
    refine J.cond rfl (fun ht28 => ?_) (fun ht28 => ?_)
    ·
      try simp only [decide_eq_true_eq, decide_eq_false_iff_not] at ht28
      repeat refine J.seq ?_
      refine J.plain ?_
      refine JO.t (ob_move rfl) rfl ?_
      refine JO.t (ob_convII ⟨_, un_uint8⟩ un_int rfl) rfl ?_
      refine JO.t (ob_move rfl) rfl ?_
      refine JO.t (ob_add rfl rfl) rfl ?_
      refine JO.t (ob_convIIe (cc := ((upF fr tp d (by_ s i)).toNat : Int)) ⟨_, un_int⟩ un_uint8 rfl (by rw [up_v]; exact (if_pos ht28).symm)) rfl ?_
      refine JO.t (ob_assign rfl) rfl ?_
      refine JO.nil ?_
      repeat (first | refine JX.next ?_ | refine JX.normal_block ?_)
      refine J.sel [0, 1, 2, 3, 9, 10, 11] (.cons rfl (.cons rfl (.cons rfl (.cons rfl (.cons rfl (.cons rfl (.cons rfl .nil))))))) ?_
      repeat refine J.seq ?_
      refine J.plain ?_
      refine JO.t (ob_move rfl) rfl ?_
      refine JO.t (ob_move rfl) rfl ?_
      refine JO.t (ob_buildSlice (cs := [_]) sl_sl_uint8 (by omega) (by omega) (.cons rfl .nil) rfl rfl rfl) rfl ?_
      refine JO.apP [upF fr tp d (by_ s i)] ap_sl_uint8 bC_len (by repeat (first | exact .here | apply Cx.past | apply Cx.there)) hG rfl rfl (fun L => src_new un_sl_uint8 rfl rfl) (by simp) (by simp; omega) (by simp; omega) rfl (fun st1 cp1 hG1 => ?_)
      try dsimp only
      refine JO.t (ob_assign rfl) rfl ?_
      refine JO.nil ?_
      repeat (first | refine JX.next ?_ | refine JX.normal_block ?_)
      refine J.sel [0, 1, 2, 3, 9, 10] (.cons rfl (.cons rfl (.cons rfl (.cons rfl (.cons rfl (.cons rfl .nil)))))) ?_
      repeat refine J.seq ?_
      refine J.plain ?_
      refine JO.t (ob_move rfl) rfl ?_
      refine JO.t (ob_addc (cc := ((i + 1 : Nat) : Int)) rfl rfl (by omega) (by omega) (by omega)) rfl ?_
      refine JO.t (ob_assign rfl) rfl ?_
      refine JO.nil ?_
      repeat refine JX.normal_block ?_
      refine JX.roundG (x := ⟨i, acc, st, cp⟩) (i + 1, acc ++ [upF fr tp d (by_ s i)], st1, cp1) ?_ ?_ [0, 1, 2, 3, 9, 10] ?_ ?_ ?_ ?_
      · exact ⟨by omega, up_next (by omega) rfl hx, hG1, by simp; omega⟩
      · exact (by simp only; omega)
      · exact (.cons rfl (.cons rfl (.cons rfl (.cons rfl (.cons rfl (.cons rfl .nil))))))
      · repeat (first | exact .all | exact .nil | refine Has.own (by repeat (first | exact .here | apply Tl.past | apply Tl.there)) ?_ | refine Has.cons (by repeat (first | exact .here | apply Pk.past | apply Pk.there)) ?_)
      · exact fun G hG => by repeat (first | exact hG | refine List.mem_cons_of_mem _ ?_)
      · exact fun _ _ _ => fun _ _ => trivial
    ·
      try simp only [decide_eq_true_eq, decide_eq_false_iff_not] at ht28
      refine J.skip ?_
      repeat (first | refine JX.next ?_ | refine JX.normal_block ?_)
      repeat refine J.seq ?_
      refine J.plain ?_
      refine JO.t (ob_move rfl) rfl ?_
      refine JO.t (ob_move rfl) rfl ?_
      refine JO.t (ob_buildSlice (cs := [_]) sl_sl_uint8 (by omega) (by omega) (.cons rfl .nil) rfl rfl rfl) rfl ?_
      refine JO.apP [by_ s i] ap_sl_uint8 bC_len (by repeat (first | exact .here | apply Cx.past | apply Cx.there)) hG rfl rfl (fun L => src_new un_sl_uint8 rfl rfl) (by simp) (by simp; omega) (by simp; omega) rfl (fun st1 cp1 hG1 => ?_)
      try dsimp only
      refine JO.t (ob_assign rfl) rfl ?_
      refine JO.nil ?_
      repeat (first | refine JX.next ?_ | refine JX.normal_block ?_)
      refine J.sel [0, 1, 2, 3, 9, 10] (.cons rfl (.cons rfl (.cons rfl (.cons rfl (.cons rfl (.cons rfl .nil)))))) ?_
      repeat refine J.seq ?_
      refine J.plain ?_
      refine JO.t (ob_move rfl) rfl ?_
      refine JO.t (ob_addc (cc := ((i + 1 : Nat) : Int)) rfl rfl (by omega) (by omega) (by omega)) rfl ?_
      refine JO.t (ob_assign rfl) rfl ?_
      refine JO.nil ?_
      repeat refine JX.normal_block ?_
      refine JX.roundG (x := ⟨i, acc, st, cp⟩) (i + 1, acc ++ [by_ s i], st1, cp1) ?_ ?_ [0, 1, 2, 3, 9, 10] ?_ ?_ ?_ ?_
      · exact ⟨by omega, up_next (by omega) (upF_no ht28) hx, hG1, by simp; omega⟩
      · exact (by simp only; omega)
      · exact (.cons rfl (.cons rfl (.cons rfl (.cons rfl (.cons rfl (.cons rfl .nil))))))
      · repeat (first | exact .all | exact .nil | refine Has.own (by repeat (first | exact .here | apply Tl.past | apply Tl.there)) ?_ | refine Has.cons (by repeat (first | exact .here | apply Pk.past | apply Pk.there)) ?_)
      · exact fun G hG => by repeat (first | exact hG | refine List.mem_cons_of_mem _ ?_)
      · exact fun _ _ _ => fun _ _ => trivial
  ·
    try simp only [decide_eq_true_eq, decide_eq_false_iff_not] at ht15
    repeat refine J.seq ?_
    refine J.exit ?_
    repeat (first | refine JX.hit ?_ | refine JX.miss rfl ?_ | refine JX.exit_pass ?_)
    repeat (first | refine JX.next ?_ | refine JX.normal_block ?_)
    have hacc : acc = (s.data.toList.map (upF fr tp d)) := by rw [← hx, dr_nil (by omega)]; simp
    refine J.freezeO bC_len hG (e := ty_uint8) (by repeat (first | exact .here | apply Tl.past | apply Tl.there)) (fun _ h => h) rfl rfl ?_
    obtain ⟨cap2, hso⟩ := sliceO_ad hG
    rw [hso]
    repeat refine J.seq ?_
    refine J.plain ?_
    refine JO.t (ob_move rfl) rfl ?_
    refine JO.t (ob_str un_sl_uint8 un_uint8 un_string rfl (by repeat (first | exact List.mem_cons_self | apply List.mem_cons_of_mem))) rfl ?_
    refine JO.t (ob_assign rfl) rfl ?_
    refine JO.nil ?_
    repeat (first | refine JX.next ?_ | refine JX.normal_block ?_)
    refine J.sel [8] (.cons rfl .nil) ?_
    repeat refine J.seq ?_
    refine J.ret ?_
    repeat (first | refine JX.ret_pass ?_ | refine JX.ret_block ?_)
    exact JX.ret1is rfl rfl (by rw [hacc])
theorem c_ref09_Words  : CallTy Tryd.prog f_ref09_Words [] (.rep (SlG strC 1 wordsB)) :=
  CallTy.of (fn := Tryd.f33) Tryd.func33 (n := 2) rfl rfl rfl (fun _ _ => by kernel_rfl) fun E W => by
  repeat refine J.seq ?_
  refine J.plain ?_
  refine JO.t (ob_assign rfl) rfl ?_
  refine JO.nil ?_
  repeat (first | refine JX.next ?_ | refine JX.normal_block ?_)
  refine J.sel [] .nil ?_
  repeat refine J.seq ?_
  refine J.plain ?_
  refine JO.t (ob_buildSlice (cs := [_, _, _, _, _, _, _, _, _, _, _, _, _, _, _, _, _, _, _, _, _, _, _, _, _, _, _, _, _, _, _, _, _, _, _, _, _, _, _, _, _, _, _, _]) sl_sl_string (by omega) (by omega) (.cons rfl (.cons rfl (.cons rfl (.cons rfl (.cons rfl (.cons rfl (.cons rfl (.cons rfl (.cons rfl (.cons rfl (.cons rfl (.cons rfl (.cons rfl (.cons rfl (.cons rfl (.cons rfl (.cons rfl (.cons rfl (.cons rfl (.cons rfl (.cons rfl (.cons rfl (.cons rfl (.cons rfl (.cons rfl (.cons rfl (.cons rfl (.cons rfl (.cons rfl (.cons rfl (.cons rfl (.cons rfl (.cons rfl (.cons rfl (.cons rfl (.cons rfl (.cons rfl (.cons rfl (.cons rfl (.cons rfl (.cons rfl (.cons rfl (.cons rfl (.cons rfl .nil)))))))))))))))))))))))))))))))))))))))))))) rfl rfl rfl) rfl ?_
  refine JO.t (ob_assign rfl) rfl ?_
  refine JO.nil ?_
  repeat (first | refine JX.next ?_ | refine JX.normal_block ?_)
  refine J.sel [0] (.cons rfl .nil) ?_
  repeat refine J.seq ?_
  refine J.ret ?_
  repeat (first | refine JX.ret_pass ?_ | refine JX.ret_block ?_)
  exact JX.ret1sub rfl rfl rfl (Sub.newSlG strC_len rfl rfl)
theorem c_ref09_number (s : ByteArray) (hs : s.size ≤ 2048) : CallTy Tryd.prog f_ref09_number [.is (.string s)] (.tup2 (.is (.int .i64 (refNum s.data.toList).1)) (.is (.bool (refNum s.data.toList).2))) :=
  CallTy.of (fn := Tryd.f17) Tryd.func17 (n := 34) rfl rfl rfl (fun _ _ => by kernel_rfl) fun E W => by
  repeat refine J.seq ?_
  refine J.plain ?_
  refine JO.t (ob_assign rfl) rfl ?_
  refine JO.t (ob_assign rfl) rfl ?_
  refine JO.nil ?_
  repeat (first | refine JX.next ?_ | refine JX.normal_block ?_)
  refine J.sel [0] (.cons rfl .nil) ?_
  repeat refine J.seq ?_
  refine J.plain ?_
  refine JO.t (ob_assign rfl) rfl ?_
  refine JO.nil ?_
  repeat (first | refine JX.next ?_ | refine JX.normal_block ?_)
  refine J.sel [0, 4] (.cons rfl (.cons rfl .nil)) ?_
  repeat refine J.seq ?_
  refine J.plain ?_
  refine JO.t (ob_assign rfl) rfl ?_
  refine JO.nil ?_
  repeat (first | refine JX.next ?_ | refine JX.normal_block ?_)
  refine J.sel [0, 4, 5] (.cons rfl (.cons rfl (.cons rfl .nil))) ?_
  repeat refine J.seq ?_
  refine J.block ?_
  repeat refine J.seq ?_
  refine J.loopF (α := Nat × Int) (fun z => [(0, .is (.string s)), (4, .is (.int .u64 z.2)), (5, .is (.int .i64 (z.1 : Nat)))]) (fun z => z.1 ≤ s.size ∧ refG (dr s z.1) z.2 = refG s.data.toList 0) (fun z => s.size - z.1) (0, 0) [0, 4, 5] (.cons rfl (.cons rfl (.cons rfl .nil))) ⟨by omega, rfl⟩ fun ⟨i, u⟩ ⟨hi, hr⟩ => ?_
  repeat refine J.seq ?_
  refine J.plain ?_
  refine JO.t (ob_move rfl) rfl ?_
  refine JO.t (ob_move rfl) rfl ?_
  refine JO.t (ob_slen un_string rfl) rfl ?_
  refine JO.t (ob_lss rfl rfl) rfl ?_
  refine JO.nil ?_
  repeat (first | refine JX.next ?_ | refine JX.normal_block ?_)
  refine J.sel [0, 4, 5, 10] (.cons rfl (.cons rfl (.cons rfl (.cons rfl .nil)))) ?_
  repeat refine J.seq ?_
  refine J.cond rfl (fun ht10 => ?_) (fun ht10 => ?_)
  ·
    try simp only [decide_eq_true_eq, decide_eq_false_iff_not] at ht10
    refine J.skip ?_
    repeat (first | refine JX.next ?_ | refine JX.normal_block ?_)
    repeat refine J.seq ?_
    refine J.block ?_
    repeat refine J.seq ?_
    refine J.plain ?_
    refine JO.t (ob_move rfl) rfl ?_
    refine JO.t (ob_move rfl) rfl ?_
    refine JO.t (ob_sindex un_string rfl rfl (by omega) (by omega)) rfl ?_
    refine JO.t (ob_sub rfl rfl) rfl ?_
    refine JO.t (ob_convII ⟨_, un_uint8⟩ un_uint64 rfl) rfl ?_
    refine JO.t (ob_assign rfl) rfl ?_
    refine JO.nil ?_
    repeat (first | refine JX.next ?_ | refine JX.normal_block ?_)
    refine J.sel [0, 4, 5, 6] (.cons rfl (.cons rfl (.cons rfl (.cons rfl .nil)))) ?_
    repeat refine J.seq ?_
    refine J.reg0 hmx (by kernel_rfl) (by kernel_rfl) ?_
    refine RT.t (ob_move rfl) ?_
    refine RT.t (ob_gtr rfl rfl) ?_
    refine RT.t (ob_move rfl) ?_
    refine RT.g rfl rfl rfl (fun hg => ob_move (.inl rfl)) ?_
    refine RT.g rfl rfl rfl (fun hg => ob_eql (.inr ⟨_, rfl, fun h => h⟩) (.inl rfl)) ?_
    refine RT.g rfl rfl rfl (fun hg => ob_move (.inr ⟨_, rfl, fun h => h⟩)) ?_
    refine RT.gg rfl rfl rfl (fun hg => (ob_move (.inl rfl))) ?_
    refine RT.gg rfl rfl rfl (fun hg => (ob_gtr (.inr ⟨_, rfl, fun h => h⟩) (.inl rfl))) ?_
    refine RT.g rfl rfl rfl (fun hg => ob_pickAnd (.inr ⟨_, rfl, fun h => h⟩) (.inl rfl) (.inl rfl) (fun h => ⟨hg, h⟩)) ?_
    refine RT.t (ob_pickOr rfl rfl rfl id) ?_
    refine RT.nil ?_
    refine FinS.nil0 ?_
    repeat (first | refine JX.next ?_ | refine JX.normal_block ?_)
    refine J.sel [0, 4, 5, 6, 27] (.cons rfl (.cons rfl (.cons rfl (.cons rfl (.cons rfl .nil))))) ?_
    repeat refine J.seq ?_
    refine J.cond rfl (fun ht27 => ?_) (fun ht27 => ?_)
    ·
      try simp only [decide_eq_true_eq, decide_eq_false_iff_not] at ht27
      have hn : refG s.data.toList 0 = none := by rw [← hr, dr_cons (by omega), refG, if_pos (show overF u (dgU (by_ s i)) = true from ht27)]
      repeat refine J.seq ?_
      refine J.plain ?_
      refine JO.t (ob_assign rfl) rfl ?_
      refine JO.t (ob_assign rfl) rfl ?_
      refine JO.nil ?_
      repeat (first | refine JX.next ?_ | refine JX.normal_block ?_)
      refine J.sel [2, 3] (.cons rfl (.cons rfl .nil)) ?_
      repeat refine J.seq ?_
      refine J.ret ?_
      repeat (first | refine JX.ret_pass ?_ | refine JX.ret_block ?_)
      exact JX.ret2is rfl rfl rfl (by unfold refNum; rw [hn]) (by unfold refNum; rw [hn])
    ·
      try simp only [decide_eq_true_eq, decide_eq_false_iff_not] at ht27
      refine J.skip ?_
      repeat (first | refine JX.next ?_ | refine JX.normal_block ?_)
      repeat refine J.seq ?_
      refine J.plain ?_
      refine JO.t (ob_move rfl) rfl ?_
      refine JO.t (ob_mul rfl rfl) rfl ?_
      refine JO.t (ob_move rfl) rfl ?_
      refine JO.t (ob_add rfl rfl) rfl ?_
      refine JO.t (ob_assign rfl) rfl ?_
      refine JO.nil ?_
      repeat (first | refine JX.next ?_ | refine JX.normal_block ?_)
      refine J.sel [0, 4, 5] (.cons rfl (.cons rfl (.cons rfl .nil))) ?_
      repeat refine J.seq ?_
      refine J.plain ?_
      refine JO.t (ob_move rfl) rfl ?_
      refine JO.t (ob_addc (cc := ((i + 1 : Nat) : Int)) rfl rfl (by omega) (by omega) (by omega)) rfl ?_
      refine JO.t (ob_assign rfl) rfl ?_
      refine JO.nil ?_
      repeat refine JX.normal_block ?_
      refine JX.roundS (i + 1, IntKind.u64.wrap (IntKind.u64.wrap (10 * u) + dgU (by_ s i))) ?_ ?_ [0, 4, 5] ?_ ?_ ?_
      · exact ⟨by omega, num_next (by omega) ht27 hr⟩
      · exact (by simp only; omega)
      · exact (.cons rfl (.cons rfl (.cons rfl .nil)))
      · repeat (first | exact .slnil | apply List.Sublist.cons_cons | apply List.Sublist.cons)
      · repeat (first | exact .slnil | apply List.Sublist.cons_cons | apply List.Sublist.cons)
  ·
    try simp only [decide_eq_true_eq, decide_eq_false_iff_not] at ht10
    repeat refine J.seq ?_
    refine J.exit ?_
    repeat (first | refine JX.hit ?_ | refine JX.miss rfl ?_ | refine JX.exit_pass ?_)
    repeat (first | refine JX.next ?_ | refine JX.normal_block ?_)
    have hn : refG s.data.toList 0 = some u := by rw [← hr, dr_nil (by omega)]; rfl
    repeat refine J.seq ?_
    refine J.plain ?_
    refine JO.t (ob_move rfl) rfl ?_
    refine JO.t (ob_convII ⟨_, un_uint64⟩ un_int64 rfl) rfl ?_
    refine JO.t (ob_assign rfl) rfl ?_
    refine JO.t (ob_assign rfl) rfl ?_
    refine JO.nil ?_
    repeat (first | refine JX.next ?_ | refine JX.normal_block ?_)
    refine J.sel [2, 3] (.cons rfl (.cons rfl .nil)) ?_
    repeat refine J.seq ?_
    refine J.ret ?_
    repeat (first | refine JX.ret_pass ?_ | refine JX.ret_block ?_)
    exact JX.ret2is rfl rfl rfl (by unfold refNum; rw [hn]) (by unfold refNum; rw [hn])
theorem c_ref09_sign (s : ByteArray) (h0 : 0 < s.size) (hs : s.size ≤ 2048) : CallTy Tryd.prog f_ref09_sign [.is (.string s)] (.is (.int .i64 (signRF s.data.toList))) :=
  CallTy.of (fn := Tryd.f19) Tryd.func19 (n := 35) rfl rfl rfl (fun _ _ => by kernel_rfl) fun E W => by
  repeat refine J.seq ?_
  refine J.plain ?_
  refine JO.t (ob_assign rfl) rfl ?_
  refine JO.nil ?_
  repeat (first | refine JX.next ?_ | refine JX.normal_block ?_)
  refine J.sel [0] (.cons rfl .nil) ?_
  repeat refine J.seq ?_
  refine J.reg0 hmx (by kernel_rfl) (by kernel_rfl) ?_
  refine RT.t (ob_move rfl) ?_
  refine RT.t (ob_slen un_string rfl) ?_
  refine RT.t (ob_geq rfl rfl) ?_
  refine RT.t (ob_move rfl) ?_
  refine RT.g rfl rfl rfl (fun hg => ob_move (.inl rfl)) ?_
  refine RT.g rfl rfl rfl (fun hg => ob_ssliceHi un_string (.inr ⟨_, rfl, fun h => h⟩) (.inl rfl) (by simp at hg; omega) (by simp at hg; omega)) ?_
  refine RT.g rfl rfl rfl (fun hg => ob_seql (.inr ⟨_, rfl, fun h => h⟩) (.inl rfl)) ?_
  refine RT.g rfl rfl rfl (fun hg => ob_move (.inr ⟨_, rfl, fun h => h⟩)) ?_
  refine RT.gg rfl rfl rfl (fun hg => (ob_move (.inl rfl))) ?_
  refine RT.gg rfl rfl rfl (fun hg => (ob_ssliceHi un_string (.inr ⟨_, rfl, fun h => h⟩) (.inl rfl) (by simp at hg; omega) (by simp at hg; omega))) ?_
  refine RT.gg rfl rfl rfl (fun hg => (ob_seql (.inr ⟨_, rfl, fun h => h⟩) (.inl rfl))) ?_
  refine RT.g rfl rfl rfl (fun hg => ob_pickOr (.inr ⟨_, rfl, fun h => h⟩) (.inl rfl) (.inl rfl) (fun h => ⟨hg, h⟩)) ?_
  refine RT.g rfl rfl rfl (fun hg => ob_move (.inr ⟨_, rfl, fun h => h⟩)) ?_
  refine RT.gg rfl rfl rfl (fun hg => (ob_move (.inl rfl))) ?_
  refine RT.gg rfl rfl rfl (fun hg => (ob_ssliceHi un_string (.inr ⟨_, rfl, fun h => h⟩) (.inl rfl) (by simp at hg; omega) (by simp at hg; omega))) ?_
  refine RT.gg rfl rfl rfl (fun hg => (ob_seql (.inr ⟨_, rfl, fun h => h⟩) (.inl rfl))) ?_
  refine RT.g rfl rfl rfl (fun hg => ob_pickOr (.inr ⟨_, rfl, fun h => h⟩) (.inl rfl) (.inl rfl) (fun h => ⟨hg, h⟩)) ?_
  refine RT.t (ob_pickAnd rfl rfl rfl id) ?_
  refine RT.nil ?_
  refine FinS.nil0 ?_
  repeat (first | refine JX.next ?_ | refine JX.normal_block ?_)
  refine J.sel [0, 22] (.cons rfl (.cons rfl .nil)) ?_
  repeat refine J.seq ?_
  refine J.cond rfl (fun ht22 => ?_) (fun ht22 => ?_)
  ·
    try simp only [decide_eq_true_eq, decide_eq_false_iff_not] at ht22
    repeat refine J.seq ?_
    refine J.plain ?_
    refine JO.t (ob_assign rfl) rfl ?_
    refine JO.nil ?_
    repeat (first | refine JX.next ?_ | refine JX.normal_block ?_)
    refine J.sel [2] (.cons rfl .nil) ?_
    repeat refine J.seq ?_
    refine J.ret ?_
    repeat (first | refine JX.ret_pass ?_ | refine JX.ret_block ?_)
    exact JX.ret1is rfl rfl (by unfold signRF; rw [if_pos (by rw [← sgn_cond]; exact ht22)])
  ·
    try simp only [decide_eq_true_eq, decide_eq_false_iff_not] at ht22
    refine J.skip ?_
    repeat (first | refine JX.next ?_ | refine JX.normal_block ?_)
    repeat refine J.seq ?_
    refine J.plain ?_
    refine JO.t (ob_assign rfl) rfl ?_
    refine JO.nil ?_
    repeat (first | refine JX.next ?_ | refine JX.normal_block ?_)
    refine J.sel [0, 3] (.cons rfl (.cons rfl .nil)) ?_
    repeat refine J.seq ?_
    refine J.plain ?_
    refine JO.t (ob_assign rfl) rfl ?_
    refine JO.nil ?_
    repeat (first | refine JX.next ?_ | refine JX.normal_block ?_)
    refine J.sel [0, 3, 4] (.cons rfl (.cons rfl (.cons rfl .nil))) ?_
    repeat refine J.seq ?_
    refine J.block ?_
    repeat refine J.seq ?_
    refine J.loopF (α := Nat) (fun i => [(0, .is (.string s)), (3, .is (.string oneB)), (4, .is (.int .i64 (i : Nat)))]) (fun i => i ≤ oneB.size ∧ (oneB.data.toList.take i).contains (by_ s 0) = false) (fun i => oneB.size - i) 0 [0, 3, 4] (.cons rfl (.cons rfl (.cons rfl .nil))) ⟨by omega, rfl⟩ fun i ⟨hi, hr⟩ => ?_
    repeat refine J.seq ?_
    refine J.plain ?_
    refine JO.t (ob_move rfl) rfl ?_
    refine JO.t (ob_move rfl) rfl ?_
    refine JO.t (ob_slen un_string rfl) rfl ?_
    refine JO.t (ob_lss rfl rfl) rfl ?_
    refine JO.nil ?_
    repeat (first | refine JX.next ?_ | refine JX.normal_block ?_)
    refine J.sel [0, 3, 4, 26] (.cons rfl (.cons rfl (.cons rfl (.cons rfl .nil)))) ?_
    repeat refine J.seq ?_
    refine J.cond rfl (fun ht26 => ?_) (fun ht26 => ?_)
    ·
      try simp only [decide_eq_true_eq, decide_eq_false_iff_not] at ht26
      refine J.skip ?_
      repeat (first | refine JX.next ?_ | refine JX.normal_block ?_)
      repeat refine J.seq ?_
      refine J.block ?_
      have o13 : oneB.size = 13 := rfl
      repeat refine J.seq ?_
      refine J.reg0 hmx (by kernel_rfl) (by kernel_rfl) ?_
      refine RT.t (ob_move rfl) ?_
      refine RT.t (ob_sindex un_string rfl rfl (by omega) (by omega)) ?_
      refine RT.t (ob_move rfl) ?_
      refine RT.t (ob_move rfl) ?_
      refine RT.t (ob_sindex un_string rfl rfl (by omega) (by omega)) ?_
      refine RT.t (ob_eql rfl rfl) ?_
      refine RT.nil ?_
      refine FinS.nil0 ?_
      repeat (first | refine JX.next ?_ | refine JX.normal_block ?_)
      refine J.sel [0, 3, 4, 34] (.cons rfl (.cons rfl (.cons rfl (.cons rfl .nil)))) ?_
      repeat refine J.seq ?_
      refine J.cond rfl (fun ht34 => ?_) (fun ht34 => ?_)
      ·
        try simp only [decide_eq_true_eq, decide_eq_false_iff_not] at ht34
        repeat refine J.seq ?_
        refine J.plain ?_
        refine JO.t (ob_assign rfl) rfl ?_
        refine JO.nil ?_
        repeat (first | refine JX.next ?_ | refine JX.normal_block ?_)
        refine J.sel [2] (.cons rfl .nil) ?_
        repeat refine J.seq ?_
        refine J.ret ?_
        repeat (first | refine JX.ret_pass ?_ | refine JX.ret_block ?_)
        exact JX.ret1is rfl rfl (by unfold signRF; rw [if_neg (by rw [← sgn_cond, show (decide (2 ≤ (s.size : Int)) && ((seq (s.extract 0 2) (bl [60, 62]) || seq (s.extract 0 2) (bl [60, 61])) || seq (s.extract 0 2) (bl [62, 61]))) = false from ht22]; simp), sgn_head h0, if_pos (one_hit (b := by_ s 0) (i := i) (by have : oneB.size = 13 := rfl; omega) ht34)])
      ·
        try simp only [decide_eq_true_eq, decide_eq_false_iff_not] at ht34
        refine J.skip ?_
        repeat (first | refine JX.next ?_ | refine JX.normal_block ?_)
        repeat refine J.seq ?_
        refine J.plain ?_
        refine JO.t (ob_move rfl) rfl ?_
        refine JO.t (ob_addc (cc := ((i + 1 : Nat) : Int)) rfl rfl (by omega) (by omega) (by omega)) rfl ?_
        refine JO.t (ob_assign rfl) rfl ?_
        refine JO.nil ?_
        repeat refine JX.normal_block ?_
        refine JX.roundS (i + 1) ?_ ?_ [0, 3, 4] ?_ ?_ ?_
        · exact ⟨by omega, one_next (b := by_ s 0) (by omega) hr ht34⟩
        · exact (by omega)
        · exact (.cons rfl (.cons rfl (.cons rfl .nil)))
        · repeat (first | exact .slnil | apply List.Sublist.cons_cons | apply List.Sublist.cons)
        · repeat (first | exact .slnil | apply List.Sublist.cons_cons | apply List.Sublist.cons)
    ·
      try simp only [decide_eq_true_eq, decide_eq_false_iff_not] at ht26
      repeat refine J.seq ?_
      refine J.exit ?_
      repeat (first | refine JX.hit ?_ | refine JX.miss rfl ?_ | refine JX.exit_pass ?_)
      repeat (first | refine JX.next ?_ | refine JX.normal_block ?_)
      repeat refine J.seq ?_
      refine J.plain ?_
      refine JO.t (ob_assign rfl) rfl ?_
      refine JO.nil ?_
      repeat (first | refine JX.next ?_ | refine JX.normal_block ?_)
      refine J.sel [2] (.cons rfl .nil) ?_
      repeat refine J.seq ?_
      refine J.ret ?_
      repeat (first | refine JX.ret_pass ?_ | refine JX.ret_block ?_)
      exact JX.ret1is rfl rfl (by unfold signRF; rw [if_neg (by rw [← sgn_cond, show (decide (2 ≤ (s.size : Int)) && ((seq (s.extract 0 2) (bl [60, 62]) || seq (s.extract 0 2) (bl [60, 61])) || seq (s.extract 0 2) (bl [62, 61]))) = false from ht22]; simp), sgn_head h0, if_neg (by rw [one_end (by omega) hr]; simp)])
end Go.Proofs.YtjjgckmdfblmgaaDoor
