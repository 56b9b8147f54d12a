/- Columns and the types of expressions: contracts. No condition. -/
import Derived.Test.YtjlojkchgfeenaaXB
import Derived.Test.YtjlojkchgfeenaaXG2
set_option maxRecDepth 20000
namespace Go.Proofs.Ytjlojkchgfeenaa
open Go Go.Vc
theorem c3_get {cols : List C3} {i : Nat} (h : i < cols.length) : cols[i]? = some (cols.getD i c3D) := by simp [h]
def skipF (t n : ByteArray) (c : C3) : Bool := (!seq c.n n) || ((!seq t ⟨#[]⟩) && (!seq c.t t))
def fgoF (t n : ByteArray) : List C3 → Int → Int → Int × Int
  | [], _, at_ => if decide (at_ < 0) then (0, 32) else (at_, 0)
  | c :: cs, i, at_ => if skipF t n c then fgoF t n cs (i + 1) at_ else if decide (0 ≤ at_) then (0, 32) else fgoF t n cs (i + 1) i
def findCF (t n : ByteArray) (cols : List C3) : Int × Int := fgoF t n cols 0 (-1)
theorem fgo_drop (t n : ByteArray) (cols : List C3) (i : Nat) (at_ : Int) (h : i < cols.length) : fgoF t n (cols.drop i) i at_ = if skipF t n (cols.getD i c3D) then fgoF t n (cols.drop (i + 1)) ((i + 1 : Nat) : Int) at_ else if decide (0 ≤ at_) then (0, 32) else fgoF t n (cols.drop (i + 1)) ((i + 1 : Nat) : Int) i := by
  rw [List.drop_eq_getElem_cons h, fgoF]
  simp [h]
theorem fgo_end (t n : ByteArray) (cols : List C3) (i : Nat) (at_ : Int) (h : cols.length ≤ i) : fgoF t n (cols.drop i) i at_ = if decide (at_ < 0) then (0, 32) else (at_, 0) := by
  rw [List.drop_of_length_le h, fgoF]
def kidsB (k : Int) : Int := if (k == 1 || k == 2) then 0 else if (k == 3 || (k == 4 || (k == 18 || k == 19))) then 1 else if decide (5 ≤ k) && decide (k ≤ 17) then 2 else -1
def aggF (k : Int) : Bool := decide (20 ≤ k) && decide (k ≤ 23)
theorem c_bind_Find (t n : ByteArray) (cols : List C3) (hl : cols.length ≤ 9223372036854775806) : CallTy Try.prog f_bind_Find [.is (.string t), .is (.string n), .rep (SlG C3.cells 3 cols)] (.tup2 (.is (.int .i64 (findCF t n cols).1)) (.is (.int .i64 (findCF t n cols).2))) :=
  CallTy.of (fn := Try.f18) Try.func18 (n := 39) rfl rfl rfl (fun _ _ => by kernel_rfl) fun E W => by
  refine J.openSl (s := 2) rfl (fun a len cap b o hlen ha => ?_)
  subst hlen
  repeat refine J.seq ?_
  refine J.plain ?_
  refine JO.t (ob_assign rfl) rfl ?_
  refine JO.t (ob_assign rfl) rfl ?_
  refine JO.nil ?_
  repeat (first | refine JX.next ?_ | refine JX.normal_block ?_)
  refine J.sel [0, 1, 2] (.cons rfl (.cons rfl (.cons rfl .nil))) ?_
  repeat refine J.seq ?_
  refine J.plain ?_
  refine JO.t (ob_assign rfl) rfl ?_
  refine JO.nil ?_
  repeat (first | refine JX.next ?_ | refine JX.normal_block ?_)
  refine J.sel [0, 1, 2, 8] (.cons rfl (.cons rfl (.cons rfl (.cons rfl .nil)))) ?_
  repeat refine J.seq ?_
  refine J.plain ?_
  refine JO.t (ob_move rfl) rfl ?_
  refine JO.t (ob_len un_sl_bind_Col rfl) rfl ?_
  refine JO.t (ob_move rfl) rfl ?_
  refine JO.nil ?_
  repeat (first | refine JX.next ?_ | refine JX.normal_block ?_)
  refine J.sel [0, 1, 8, 11, 12, 13] (.cons rfl (.cons rfl (.cons rfl (.cons rfl (.cons rfl (.cons rfl .nil)))))) ?_
  repeat refine J.seq ?_
  refine J.block ?_
  repeat refine J.seq ?_
  refine J.loopF (α := Nat × Int) (fun s => [(0, .is (.string t)), (1, .is (.string n)), (8, .is (.int .i64 s.2)), (11, .is (.slice a cols.length cap)), (12, .is (.int .i64 cols.length)), (13, .is (.int .i64 (s.1 : Nat)))]) (fun s => s.1 ≤ cols.length ∧ fgoF t n (cols.drop s.1) s.1 s.2 = findCF t n cols) (fun s => cols.length - s.1) (0, -1) [0, 1, 8, 11, 12, 13] (.cons rfl (.cons rfl (.cons rfl (.cons rfl (.cons rfl (.cons rfl .nil)))))) ⟨by omega, rfl⟩ fun ⟨i, at_⟩ ⟨hi, hgo⟩ => ?_
  repeat refine J.seq ?_
  refine J.plain ?_
  refine JO.t (ob_lss rfl rfl) rfl ?_
  refine JO.nil ?_
  repeat (first | refine JX.next ?_ | refine JX.normal_block ?_)
  refine J.sel [0, 1, 8, 11, 12, 13, 14] (.cons rfl (.cons rfl (.cons rfl (.cons rfl (.cons rfl (.cons rfl (.cons rfl .nil))))))) ?_
  repeat refine J.seq ?_
  refine J.cond rfl (fun ht14 => ?_) (fun ht14 => ?_)
  ·
    try simp only [decide_eq_true_eq, decide_eq_false_iff_not] at ht14
    refine J.skip ?_
    repeat (first | refine JX.next ?_ | refine JX.normal_block ?_)
    repeat refine J.seq ?_
    refine J.block ?_
    repeat refine J.seq ?_
    refine J.plain ?_
    refine JO.t (ob_move rfl) rfl ?_
    refine JO.t (ob_indexAddr el_sl_bind_Col rfl (ha (by omega)) rfl (by omega) (by omega)) rfl ?_
    refine JO.t (ob_loadG (i := i) (y := cols.getD i c3D) (cs := C3.cells (cols.getD i c3D)) sz_bind_Col rfl List.mem_cons_self (ha (by omega)) (c3_get (by omega)) (by omega) rfl) rfl ?_
    refine JO.alloc zo_bind_Col rfl fun b10 => ?_
    refine JO.t (ob_assign rfl) rfl ?_
    refine JO.m (obm_store rfl rfl (by repeat (first | exact .here | apply Upd.there)) (by first | exact cnt_is rfl rfl | exact cnt_ex) (by first | exact cnt_is rfl rfl | exact cnt_ex | exact cnt_aggO) ss_bind_Col) (by rfl) ?_
    refine JO.nil ?_
    repeat (first | refine JX.next ?_ | refine JX.normal_block ?_)
    refine J.sel [0, 1, 8, 9, 10, 11, 12, 13] (.cons rfl (.cons rfl (.cons rfl (.cons rfl (.cons rfl (.cons rfl (.cons rfl (.cons rfl .nil)))))))) ?_
    repeat refine J.seq ?_
    refine J.reg0 hmx (by kernel_rfl) (by kernel_rfl) ?_
    refine RT.t (ob_fieldAddr fo_bind_Col_1 rfl) ?_
    refine RT.t (ob_ld1 sz_string rfl rfl) ?_
    refine RT.t (ob_move rfl) ?_
    refine RT.t (ob_sneq rfl rfl) ?_
    refine RT.t (ob_move rfl) ?_
    refine RT.g rfl rfl rfl (fun hg => ob_move (.inl rfl)) ?_
    refine RT.g rfl rfl rfl (fun hg => ob_sneq (.inr ⟨_, rfl, fun h => h⟩) (.inl rfl)) ?_
    refine RT.g rfl rfl rfl (fun hg => ob_move (.inr ⟨_, rfl, fun h => h⟩)) ?_
    refine RT.gg rfl rfl rfl (fun hg => (ob_fieldAddr fo_bind_Col_0 (.inl rfl))) ?_
    refine RT.gg rfl rfl rfl (fun hg => (ob_ld1 sz_string (.inr ⟨_, rfl, fun h => h⟩) rfl)) ?_
    refine RT.gg rfl rfl rfl (fun hg => (ob_move (.inl rfl))) ?_
    refine RT.gg rfl rfl rfl (fun hg => (ob_sneq (.inr ⟨_, rfl, fun h => h⟩) (.inr ⟨_, rfl, fun h => h⟩))) ?_
    refine RT.g rfl rfl rfl (fun hg => ob_pickAnd (.inr ⟨_, rfl, fun h => h⟩) (.inl rfl) (.inl rfl) (fun h => ⟨hg, h⟩)) ?_
    refine RT.t (ob_pickOr rfl rfl rfl id) ?_
    refine RT.nil ?_
    refine FinS.nil0 ?_
    repeat (first | refine JX.next ?_ | refine JX.normal_block ?_)
    refine J.sel [0, 1, 8, 9, 11, 12, 13, 31] (.cons rfl (.cons rfl (.cons rfl (.cons rfl (.cons rfl (.cons rfl (.cons rfl (.cons rfl .nil)))))))) ?_
    repeat refine J.seq ?_
    refine J.cond rfl (fun ht31 => ?_) (fun ht31 => ?_)
    ·
      try simp only [decide_eq_true_eq, decide_eq_false_iff_not] at ht31
      repeat refine J.seq ?_
      refine J.exit ?_
      repeat (first | refine JX.hit ?_ | refine JX.miss rfl ?_ | refine JX.exit_pass ?_)
      repeat (first | refine JX.next ?_ | refine JX.normal_block ?_)
      repeat refine J.seq ?_
      refine J.plain ?_
      refine JO.t (ob_addc (cc := ((i + 1 : Nat) : Int)) rfl rfl (by omega) (by omega) (by omega)) rfl ?_
      refine JO.t (ob_move rfl) rfl ?_
      refine JO.nil ?_
      refine JX.roundS (i + 1, at_) ?_ ?_ [0, 1, 8, 11, 12, 13] ?_ ?_ ?_
      · exact ⟨by omega, by rw [← hgo, fgo_drop t n cols i at_ (by omega), if_pos (by first | exact ht31 | (simpa [skipF] using ht31))]⟩
      · exact (by omega)
      · exact (.cons rfl (.cons rfl (.cons rfl (.cons rfl (.cons rfl (.cons rfl .nil))))))
      · repeat (first | exact .slnil | apply List.Sublist.cons_cons | apply List.Sublist.cons)
      · repeat (first | exact .slnil | apply List.Sublist.cons_cons | apply List.Sublist.cons)
    ·
      try simp only [decide_eq_true_eq, decide_eq_false_iff_not] at ht31
      refine J.skip ?_
      repeat (first | refine JX.next ?_ | refine JX.normal_block ?_)
      repeat refine J.seq ?_
      refine J.plain ?_
      refine JO.t (ob_move rfl) rfl ?_
      refine JO.t (ob_geq rfl rfl) rfl ?_
      refine JO.nil ?_
      repeat (first | refine JX.next ?_ | refine JX.normal_block ?_)
      refine J.sel [0, 1, 9, 11, 12, 13, 33] (.cons rfl (.cons rfl (.cons rfl (.cons rfl (.cons rfl (.cons rfl (.cons rfl .nil))))))) ?_
      repeat refine J.seq ?_
      refine J.cond rfl (fun ht33 => ?_) (fun ht33 => ?_)
      ·
        try simp only [decide_eq_true_eq, decide_eq_false_iff_not] at ht33
        repeat refine J.seq ?_
        refine J.plain ?_
        refine JO.t (ob_assign rfl) rfl ?_
        refine JO.t (ob_assign rfl) rfl ?_
        refine JO.nil ?_
        repeat (first | refine JX.next ?_ | refine JX.normal_block ?_)
        refine J.sel [6, 7] (.cons rfl (.cons rfl .nil)) ?_
        repeat refine J.seq ?_
        refine J.ret ?_
        repeat (first | refine JX.ret_pass ?_ | refine JX.ret_block ?_)
        exact JX.ret2is rfl rfl rfl (by rw [← hgo, fgo_drop t n cols i at_ (by omega), if_neg (by simpa [skipF] using ht31), if_pos (by simpa using ht33)]) (by rw [← hgo, fgo_drop t n cols i at_ (by omega), if_neg (by simpa [skipF] using ht31), if_pos (by simpa using ht33)])
      ·
        try simp only [decide_eq_true_eq, decide_eq_false_iff_not] at ht33
        refine J.skip ?_
        repeat (first | refine JX.next ?_ | refine JX.normal_block ?_)
        repeat refine J.seq ?_
        refine J.plain ?_
        refine JO.t (ob_move rfl) rfl ?_
        refine JO.t (ob_assign rfl) rfl ?_
        refine JO.nil ?_
        repeat (first | refine JX.next ?_ | refine JX.normal_block ?_)
        refine J.sel [0, 1, 8, 11, 12, 13] (.cons rfl (.cons rfl (.cons rfl (.cons rfl (.cons rfl (.cons rfl .nil)))))) ?_
        repeat refine J.seq ?_
        refine J.plain ?_
        refine JO.t (ob_addc (cc := ((i + 1 : Nat) : Int)) rfl rfl (by omega) (by omega) (by omega)) rfl ?_
        refine JO.t (ob_move rfl) rfl ?_
        refine JO.nil ?_
        refine JX.roundS (i + 1, (i : Int)) ?_ ?_ [0, 1, 8, 11, 12, 13] ?_ ?_ ?_
        · exact ⟨by omega, by rw [← hgo, fgo_drop t n cols i at_ (by omega), if_neg (by simpa [skipF] using ht31), if_neg (by simpa using ht33)]⟩
        · exact (by omega)
        · exact (.cons rfl (.cons rfl (.cons rfl (.cons rfl (.cons rfl (.cons rfl .nil))))))
        · repeat (first | exact .slnil | apply List.Sublist.cons_cons | apply List.Sublist.cons)
        · repeat (first | exact .slnil | apply List.Sublist.cons_cons | apply List.Sublist.cons)
  ·
    try simp only [decide_eq_true_eq, decide_eq_false_iff_not] at ht14
    repeat refine J.seq ?_
    refine J.exit ?_
    repeat (first | refine JX.hit ?_ | refine JX.miss rfl ?_ | refine JX.exit_pass ?_)
    repeat (first | refine JX.next ?_ | refine JX.normal_block ?_)
    repeat refine J.seq ?_
    refine J.plain ?_
    refine JO.t (ob_move rfl) rfl ?_
    refine JO.t (ob_lss rfl rfl) rfl ?_
    refine JO.nil ?_
    repeat (first | refine JX.next ?_ | refine JX.normal_block ?_)
    refine J.sel [8, 37] (.cons rfl (.cons rfl .nil)) ?_
    repeat refine J.seq ?_
    refine J.cond rfl (fun ht37 => ?_) (fun ht37 => ?_)
    ·
      try simp only [decide_eq_true_eq, decide_eq_false_iff_not] at ht37
      repeat refine J.seq ?_
      refine J.plain ?_
      refine JO.t (ob_assign rfl) rfl ?_
      refine JO.t (ob_assign rfl) rfl ?_
      refine JO.nil ?_
      repeat (first | refine JX.next ?_ | refine JX.normal_block ?_)
      refine J.sel [6, 7] (.cons rfl (.cons rfl .nil)) ?_
      repeat refine J.seq ?_
      refine J.ret ?_
      repeat (first | refine JX.ret_pass ?_ | refine JX.ret_block ?_)
      exact JX.ret2is rfl rfl rfl (by rw [← hgo, fgo_end t n cols i at_ (by omega), if_pos (by simpa using ht37)]) (by rw [← hgo, fgo_end t n cols i at_ (by omega), if_pos (by simpa using ht37)])
    ·
      try simp only [decide_eq_true_eq, decide_eq_false_iff_not] at ht37
      refine J.skip ?_
      repeat (first | refine JX.next ?_ | refine JX.normal_block ?_)
      repeat refine J.seq ?_
      refine J.plain ?_
      refine JO.t (ob_move rfl) rfl ?_
      refine JO.t (ob_assign rfl) rfl ?_
      refine JO.t (ob_assign rfl) rfl ?_
      refine JO.nil ?_
      repeat (first | refine JX.next ?_ | refine JX.normal_block ?_)
      refine J.sel [6, 7] (.cons rfl (.cons rfl .nil)) ?_
      repeat refine J.seq ?_
      refine J.ret ?_
      repeat (first | refine JX.ret_pass ?_ | refine JX.ret_block ?_)
      exact JX.ret2is rfl rfl rfl (by rw [← hgo, fgo_end t n cols i at_ (by omega), if_neg (by simpa using ht37)]) (by rw [← hgo, fgo_end t n cols i at_ (by omega), if_neg (by simpa using ht37)])
theorem c_bind_kids (k : Int) : CallTy Try.prog f_bind_kids [.is (.int .i64 k)] (.is (.int .i64 (kidsB k))) :=
  CallTy.of (fn := Try.f34) Try.func34 (n := 24) rfl rfl rfl (fun _ _ => by kernel_rfl) fun E W => by
  repeat refine J.seq ?_
  refine J.plain ?_
  refine JO.t (ob_assign rfl) rfl ?_
  refine JO.nil ?_
  repeat (first | refine JX.next ?_ | refine JX.normal_block ?_)
  refine J.sel [0] (.cons rfl .nil) ?_
  repeat refine J.seq ?_
  refine J.block ?_
  repeat refine J.seq ?_
  refine J.plain ?_
  refine JO.t (ob_move rfl) rfl ?_
  refine JO.t (ob_eql rfl rfl) rfl ?_
  refine JO.t (ob_assign rfl) rfl ?_
  refine JO.nil ?_
  repeat (first | refine JX.next ?_ | refine JX.normal_block ?_)
  refine J.sel [0, 3] (.cons rfl (.cons rfl .nil)) ?_
  first | apply J.or [0] rfl (.cons rfl .nil) | apply J.orN [0] rfl (.cons rfl .nil)
  · intro ht3
    repeat refine J.seq ?_
    refine J.plain ?_
    refine JO.t (ob_move rfl) rfl ?_
    refine JO.t (ob_eql rfl rfl) rfl ?_
    refine JO.t (ob_assign rfl) rfl ?_
    refine JO.nil ?_
    exact JX.mids [3, 0] (.cons rfl (.cons rfl .nil))
  repeat refine J.seq ?_
  refine J.cond rfl (fun ht3 => ?_) (fun ht3 => ?_)
  ·
    try simp only [decide_eq_true_eq, decide_eq_false_iff_not] at ht3
    repeat refine J.seq ?_
    refine J.plain ?_
    refine JO.t (ob_assign rfl) rfl ?_
    refine JO.nil ?_
    repeat (first | refine JX.next ?_ | refine JX.normal_block ?_)
    refine J.sel [2] (.cons rfl .nil) ?_
    repeat refine J.seq ?_
    refine J.ret ?_
    repeat (first | refine JX.ret_pass ?_ | refine JX.ret_block ?_)
    exact JX.ret1is rfl rfl (by first | (simp +decide only [kidsB, *, ↓reduceIte] <;> rfl) | (simp_all [kidsB]; done) | (simp only [kidsB, *, ↓reduceIte, Bool.false_eq_true]; done) | (simp_all [kidsB]; done) | (simp [kidsB, *]; done))
  ·
    try simp only [decide_eq_true_eq, decide_eq_false_iff_not] at ht3
    repeat refine J.seq ?_
    refine J.plain ?_
    refine JO.t (ob_move rfl) rfl ?_
    refine JO.t (ob_eql rfl rfl) rfl ?_
    refine JO.t (ob_assign rfl) rfl ?_
    refine JO.nil ?_
    repeat (first | refine JX.next ?_ | refine JX.normal_block ?_)
    refine J.sel [0, 8] (.cons rfl (.cons rfl .nil)) ?_
    first | apply J.or [0] rfl (.cons rfl .nil) | apply J.orN [0] rfl (.cons rfl .nil)
    · intro ht8
      repeat refine J.seq ?_
      refine J.plain ?_
      refine JO.t (ob_move rfl) rfl ?_
      refine JO.t (ob_eql rfl rfl) rfl ?_
      refine JO.t (ob_assign rfl) rfl ?_
      refine JO.nil ?_
      refine JX.next ?_
      apply J.orT [0] rfl (.cons rfl .nil)
      · intro ht8
        repeat refine J.seq ?_
        refine J.plain ?_
        refine JO.t (ob_move rfl) rfl ?_
        refine JO.t (ob_eql rfl rfl) rfl ?_
        refine JO.t (ob_assign rfl) rfl ?_
        refine JO.nil ?_
        refine JX.next ?_
        apply J.orT [0] rfl (.cons rfl .nil)
        · intro ht8
          repeat refine J.seq ?_
          refine J.plain ?_
          refine JO.t (ob_move rfl) rfl ?_
          refine JO.t (ob_eql rfl rfl) rfl ?_
          refine JO.t (ob_assign rfl) rfl ?_
          refine JO.nil ?_
          exact JX.mids [8, 0] (.cons rfl (.cons rfl .nil))
    repeat refine J.seq ?_
    refine J.cond rfl (fun ht8 => ?_) (fun ht8 => ?_)
    ·
      try simp only [decide_eq_true_eq, decide_eq_false_iff_not] at ht8
      repeat refine J.seq ?_
      refine J.plain ?_
      refine JO.t (ob_assign rfl) rfl ?_
      refine JO.nil ?_
      repeat (first | refine JX.next ?_ | refine JX.normal_block ?_)
      refine J.sel [2] (.cons rfl .nil) ?_
      repeat refine J.seq ?_
      refine J.ret ?_
      repeat (first | refine JX.ret_pass ?_ | refine JX.ret_block ?_)
      exact JX.ret1is rfl rfl (by first | (simp +decide only [kidsB, *, ↓reduceIte] <;> rfl) | (simp_all [kidsB]; done) | (simp only [kidsB, *, ↓reduceIte, Bool.false_eq_true]; done) | (simp_all [kidsB]; done) | (simp [kidsB, *]; done))
    ·
      try simp only [decide_eq_true_eq, decide_eq_false_iff_not] at ht8
      repeat refine J.seq ?_
      refine J.reg0 hmx (by kernel_rfl) (by kernel_rfl) ?_
      refine RT.t (ob_move rfl) ?_
      refine RT.t (ob_geq rfl rfl) ?_
      refine RT.t (ob_move rfl) ?_
      refine RT.g rfl rfl rfl (fun hg => ob_move (.inl rfl)) ?_
      refine RT.g rfl rfl rfl (fun hg => ob_leq (.inr ⟨_, rfl, fun h => h⟩) (.inl rfl)) ?_
      refine RT.t (ob_pickAnd rfl rfl rfl id) ?_
      refine RT.t (ob_assign rfl) ?_
      refine RT.nil ?_
      refine FinS.nil0 ?_
      repeat (first | refine JX.next ?_ | refine JX.normal_block ?_)
      refine J.sel [17] (.cons rfl .nil) ?_
      repeat refine J.seq ?_
      refine J.cond rfl (fun ht17 => ?_) (fun ht17 => ?_)
      ·
        try simp only [decide_eq_true_eq, decide_eq_false_iff_not] at ht17
        repeat refine J.seq ?_
        refine J.plain ?_
        refine JO.t (ob_assign rfl) rfl ?_
        refine JO.nil ?_
        repeat (first | refine JX.next ?_ | refine JX.normal_block ?_)
        refine J.sel [2] (.cons rfl .nil) ?_
        repeat refine J.seq ?_
        refine J.ret ?_
        repeat (first | refine JX.ret_pass ?_ | refine JX.ret_block ?_)
        exact JX.ret1is rfl rfl (by first | (simp +decide only [kidsB, *, ↓reduceIte] <;> rfl) | (simp_all [kidsB]; done) | (simp only [kidsB, *, ↓reduceIte, Bool.false_eq_true]; done) | (simp_all [kidsB]; done) | (simp [kidsB, *]; done))
      ·
        try simp only [decide_eq_true_eq, decide_eq_false_iff_not] at ht17
        refine J.skip ?_
        repeat (first | refine JX.next ?_ | refine JX.normal_block ?_)
        repeat refine J.seq ?_
        refine J.plain ?_
        refine JO.t (ob_assign rfl) rfl ?_
        refine JO.nil ?_
        repeat (first | refine JX.next ?_ | refine JX.normal_block ?_)
        refine J.sel [2] (.cons rfl .nil) ?_
        repeat refine J.seq ?_
        refine J.ret ?_
        repeat (first | refine JX.ret_pass ?_ | refine JX.ret_block ?_)
        exact JX.ret1is rfl rfl (by first | (simp +decide only [kidsB, *, ↓reduceIte] <;> rfl) | (simp_all [kidsB]; done) | (simp only [kidsB, *, ↓reduceIte, Bool.false_eq_true]; done) | (simp_all [kidsB]; done) | (simp [kidsB, *]; done))
theorem c_bind_aggregate (k : Int) : CallTy Try.prog f_bind_aggregate [.is (.int .i64 k)] (.is (.bool (aggF k))) :=
  CallTy.of (fn := Try.f33) Try.func33 (n := 9) rfl rfl rfl (fun _ _ => by kernel_rfl) fun E W => by
  repeat refine J.seq ?_
  refine J.plain ?_
  refine JO.t (ob_assign rfl) rfl ?_
  refine JO.nil ?_
  repeat (first | refine JX.next ?_ | refine JX.normal_block ?_)
  refine J.sel [0] (.cons rfl .nil) ?_
  repeat refine J.seq ?_
  refine J.reg0 hmx (by kernel_rfl) (by kernel_rfl) ?_
  refine RT.t (ob_move rfl) ?_
  refine RT.t (ob_geq rfl rfl) ?_
  refine RT.t (ob_move rfl) ?_
  refine RT.g rfl rfl rfl (fun hg => ob_move (.inl rfl)) ?_
  refine RT.g rfl rfl rfl (fun hg => ob_leq (.inr ⟨_, rfl, fun h => h⟩) (.inl rfl)) ?_
  refine RT.t (ob_pickAnd rfl rfl rfl id) ?_
  refine RT.t (ob_assign rfl) ?_
  refine RT.nil ?_
  refine FinS.nil0 ?_
  repeat (first | refine JX.next ?_ | refine JX.normal_block ?_)
  refine J.sel [2] (.cons rfl .nil) ?_
  repeat refine J.seq ?_
  refine J.ret ?_
  repeat (first | refine JX.ret_pass ?_ | refine JX.ret_block ?_)
  exact JX.ret1is rfl rfl (by first | (simp +decide only [aggF, *, ↓reduceIte] <;> rfl) | (simp_all [aggF]; done) | (simp only [aggF, *, ↓reduceIte, Bool.false_eq_true]; done) | (simp_all [aggF]; done) | (simp [aggF, *]; done))
end Go.Proofs.Ytjlojkchgfeenaa
