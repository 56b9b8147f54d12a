/- Functions that look through a list of numbers; the types of expressions. No condition. -/
import Derived.Test.YtjlojkchgfeenaaXQ
import Derived.Test.YtjlojkchgfeenaaXG2
set_option maxRecDepth 20000
namespace Go.Proofs.Ytjlojkchgfeenaa
open Go Go.Vc
def encI (n : Int) : List Value := [.int .i64 n]
theorem encI_len (n : Int) : (encI n).length = 1 := rfl
theorem int_get {xs : List Int} {i : Nat} (h : i < xs.length) : xs[i]? = some (xs.getD i 0) := by simp [h]
def idxF (p : Int → Bool) : List Int → Int → Int
  | [], _ => -1
  | x :: xs, i => if p x then i else idxF p xs (i + 1)
theorem idx_drop (p : Int → Bool) (xs : List Int) (i : Nat) (h : i < xs.length) : idxF p (xs.drop i) i = if p (xs.getD i 0) then (i : Int) else idxF p (xs.drop (i + 1)) ((i + 1 : Nat) : Int) := by
  rw [List.drop_eq_getElem_cons h, idxF]
  simp [h]
theorem idx_any (p : Int → Bool) : ∀ (xs : List Int) (i : Nat), decide (0 ≤ idxF p xs i) = xs.any p
  | [], i => rfl
  | x :: xs, i => by
    rw [idxF, List.any_cons]
    cases h : p x
    · have := idx_any p xs (i + 1)
      simpa using this
    · simp
abbrev FI (p : Int → Bool) : Prop := True
abbrev AI : Int → Ty := fun k => .is (.int .i64 k)
abbrev RB (p : Int → Bool) : Int → Ty := fun k => .is (.bool (p k))
theorem c_slices_IndexFunc_sl_int_int (xs : List Int) (hl : xs.length ≤ 9223372036854775806) (p : Int → Bool) (fv : Value) (G : World → Prop) (hf : Fn1 Try.prog fv G AI (RB p)) : CallTy Try.prog f_slices_IndexFunc_sl_int_int [.rep (SlG encI 1 xs), .rep (FunR fv G)] (.is (.int .i64 (idxF p xs 0))) :=
  CallTy.of (fn := Try.f73) Try.func73 (n := 19) rfl rfl rfl (fun _ _ => by kernel_rfl) fun E W => by
  refine J.openSl (s := 0) rfl (fun a len cap b o hlen ha => ?_)
  refine J.openFun (s := 1) rfl ?_
  subst hlen
  repeat refine J.seq ?_
  refine J.plain ?_
  refine JO.t (ob_assign rfl) rfl ?_
  refine JO.nil ?_
  repeat (first | refine JX.next ?_ | refine JX.normal_block ?_)
  refine J.sel [0, 1] (.cons rfl (.cons rfl .nil)) ?_
  repeat refine J.seq ?_
  refine J.plain ?_
  refine JO.t (ob_move rfl) rfl ?_
  refine JO.t (ob_len un_sl_int rfl) rfl ?_
  refine JO.t (ob_move rfl) rfl ?_
  refine JO.nil ?_
  repeat (first | refine JX.next ?_ | refine JX.normal_block ?_)
  refine J.sel [0, 1, 7, 8] (.cons rfl (.cons rfl (.cons rfl (.cons rfl .nil)))) ?_
  repeat refine J.seq ?_
  refine J.block ?_
  repeat refine J.seq ?_
  refine J.loopF (α := Nat) (fun s => [(0, .is (.slice a xs.length cap)), (1, .is fv), (7, .is (.int .i64 xs.length)), (8, .is (.int .i64 (s : Nat)))]) (fun s => s ≤ xs.length ∧ idxF p (xs.drop s) s = idxF p xs 0) (fun s => xs.length - s) 0 [0, 1, 7, 8] (.cons rfl (.cons rfl (.cons rfl (.cons rfl .nil)))) ⟨by omega, rfl⟩ fun i ⟨hi, hgo⟩ => ?_
  repeat refine J.seq ?_
  refine J.plain ?_
  refine JO.t (ob_lss rfl rfl) rfl ?_
  refine JO.nil ?_
  repeat (first | refine JX.next ?_ | refine JX.normal_block ?_)
  refine J.sel [0, 1, 7, 8, 9] (.cons rfl (.cons rfl (.cons rfl (.cons rfl (.cons rfl .nil))))) ?_
  repeat refine J.seq ?_
  refine J.cond rfl (fun ht9 => ?_) (fun ht9 => ?_)
  ·
    try simp only [decide_eq_true_eq, decide_eq_false_iff_not] at ht9
    refine J.skip ?_
    repeat (first | refine JX.next ?_ | refine JX.normal_block ?_)
    repeat refine J.seq ?_
    refine J.block ?_
    repeat refine J.seq ?_
    refine J.plain ?_
    refine JO.t (ob_move rfl) rfl ?_
    refine JO.t (ob_assign rfl) rfl ?_
    refine JO.nil ?_
    repeat (first | refine JX.next ?_ | refine JX.normal_block ?_)
    refine J.sel [0, 1, 5, 7, 8] (.cons rfl (.cons rfl (.cons rfl (.cons rfl (.cons rfl .nil))))) ?_
    repeat refine J.seq ?_
    refine J.plain ?_
    refine JO.t (ob_move rfl) rfl ?_
    refine JO.t (ob_move rfl) rfl ?_
    refine JO.t (ob_move rfl) rfl ?_
    refine JO.t (ob_indexAddr el_sl_int rfl (ha (by omega)) rfl (by omega) (by omega)) rfl ?_
    refine JO.t (ob_loadG1 (i := i) (j := 0) (y := xs.getD i 0) sz_int rfl (List.mem_cons_of_mem _ List.mem_cons_self) (ha (by omega)) (int_get (by omega)) (by omega) rfl) rfl ?_
    refine JO.t (ob_callG (xs.getD i 0) rfl hf List.mem_cons_self rfl) rfl ?_
    refine JO.nil ?_
    repeat (first | refine JX.next ?_ | refine JX.normal_block ?_)
    refine J.sel [0, 1, 5, 7, 8, 16] (.cons rfl (.cons rfl (.cons rfl (.cons rfl (.cons rfl (.cons rfl .nil)))))) ?_
    repeat refine J.seq ?_
    refine J.cond rfl (fun ht16 => ?_) (fun ht16 => ?_)
    ·
      try simp only [decide_eq_true_eq, decide_eq_false_iff_not] at ht16
      repeat refine J.seq ?_
      refine J.plain ?_
      refine JO.t (ob_move rfl) rfl ?_
      refine JO.t (ob_assign rfl) rfl ?_
      refine JO.nil ?_
      repeat (first | refine JX.next ?_ | refine JX.normal_block ?_)
      refine J.sel [4] (.cons rfl .nil) ?_
      repeat refine J.seq ?_
      refine J.ret ?_
      repeat (first | refine JX.ret_pass ?_ | refine JX.ret_block ?_)
      exact JX.ret1is rfl rfl (by rw [← hgo, idx_drop p xs i (by omega), if_pos (by simpa using ht16)])
    ·
      try simp only [decide_eq_true_eq, decide_eq_false_iff_not] at ht16
      refine J.skip ?_
      repeat (first | refine JX.next ?_ | refine JX.normal_block ?_)
      repeat refine J.seq ?_
      refine J.plain ?_
      refine JO.t (ob_addc (cc := ((i + 1 : Nat) : Int)) rfl rfl (by omega) (by omega) (by omega)) rfl ?_
      refine JO.t (ob_move rfl) rfl ?_
      refine JO.nil ?_
      refine JX.roundS (i + 1) ?_ ?_ [0, 1, 7, 8] ?_ ?_ ?_
      · exact ⟨by omega, by rw [← hgo, idx_drop p xs i (by omega), if_neg (by simpa using ht16)]⟩
      · exact (by omega)
      · exact (.cons rfl (.cons rfl (.cons rfl (.cons rfl .nil))))
      · repeat (first | exact .slnil | apply List.Sublist.cons_cons | apply List.Sublist.cons)
      · repeat (first | exact .slnil | apply List.Sublist.cons_cons | apply List.Sublist.cons)
  ·
    try simp only [decide_eq_true_eq, decide_eq_false_iff_not] at ht9
    repeat refine J.seq ?_
    refine J.exit ?_
    repeat (first | refine JX.hit ?_ | refine JX.miss rfl ?_ | refine JX.exit_pass ?_)
    repeat (first | refine JX.next ?_ | refine JX.normal_block ?_)
    repeat refine J.seq ?_
    refine J.plain ?_
    refine JO.t (ob_assign rfl) rfl ?_
    refine JO.nil ?_
    repeat (first | refine JX.next ?_ | refine JX.normal_block ?_)
    refine J.sel [4] (.cons rfl .nil) ?_
    repeat refine J.seq ?_
    refine J.ret ?_
    repeat (first | refine JX.ret_pass ?_ | refine JX.ret_block ?_)
    exact JX.ret1is rfl rfl (by rw [← hgo, List.drop_of_length_le (by omega)]; rfl)
theorem c_slices_ContainsFunc_sl_int_int (xs : List Int) (hl : xs.length ≤ 9223372036854775806) (p : Int → Bool) (fv : Value) (G : World → Prop) (hf : Fn1 Try.prog fv G AI (RB p)) : CallTy Try.prog f_slices_ContainsFunc_sl_int_int [.rep (SlG encI 1 xs), .rep (FunR fv G)] (.is (.bool (xs.any p))) :=
  CallTy.of (fn := Try.f55) Try.func55 (n := 9) rfl rfl rfl (fun _ _ => by kernel_rfl) fun E W => by
  repeat refine J.seq ?_
  refine J.plain ?_
  refine JO.t (ob_assign rfl) rfl ?_
  refine JO.nil ?_
  repeat (first | refine JX.next ?_ | refine JX.normal_block ?_)
  refine J.sel [0, 1] (.cons rfl (.cons rfl .nil)) ?_
  repeat refine J.seq ?_
  refine J.plain ?_
  refine JO.t (ob_move rfl) rfl ?_
  refine JO.t (ob_move rfl) rfl ?_
  refine JO.t (ob_call rfl (c_slices_IndexFunc_sl_int_int xs hl p fv G hf) (.one rfl (.one rfl .nil))) rfl ?_
  refine JO.t (ob_geq rfl rfl) rfl ?_
  refine JO.t (ob_assign rfl) rfl ?_
  refine JO.nil ?_
  repeat (first | refine JX.next ?_ | refine JX.normal_block ?_)
  refine J.sel [4] (.cons rfl .nil) ?_
  repeat refine J.seq ?_
  refine J.ret ?_
  repeat (first | refine JX.ret_pass ?_ | refine JX.ret_block ?_)
  exact JX.ret1is rfl rfl (congrArg Value.bool (idx_any p xs 0))
theorem c_bind_typed_1_1 (t k : Int) : CallTy Try.prog f_bind_typed_1_1 [.is (.int .i64 k), .rep (PtrR [.int .i64 t] ty_int)] (.is (.bool ((k != t) && (k != 0)))) :=
  CallTy.of (fn := Try.f56) Try.func56 (n := 11) rfl rfl rfl (fun _ _ => by kernel_rfl) fun E W => by
  refine J.openPtr (s := 1) rfl (fun b1 => ?_)
  repeat refine J.seq ?_
  refine J.plain ?_
  refine JO.t (ob_assign rfl) rfl ?_
  refine JO.nil ?_
  repeat (first | refine JX.next ?_ | refine JX.normal_block ?_)
  refine J.sel [0, 1] (.cons rfl (.cons rfl .nil)) ?_
  repeat refine J.seq ?_
  refine J.reg0 hmx (by kernel_rfl) (by kernel_rfl) ?_
  refine RT.t (ob_move rfl) ?_
  refine RT.t (ob_ldF1 (b := b1) (off := 0) (cs := [.int .i64 t]) (e := ty_int) sz_int rfl List.mem_cons_self rfl) ?_
  refine RT.t (ob_neq rfl rfl) ?_
  refine RT.t (ob_move rfl) ?_
  refine RT.g rfl rfl rfl (fun hg => ob_move (.inl rfl)) ?_
  refine RT.g rfl rfl rfl (fun hg => ob_neq (.inr ⟨_, rfl, fun h => h⟩) (.inl rfl)) ?_
  refine RT.t (ob_pickAnd rfl rfl rfl id) ?_
  refine RT.t (ob_assign rfl) ?_
  refine RT.nil ?_
  refine FinS.nil0 ?_
  repeat (first | refine JX.next ?_ | refine JX.normal_block ?_)
  refine J.sel [3] (.cons rfl .nil) ?_
  repeat refine J.seq ?_
  refine J.ret ?_
  repeat (first | refine JX.ret_pass ?_ | refine JX.ret_block ?_)
  exact JX.ret1is rfl rfl (by rfl)
theorem fn_only (t : Int) (b : Nat) : Fn1 Try.prog (.func (.func f_bind_typed_1_1) ([] : List Value).toArray [.pointer (some ⟨b, 0, none⟩)].toArray) (HeapIs b [.int .i64 t] ty_int) AI (RB fun k => (k != t) && (k != 0)) :=
  Fn1.of (TF := []) (TC := [.rep (PtrR [.int .i64 t] ty_int)]) (fun k => c_bind_typed_1_1 t k) (fun _ _ _ => trivial) (fun E w h => ⟨fun w' hk => ⟨b, rfl, h w' hk⟩, trivial⟩) 0
def LstR (xs : List Int) (a : Option Addr) (cap : Nat) (b : Nat) (w : World) : Prop := HeapIs b [.slice a xs.length cap] ty_sl_int w ∧ RowG encI 1 xs a xs.length w
def LstP (xs : List Int) (a : Option Addr) (cap : Nat) (b : Nat) (v : Value) (w : World) : Prop := v = .pointer (some ⟨b, 0, none⟩) ∧ LstR xs a cap b w
def onlyF (xs : List Int) (t : Int) : Bool := !(xs.any fun k => (k != t) && (k != 0))
theorem J.openLst {P : Program} {c : Ctx} {K : List (Nat × Ty)} {L : List Own} {Φ : List (World → Prop)} {Q : Exit → Act → World → Prop} {x : Code} {s : Nat} {xs : List Int} {a : Option Addr} {cap b : Nat} (h : Vc.look K s = some (.rep (LstP xs a cap b)))
    (hj : J P c ((s, .is (.pointer (some ⟨b, 0, none⟩))) :: K) L (HeapIs b [.slice a xs.length cap] ty_sl_int :: RowG encI 1 xs a xs.length :: Φ) x Q) : J P c K L Φ x Q := by
  refine J.open_ h ?_
  rintro v ⟨w, rfl, hb⟩
  refine J.fact (RowG encI 1 xs a xs.length) (fun E w hG _ => fun w' hk => (hG _ List.mem_cons_self w' hk).2.2) ?_
  refine J.fact (HeapIs b [.slice a xs.length cap] ty_sl_int) (fun E w hG _ => fun w' hk => (hG _ (List.mem_cons_of_mem _ List.mem_cons_self) w' hk).2.1) ?_
  refine J.subΦ (fun F hF => ?_) hj
  rcases List.mem_cons.1 hF with rfl | hF
  · exact List.mem_cons_self
  · rcases List.mem_cons.1 hF with rfl | hF
    · exact List.mem_cons_of_mem _ List.mem_cons_self
    · exact List.mem_cons_of_mem _ (List.mem_cons_of_mem _ (List.mem_cons_of_mem _ hF))
theorem c_bind_typed_1 (t : Int) (xs : List Int) (hl : xs.length ≤ 9223372036854775806) (a : Option Addr) (cap b : Nat) : CallTy Try.prog f_bind_typed_1 [.is (.int .i64 t), .rep (LstP xs a cap b)] (.is (.bool (onlyF xs t))) :=
  CallTy.of (fn := Try.f54) Try.func54 (n := 8) rfl rfl rfl (fun _ _ => by kernel_rfl) fun E W => by
  refine J.openLst (s := 1) rfl ?_
  repeat refine J.seq ?_
  refine J.plain ?_
  refine JO.box rfl rfl fun b2 => ?_
  refine JO.t (ob_assign rfl) rfl ?_
  refine JO.nil ?_
  repeat (first | refine JX.next ?_ | refine JX.normal_block ?_)
  refine J.sel [1, 2] (.cons rfl (.cons rfl .nil)) ?_
  refine J.freeze1 (b := b2) rfl (fun _ h => h) rfl rfl ?_
  repeat refine J.seq ?_
  refine J.plain ?_
  refine JO.t (ob_ldF1 (b := b) (off := 0) (cs := [.slice a xs.length cap]) (e := ty_sl_int) sz_sl_int rfl (List.mem_cons_of_mem _ List.mem_cons_self) rfl) rfl ?_
  refine JO.t (ob_makeFunc .nil (.cons rfl .nil)) rfl ?_
  refine JO.t (ob_call rfl (c_slices_ContainsFunc_sl_int_int xs hl _ _ _ (fn_only t b2)) (.sub rfl (Sub.slFact (by simp)) (.sub rfl (Sub.fun List.mem_cons_self) .nil))) rfl ?_
  refine JO.t (ob_not rfl) rfl ?_
  refine JO.t (ob_assign rfl) rfl ?_
  refine JO.nil ?_
  repeat (first | refine JX.next ?_ | refine JX.normal_block ?_)
  refine J.sel [3] (.cons rfl .nil) ?_
  repeat refine J.seq ?_
  refine J.ret ?_
  repeat (first | refine JX.ret_pass ?_ | refine JX.ret_block ?_)
  exact JX.ret1is rfl rfl (by rfl)
theorem fn_types (xs : List Int) (hl : xs.length ≤ 9223372036854775806) (a : Option Addr) (cap b : Nat) : Fn1 Try.prog (.func (.func f_bind_typed_1) ([] : List Value).toArray [.pointer (some ⟨b, 0, none⟩)].toArray) (LstR xs a cap b) AI (RB (onlyF xs)) :=
  Fn1.of (TF := []) (TC := [.rep (LstP xs a cap b)]) (fun t => c_bind_typed_1 t xs hl a cap b) (fun _ _ _ => trivial) (fun E w h => ⟨fun w' hk => ⟨rfl, h w' hk⟩, trivial⟩) 0
def typedF (k : Int) (xs : List Int) : Int × Bool :=
  if (k == 3 || (decide (5 ≤ k) && decide (k ≤ 9))) then (1, onlyF xs 1) else if (k == 4 || (k == 16 || k == 17)) then (2, onlyF xs 2)
  else if (k == 18 || k == 19) then (2, true) else (2, onlyF xs (if xs.getD 1 0 > xs.getD 0 0 then xs.getD 1 0 else xs.getD 0 0))
theorem c_bind_typed (k : Int) (xs : List Int) (hl : xs.length ≤ 9223372036854775806) (hk : 10 ≤ k ∧ k ≤ 15 → 2 ≤ xs.length) (h2 : 3 ≤ k ∧ k ≤ 19) : CallTy Try.prog f_bind_typed [.is (.int .i64 k), .rep (SlG encI 1 xs)] (.tup2 (.is (.int .i64 (typedF k xs).1)) (.is (.bool (typedF k xs).2))) :=
  CallTy.of (fn := Try.f36) Try.func36 (n := 42) rfl rfl rfl (fun _ _ => by kernel_rfl) fun E W => by
  refine J.openSl (s := 1) rfl (fun a len cap b o hlen ha => ?_)
  subst hlen
  repeat refine J.seq ?_
  refine J.plain ?_
  refine JO.box rfl rfl fun b3 => ?_
  refine JO.t (ob_assign rfl) rfl ?_
  refine JO.t (ob_assign rfl) rfl ?_
  refine JO.nil ?_
  repeat (first | refine JX.next ?_ | refine JX.normal_block ?_)
  refine J.sel [0, 3] (.cons rfl (.cons rfl .nil)) ?_
  refine J.freeze1 (b := b3) rfl (fun _ h => h) rfl rfl ?_
  refine J.fact (LstR xs a cap b3) (fun E w hG _ => fun w1 hk => ⟨hG _ List.mem_cons_self w1 hk, hG _ (List.mem_cons_of_mem _ List.mem_cons_self) w1 hk⟩) ?_
  repeat refine J.seq ?_
  refine J.plain ?_
  refine JO.t (ob_makeFunc .nil (.cons rfl .nil)) rfl ?_
  refine JO.t (ob_assign rfl) rfl ?_
  refine JO.nil ?_
  repeat (first | refine JX.next ?_ | refine JX.normal_block ?_)
  refine J.sel [0, 3, 6] (.cons rfl (.cons rfl (.cons rfl .nil))) ?_
  repeat refine J.seq ?_
  refine J.block ?_
  repeat refine J.seq ?_
  refine J.plain ?_
  refine JO.t (ob_move rfl) rfl ?_
  refine JO.t (ob_eql rfl rfl) rfl ?_
  refine JO.t (ob_assign rfl) rfl ?_
  refine JO.nil ?_
  repeat (first | refine JX.next ?_ | refine JX.normal_block ?_)
  refine J.sel [0, 3, 6, 8] (.cons rfl (.cons rfl (.cons rfl (.cons rfl .nil)))) ?_
  first | apply J.or [0, 3, 6] rfl (.cons rfl (.cons rfl (.cons rfl .nil))) | apply J.orN [0, 3, 6] rfl (.cons rfl (.cons rfl (.cons rfl .nil)))
  · intro ht8
    repeat refine J.seq ?_
    refine J.reg0 hmx (by kernel_rfl) (by kernel_rfl) ?_
    refine RT.t (ob_move rfl) ?_
    refine RT.t (ob_geq rfl rfl) ?_
    refine RT.t (ob_move rfl) ?_
    refine RT.g rfl rfl rfl (fun hg => ob_move (.inl rfl)) ?_
    refine RT.g rfl rfl rfl (fun hg => ob_leq (.inr ⟨_, rfl, fun h => h⟩) (.inl rfl)) ?_
    refine RT.t (ob_pickAnd rfl rfl rfl id) ?_
    refine RT.t (ob_assign rfl) ?_
    refine RT.nil ?_
    refine FinS.nil0 ?_
    exact JX.mids [8, 0, 3, 6] (.cons rfl (.cons rfl (.cons rfl (.cons rfl .nil))))
  repeat refine J.seq ?_
  refine J.cond rfl (fun ht8 => ?_) (fun ht8 => ?_)
  ·
    try simp only [decide_eq_true_eq, decide_eq_false_iff_not] at ht8
    repeat refine J.seq ?_
    refine J.plain ?_
    refine JO.t (ob_move rfl) rfl ?_
    refine JO.t (ob_callG _ rfl (fn_types xs hl a cap b3) List.mem_cons_self rfl) rfl ?_
    refine JO.t (ob_assign rfl) rfl ?_
    refine JO.t (ob_assign rfl) rfl ?_
    refine JO.nil ?_
    repeat (first | refine JX.next ?_ | refine JX.normal_block ?_)
    refine J.sel [4, 5] (.cons rfl (.cons rfl .nil)) ?_
    repeat refine J.seq ?_
    refine J.ret ?_
    repeat (first | refine JX.ret_pass ?_ | refine JX.ret_block ?_)
    exact JX.ret2is rfl rfl rfl (by first | (simp +decide only [typedF, *, ↓reduceIte] <;> rfl) | (simp_all [typedF]; done) | (simp only [typedF, *, ↓reduceIte, Bool.false_eq_true]; done) | (simp_all [typedF]; done) | (simp [typedF, *]; done)) (by first | (simp +decide only [typedF, *, ↓reduceIte] <;> rfl) | (simp_all [typedF]; done) | (simp only [typedF, *, ↓reduceIte, Bool.false_eq_true]; done) | (simp_all [typedF]; done) | (simp [typedF, *]; done))
  ·
    try simp only [decide_eq_true_eq, decide_eq_false_iff_not] at ht8
    repeat refine J.seq ?_
    refine J.plain ?_
    refine JO.t (ob_move rfl) rfl ?_
    refine JO.t (ob_eql rfl rfl) rfl ?_
    refine JO.t (ob_assign rfl) rfl ?_
    refine JO.nil ?_
    repeat (first | refine JX.next ?_ | refine JX.normal_block ?_)
    refine J.sel [0, 3, 6, 19] (.cons rfl (.cons rfl (.cons rfl (.cons rfl .nil)))) ?_
    first | apply J.or [0, 3, 6] rfl (.cons rfl (.cons rfl (.cons rfl .nil))) | apply J.orN [0, 3, 6] rfl (.cons rfl (.cons rfl (.cons rfl .nil)))
    · intro ht19
      repeat refine J.seq ?_
      refine J.plain ?_
      refine JO.t (ob_move rfl) rfl ?_
      refine JO.t (ob_eql rfl rfl) rfl ?_
      refine JO.t (ob_assign rfl) rfl ?_
      refine JO.nil ?_
      refine JX.next ?_
      apply J.orT [0, 3, 6] rfl (.cons rfl (.cons rfl (.cons rfl .nil)))
      · intro ht19
        repeat refine J.seq ?_
        refine J.plain ?_
        refine JO.t (ob_move rfl) rfl ?_
        refine JO.t (ob_eql rfl rfl) rfl ?_
        refine JO.t (ob_assign rfl) rfl ?_
        refine JO.nil ?_
        exact JX.mids [19, 0, 3, 6] (.cons rfl (.cons rfl (.cons rfl (.cons rfl .nil))))
    repeat refine J.seq ?_
    refine J.cond rfl (fun ht19 => ?_) (fun ht19 => ?_)
    ·
      try simp only [decide_eq_true_eq, decide_eq_false_iff_not] at ht19
      repeat refine J.seq ?_
      refine J.plain ?_
      refine JO.t (ob_move rfl) rfl ?_
      refine JO.t (ob_callG _ rfl (fn_types xs hl a cap b3) List.mem_cons_self rfl) rfl ?_
      refine JO.t (ob_assign rfl) rfl ?_
      refine JO.t (ob_assign rfl) rfl ?_
      refine JO.nil ?_
      repeat (first | refine JX.next ?_ | refine JX.normal_block ?_)
      refine J.sel [4, 5] (.cons rfl (.cons rfl .nil)) ?_
      repeat refine J.seq ?_
      refine J.ret ?_
      repeat (first | refine JX.ret_pass ?_ | refine JX.ret_block ?_)
      exact JX.ret2is rfl rfl rfl (by first | (simp +decide only [typedF, *, ↓reduceIte] <;> rfl) | (simp_all [typedF]; done) | (simp only [typedF, *, ↓reduceIte, Bool.false_eq_true]; done) | (simp_all [typedF]; done) | (simp [typedF, *]; done)) (by first | (simp +decide only [typedF, *, ↓reduceIte] <;> rfl) | (simp_all [typedF]; done) | (simp only [typedF, *, ↓reduceIte, Bool.false_eq_true]; done) | (simp_all [typedF]; done) | (simp [typedF, *]; done))
    ·
      try simp only [decide_eq_true_eq, decide_eq_false_iff_not] at ht19
      repeat refine J.seq ?_
      refine J.plain ?_
      refine JO.t (ob_move rfl) rfl ?_
      refine JO.t (ob_eql rfl rfl) rfl ?_
      refine JO.t (ob_assign rfl) rfl ?_
      refine JO.nil ?_
      repeat (first | refine JX.next ?_ | refine JX.normal_block ?_)
      refine J.sel [0, 3, 6, 28] (.cons rfl (.cons rfl (.cons rfl (.cons rfl .nil)))) ?_
      first | apply J.or [3, 6] rfl (.cons rfl (.cons rfl .nil)) | apply J.orN [3, 6] rfl (.cons rfl (.cons rfl .nil))
      · intro ht28
        repeat refine J.seq ?_
        refine J.plain ?_
        refine JO.t (ob_move rfl) rfl ?_
        refine JO.t (ob_eql rfl rfl) rfl ?_
        refine JO.t (ob_assign rfl) rfl ?_
        refine JO.nil ?_
        exact JX.mids [28, 3, 6] (.cons rfl (.cons rfl (.cons rfl .nil)))
      repeat refine J.seq ?_
      refine J.cond rfl (fun ht28 => ?_) (fun ht28 => ?_)
      ·
        try simp only [decide_eq_true_eq, decide_eq_false_iff_not] at ht28
        repeat refine J.seq ?_
        refine J.plain ?_
        refine JO.t (ob_assign rfl) rfl ?_
        refine JO.t (ob_assign rfl) rfl ?_
        refine JO.nil ?_
        repeat (first | refine JX.next ?_ | refine JX.normal_block ?_)
        refine J.sel [4, 5] (.cons rfl (.cons rfl .nil)) ?_
        repeat refine J.seq ?_
        refine J.ret ?_
        repeat (first | refine JX.ret_pass ?_ | refine JX.ret_block ?_)
        exact JX.ret2is rfl rfl rfl (by first | (simp +decide only [typedF, *, ↓reduceIte] <;> rfl) | (simp_all [typedF]; done) | (simp only [typedF, *, ↓reduceIte, Bool.false_eq_true]; done) | (simp_all [typedF]; done) | (simp [typedF, *]; done)) (by first | (simp +decide only [typedF, *, ↓reduceIte] <;> rfl) | (simp_all [typedF]; done) | (simp only [typedF, *, ↓reduceIte, Bool.false_eq_true]; done) | (simp_all [typedF]; done) | (simp [typedF, *]; done))
      ·
        try simp only [decide_eq_true_eq, decide_eq_false_iff_not] at ht28
        refine J.skip ?_
        repeat (first | refine JX.next ?_ | refine JX.normal_block ?_)
        repeat refine J.seq ?_
        refine J.reg0 hmx (by kernel_rfl) (by kernel_rfl) ?_
        refine RT.t (ob_move rfl) ?_
        refine RT.t (ob_ldF1 (b := b3) (off := 0) (cs := [.slice a xs.length cap]) (e := ty_sl_int) sz_sl_int rfl (List.mem_cons_of_mem _ List.mem_cons_self) rfl) ?_
        refine RT.t (ob_indexAddr el_sl_int rfl (ha (by simp at ht8 ht19 ht28; omega)) rfl (by omega) (by simp at ht8 ht19 ht28; omega)) ?_
        refine RT.t (ob_loadG1 (i := 0) (j := 0) (y := xs.getD 0 0) sz_int rfl (List.mem_cons_of_mem _ (List.mem_cons_of_mem _ List.mem_cons_self)) (ha (by simp at ht8 ht19 ht28; omega)) (int_get (by simp at ht8 ht19 ht28; omega)) (by omega) rfl) ?_
        refine RT.t (ob_ldF1 (b := b3) (off := 0) (cs := [.slice a xs.length cap]) (e := ty_sl_int) sz_sl_int rfl (List.mem_cons_of_mem _ List.mem_cons_self) rfl) ?_
        refine RT.t (ob_indexAddr el_sl_int rfl (ha (by simp at ht8 ht19 ht28; omega)) rfl (by omega) (by simp at ht8 ht19 ht28; omega)) ?_
        refine RT.t (ob_loadG1 (i := 1) (j := 0) (y := xs.getD 1 0) sz_int rfl (List.mem_cons_of_mem _ (List.mem_cons_of_mem _ List.mem_cons_self)) (ha (by simp at ht8 ht19 ht28; omega)) (int_get (by simp at ht8 ht19 ht28; omega)) (by omega) rfl) ?_
        refine RT.t (ob_max rfl rfl) ?_
        refine RT.t (ob_callG _ rfl (fn_types xs hl a cap b3) List.mem_cons_self rfl) ?_
        refine RT.t (ob_assign rfl) ?_
        refine RT.t (ob_assign rfl) ?_
        refine RT.nil ?_
        refine FinS.nil0 ?_
        repeat (first | refine JX.next ?_ | refine JX.normal_block ?_)
        refine J.sel [4, 5] (.cons rfl (.cons rfl .nil)) ?_
        repeat refine J.seq ?_
        refine J.ret ?_
        repeat (first | refine JX.ret_pass ?_ | refine JX.ret_block ?_)
        exact JX.ret2is rfl rfl rfl (by first | (simp +decide only [typedF, *, ↓reduceIte] <;> rfl) | (simp_all [typedF]; done) | (simp only [typedF, *, ↓reduceIte, Bool.false_eq_true]; done) | (simp_all [typedF]; done) | (simp [typedF, *]; done)) (by first | (simp +decide only [typedF, *, ↓reduceIte] <;> rfl) | (simp_all [typedF]; done) | (simp only [typedF, *, ↓reduceIte, Bool.false_eq_true]; done) | (simp_all [typedF]; done) | (simp [typedF, *]; done))
end Go.Proofs.Ytjlojkchgfeenaa
