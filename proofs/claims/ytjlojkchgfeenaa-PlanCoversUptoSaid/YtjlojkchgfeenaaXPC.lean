/- Which index is chosen. No condition. -/
import Derived.Test.YtjlojkchgfeenaaXPB
import Derived.Test.YtjlojkchgfeenaaXG3
set_option maxRecDepth 20000
namespace Go.Proofs.Ytjlojkchgfeenaa
open Go Go.Vc
def idxG {α : Type} (p : α → Bool) : List α → Int → Int
  | [], _ => -1
  | x :: xs, i => if p x then i else idxG p xs (i + 1)
theorem i4_get {xs : List I4} {i : Nat} (h : i < xs.length) : xs[i]? = some (xs.getD i i4D) := by simp [h]
theorem idxG_drop (p : I4 → Bool) (xs : List I4) (i : Nat) (h : i < xs.length) : idxG p (xs.drop i) i = if p (xs.getD i i4D) then (i : Int) else idxG p (xs.drop (i + 1)) ((i + 1 : Nat) : Int) := by
  rw [List.drop_eq_getElem_cons h, idxG]
  simp [h]
abbrev AX : I4 → Ty := fun k => .is (.agg k.cells.toArray)
abbrev RX (p : I4 → Bool) : I4 → Ty := fun k => .is (.bool (p k))
abbrev AB : Bool → Ty := fun k => .is (.bool k)
abbrev RBB (p : Bool → Bool) : Bool → Ty := fun k => .is (.bool (p k))
def atF (pm : Bool → Bool) (col : Int) (x : I4) : Bool := (x.col == col) && pm x.h
theorem c_slices_IndexFunc_sl_api_Index_api_Index (xs : List I4) (hl : xs.length ≤ 9223372036854775806) (p : I4 → Bool) (fv : Value) (G : World → Prop) (hf : Fn1 Try.prog fv G AX (RX p)) : CallTy Try.prog f_slices_IndexFunc_sl_api_Index_api_Index [.rep (SlG I4.cells 4 xs), .rep (FunR fv G)] (.is (.int .i64 (idxG p xs 0))) :=
  CallTy.of (fn := Try.f48) Try.func48 (n := 19) rfl rfl rfl (fun _ _ => by kernel_rfl) fun E W => by
  refine J.openSl (s := 0) rfl (fun a len cap b o hlen ha => ?_)
  refine J.openFun (s := 1) rfl ?_
  subst hlen
  repeat refine J.seq ?_
  refine J.plain ?_
  refine JO.t (ob_assign rfl) rfl ?_
  refine JO.nil ?_
  repeat (first | refine JX.next ?_ | refine JX.normal_block ?_)
  refine J.sel [0, 1] (.cons rfl (.cons rfl .nil)) ?_
  repeat refine J.seq ?_
  refine J.plain ?_
  refine JO.t (ob_move rfl) rfl ?_
  refine JO.t (ob_len un_sl_api_Index rfl) rfl ?_
  refine JO.t (ob_move rfl) rfl ?_
  refine JO.nil ?_
  repeat (first | refine JX.next ?_ | refine JX.normal_block ?_)
  refine J.sel [0, 1, 7, 8] (.cons rfl (.cons rfl (.cons rfl (.cons rfl .nil)))) ?_
  repeat refine J.seq ?_
  refine J.block ?_
  repeat refine J.seq ?_
  refine J.loopF (α := Nat) (fun s => [(0, .is (.slice a xs.length cap)), (1, .is fv), (7, .is (.int .i64 xs.length)), (8, .is (.int .i64 (s : Nat)))]) (fun s => s ≤ xs.length ∧ idxG p (xs.drop s) s = idxG p xs 0) (fun s => xs.length - s) 0 [0, 1, 7, 8] (.cons rfl (.cons rfl (.cons rfl (.cons rfl .nil)))) ⟨Nat.zero_le _, rfl⟩ fun i ⟨hi, hgo⟩ => ?_
  repeat refine J.seq ?_
  refine J.plain ?_
  refine JO.t (ob_lss rfl rfl) rfl ?_
  refine JO.nil ?_
  repeat (first | refine JX.next ?_ | refine JX.normal_block ?_)
  refine J.sel [0, 1, 7, 8, 9] (.cons rfl (.cons rfl (.cons rfl (.cons rfl (.cons rfl .nil))))) ?_
  repeat refine J.seq ?_
  refine J.cond rfl (fun ht9 => ?_) (fun ht9 => ?_)
  ·
    try simp only [decide_eq_true_eq, decide_eq_false_iff_not] at ht9
    refine J.skip ?_
    repeat (first | refine JX.next ?_ | refine JX.normal_block ?_)
    repeat refine J.seq ?_
    refine J.block ?_
    repeat refine J.seq ?_
    refine J.plain ?_
    refine JO.t (ob_move rfl) rfl ?_
    refine JO.t (ob_assign rfl) rfl ?_
    refine JO.nil ?_
    repeat (first | refine JX.next ?_ | refine JX.normal_block ?_)
    refine J.sel [0, 1, 5, 7, 8] (.cons rfl (.cons rfl (.cons rfl (.cons rfl (.cons rfl .nil))))) ?_
    repeat refine J.seq ?_
    refine J.plain ?_
    refine JO.t (ob_move rfl) rfl ?_
    refine JO.t (ob_move rfl) rfl ?_
    refine JO.t (ob_move rfl) rfl ?_
    refine JO.t (ob_indexAddr el_sl_api_Index rfl (ha (by omega)) rfl (by omega) (by omega)) rfl ?_
    refine JO.t (ob_loadG (enc := I4.cells) (sz := 4) (len := xs.length) (i := i) (y := xs.getD i i4D) (cs := I4.cells (xs.getD i i4D)) sz_api_Index rfl (List.mem_cons_of_mem _ List.mem_cons_self) (ha (by omega)) (i4_get (by omega)) (by omega) rfl) rfl ?_
    refine JO.t (ob_callG (xs.getD i i4D) rfl hf List.mem_cons_self rfl) rfl ?_
    refine JO.nil ?_
    repeat (first | refine JX.next ?_ | refine JX.normal_block ?_)
    refine J.sel [0, 1, 5, 7, 8, 16] (.cons rfl (.cons rfl (.cons rfl (.cons rfl (.cons rfl (.cons rfl .nil)))))) ?_
    repeat refine J.seq ?_
    refine J.cond rfl (fun ht16 => ?_) (fun ht16 => ?_)
    ·
      try simp only [decide_eq_true_eq, decide_eq_false_iff_not] at ht16
      repeat refine J.seq ?_
      refine J.plain ?_
      refine JO.t (ob_move rfl) rfl ?_
      refine JO.t (ob_assign rfl) rfl ?_
      refine JO.nil ?_
      repeat (first | refine JX.next ?_ | refine JX.normal_block ?_)
      refine J.sel [4] (.cons rfl .nil) ?_
      repeat refine J.seq ?_
      refine J.ret ?_
      repeat (first | refine JX.ret_pass ?_ | refine JX.ret_block ?_)
      exact JX.ret1is rfl rfl (by rw [← hgo, idxG_drop p xs i (by omega), if_pos (by simpa using ht16)])
    ·
      try simp only [decide_eq_true_eq, decide_eq_false_iff_not] at ht16
      refine J.skip ?_
      repeat (first | refine JX.next ?_ | refine JX.normal_block ?_)
      repeat refine J.seq ?_
      refine J.plain ?_
      refine JO.t (ob_addc (cc := ((i + 1 : Nat) : Int)) rfl rfl (by omega) (by omega) (by omega)) rfl ?_
      refine JO.t (ob_move rfl) rfl ?_
      refine JO.nil ?_
      repeat refine JX.normal_block ?_
      refine JX.roundS (i + 1) ?_ ?_ [0, 1, 7, 8] ?_ ?_ ?_
      · exact ⟨by omega, by rw [← hgo, idxG_drop p xs i (by omega), if_neg (by simpa using ht16)]⟩
      · exact (by omega)
      · exact (.cons rfl (.cons rfl (.cons rfl (.cons rfl .nil))))
      · repeat (first | exact .slnil | apply List.Sublist.cons_cons | apply List.Sublist.cons)
      · repeat (first | exact .slnil | apply List.Sublist.cons_cons | apply List.Sublist.cons)
  ·
    try simp only [decide_eq_true_eq, decide_eq_false_iff_not] at ht9
    repeat refine J.seq ?_
    refine J.exit ?_
    repeat (first | refine JX.hit ?_ | refine JX.miss rfl ?_ | refine JX.exit_pass ?_)
    repeat (first | refine JX.next ?_ | refine JX.normal_block ?_)
    repeat refine J.seq ?_
    refine J.plain ?_
    refine JO.t (ob_assign rfl) rfl ?_
    refine JO.nil ?_
    repeat (first | refine JX.next ?_ | refine JX.normal_block ?_)
    refine J.sel [4] (.cons rfl .nil) ?_
    repeat refine J.seq ?_
    refine J.ret ?_
    repeat (first | refine JX.ret_pass ?_ | refine JX.ret_block ?_)
    exact JX.ret1is rfl rfl (by rw [← hgo, List.drop_of_length_le (by omega)]; rfl)
theorem c_plan_Choose_2 (b : Bool) : CallTy Try.prog f_plan_Choose_2 [.is (.bool b)] (.is (.bool b)) :=
  CallTy.of (fn := Try.f50) Try.func50 (n := 4) rfl rfl rfl (fun _ _ => by kernel_rfl) fun E W => by
  repeat refine J.seq ?_
  refine J.plain ?_
  refine JO.t (ob_assign rfl) rfl ?_
  refine JO.nil ?_
  repeat (first | refine JX.next ?_ | refine JX.normal_block ?_)
  refine J.sel [0] (.cons rfl .nil) ?_
  repeat refine J.seq ?_
  refine J.plain ?_
  refine JO.t (ob_move rfl) rfl ?_
  refine JO.t (ob_assign rfl) rfl ?_
  refine JO.nil ?_
  repeat (first | refine JX.next ?_ | refine JX.normal_block ?_)
  refine J.sel [2] (.cons rfl .nil) ?_
  repeat refine J.seq ?_
  refine J.ret ?_
  repeat (first | refine JX.ret_pass ?_ | refine JX.ret_block ?_)
  exact JX.ret1is rfl rfl (by rfl)
theorem c_plan_Choose_3 (b : Bool) : CallTy Try.prog f_plan_Choose_3 [.is (.bool b)] (.is (.bool true)) :=
  CallTy.of (fn := Try.f51) Try.func51 (n := 3) rfl rfl rfl (fun _ _ => by kernel_rfl) fun E W => by
  repeat refine J.seq ?_
  refine J.plain ?_
  refine JO.t (ob_assign rfl) rfl ?_
  refine JO.nil ?_
  repeat (first | refine JX.next ?_ | refine JX.normal_block ?_)
  refine J.sel [] .nil ?_
  repeat refine J.seq ?_
  refine J.plain ?_
  refine JO.t (ob_assign rfl) rfl ?_
  refine JO.nil ?_
  repeat (first | refine JX.next ?_ | refine JX.normal_block ?_)
  refine J.sel [2] (.cons rfl .nil) ?_
  repeat refine J.seq ?_
  refine J.ret ?_
  repeat (first | refine JX.ret_pass ?_ | refine JX.ret_block ?_)
  exact JX.ret1is rfl rfl (by rfl)
theorem c_plan_Choose_4 (b : Bool) : CallTy Try.prog f_plan_Choose_4 [.is (.bool b)] (.is (.bool (!b))) :=
  CallTy.of (fn := Try.f53) Try.func53 (n := 5) rfl rfl rfl (fun _ _ => by kernel_rfl) fun E W => by
  repeat refine J.seq ?_
  refine J.plain ?_
  refine JO.t (ob_assign rfl) rfl ?_
  refine JO.nil ?_
  repeat (first | refine JX.next ?_ | refine JX.normal_block ?_)
  refine J.sel [0] (.cons rfl .nil) ?_
  repeat refine J.seq ?_
  refine J.plain ?_
  refine JO.t (ob_move rfl) rfl ?_
  refine JO.t (ob_not rfl) rfl ?_
  refine JO.t (ob_assign rfl) rfl ?_
  refine JO.nil ?_
  repeat (first | refine JX.next ?_ | refine JX.normal_block ?_)
  refine J.sel [2] (.cons rfl .nil) ?_
  repeat refine J.seq ?_
  refine J.ret ?_
  repeat (first | refine JX.ret_pass ?_ | refine JX.ret_block ?_)
  exact JX.ret1is rfl rfl (by rfl)
theorem c_plan_Choose_1_1 (x : I4) (col : Int) (fv : Value) (pm : Bool → Bool) (hf : Fn1 Try.prog fv (fun _ => True) AB (RBB pm)) : CallTy Try.prog f_plan_Choose_1_1 [.is (.agg x.cells.toArray), .rep (PtrR [.int .i64 col] ty_int), .rep (PtrR [fv] 98)] (.is (.bool (atF pm col x))) :=
  CallTy.of (fn := Try.f49) Try.func49 (n := 15) rfl rfl rfl (fun _ _ => by kernel_rfl) fun E W => by
  refine J.openPtr (s := 1) rfl (fun b1 => ?_)
  refine J.openPtr (s := 2) rfl (fun b2 => ?_)
  refine J.fact (fun _ => True) (fun _ _ _ _ => fun _ _ => trivial) ?_
  repeat refine J.seq ?_
  refine J.plain ?_
  refine JO.box rfl rfl fun b3 => ?_
  refine JO.t (ob_assign rfl) rfl ?_
  refine JO.nil ?_
  repeat (first | refine JX.next ?_ | refine JX.normal_block ?_)
  refine J.sel [1, 2, 3] (.cons rfl (.cons rfl (.cons rfl .nil))) ?_
  repeat refine J.seq ?_
  refine J.reg0 hmx (by kernel_rfl) (by kernel_rfl) ?_
  refine RT.t (ob_fieldAddr fo_api_Index_2 rfl) ?_
  refine RT.t (ob_ld1 sz_int rfl rfl) ?_
  refine RT.t (ob_ldF1 (b := b1) (off := 0) (cs := [.int .i64 col]) (e := ty_int) sz_int rfl (by repeat (first | exact List.mem_cons_self | apply List.mem_cons_of_mem)) rfl) ?_
  refine RT.t (ob_eql rfl rfl) ?_
  refine RT.t (ob_move rfl) ?_
  refine RT.g rfl rfl rfl (fun hg => ob_ldF1 (b := b2) (off := 0) (cs := [fv]) (e := 98) sz_func_bool_bool (.inl rfl) (by repeat (first | exact List.mem_cons_self | apply List.mem_cons_of_mem)) rfl) ?_
  refine RT.g rfl rfl rfl (fun hg => ob_fieldAddr fo_api_Index_3 (.inl rfl)) ?_
  refine RT.g rfl rfl rfl (fun hg => ob_ld1 sz_bool (.inr ⟨_, rfl, fun h => h⟩) rfl) ?_
  refine RT.g rfl rfl rfl (fun hg => ob_callG x.h (.inr ⟨_, rfl, fun h => h⟩) hf (by repeat (first | exact List.mem_cons_self | apply List.mem_cons_of_mem)) (.inr ⟨_, rfl, fun h => h⟩)) ?_
  refine RT.t (ob_pickAnd rfl rfl rfl id) ?_
  refine RT.t (ob_assign rfl) ?_
  refine RT.nil ?_
  refine FinS.nil0 ?_
  repeat (first | refine JX.next ?_ | refine JX.normal_block ?_)
  refine J.sel [4] (.cons rfl .nil) ?_
  repeat refine J.seq ?_
  refine J.ret ?_
  repeat (first | refine JX.ret_pass ?_ | refine JX.ret_block ?_)
  exact JX.ret1is rfl rfl (by rfl)
theorem fn_at (col : Int) (fv : Value) (pm : Bool → Bool) (hf : Fn1 Try.prog fv (fun _ => True) AB (RBB pm)) (bc bm : Nat) : Fn1 Try.prog (.func (.func f_plan_Choose_1_1) ([] : List Value).toArray [.pointer (some ⟨bc, 0, none⟩), .pointer (some ⟨bm, 0, none⟩)].toArray) (fun w => HeapIs bc [.int .i64 col] ty_int w ∧ HeapIs bm [fv] 98 w) AX (RX (atF pm col)) :=
  Fn1.of (TF := []) (TC := [.rep (PtrR [.int .i64 col] ty_int), .rep (PtrR [fv] 98)]) (fun x => c_plan_Choose_1_1 x col fv pm hf) (fun _ _ _ => trivial) (fun E w h => ⟨fun w' hk => ⟨bc, rfl, (h w' hk).1⟩, fun w' hk => ⟨bm, rfl, (h w' hk).2⟩, trivial⟩) i4D
def IxP (xs : List I4) (a : Option Addr) (cap b : Nat) (v : Value) (w : World) : Prop := v = .pointer (some ⟨b, 0, none⟩) ∧ HeapIs b [.slice a xs.length cap] ty_sl_api_Index w ∧ RowG I4.cells 4 xs a xs.length w
theorem J.openIx {P : Program} {c : Ctx} {K : List (Nat × Ty)} {L : List Own} {Φ : List (World → Prop)} {Q : Exit → Act → World → Prop} {x : Code} {s : Nat} {xs : List I4} {a : Option Addr} {cap b : Nat} (h : Vc.look K s = some (.rep (IxP xs a cap b)))
    (hj : J P c ((s, .is (.pointer (some ⟨b, 0, none⟩))) :: K) L (HeapIs b [.slice a xs.length cap] ty_sl_api_Index :: RowG I4.cells 4 xs a xs.length :: Φ) x Q) : J P c K L Φ x Q := by
  refine J.open_ h ?_
  rintro v ⟨w, rfl, hb⟩
  refine J.fact (RowG I4.cells 4 xs a xs.length) (fun E w hG _ => fun w' hk => (hG _ List.mem_cons_self w' hk).2.2) ?_
  refine J.fact (HeapIs b [.slice a xs.length cap] ty_sl_api_Index) (fun E w hG _ => fun w' hk => (hG _ (List.mem_cons_of_mem _ List.mem_cons_self) w' hk).2.1) ?_
  refine J.subΦ (fun F hF => ?_) hj
  rcases List.mem_cons.1 hF with rfl | hF
  · exact List.mem_cons_self
  · rcases List.mem_cons.1 hF with rfl | hF
    · exact List.mem_cons_of_mem _ List.mem_cons_self
    · exact List.mem_cons_of_mem _ (List.mem_cons_of_mem _ (List.mem_cons_of_mem _ hF))
theorem c_plan_Choose_1 (col : Int) (xs : List I4) (hl : xs.length ≤ 9223372036854775806) (fv : Value) (pm : Bool → Bool) (hf : Fn1 Try.prog fv (fun _ => True) AB (RBB pm)) (a : Option Addr) (cap b : Nat) : CallTy Try.prog f_plan_Choose_1 [.is fv, .rep (IxP xs a cap b), .rep (PtrR [.int .i64 col] ty_int)] (.is (.int .i64 (idxG (atF pm col) xs 0))) :=
  CallTy.of (fn := Try.f47) Try.func47 (n := 8) rfl rfl rfl (fun _ _ => by kernel_rfl) fun E W => by
  have hfv : fv.cells = #[fv] := by obtain ⟨_, _, _, rfl, _⟩ := hf; rfl
  refine J.openIx (s := 1) rfl ?_
  refine J.openPtr (s := 2) rfl (fun bc => ?_)
  repeat refine J.seq ?_
  refine J.plain ?_
  refine JO.box rfl rfl fun b3 => ?_
  refine JO.t (ob_assign rfl) rfl ?_
  refine JO.nil ?_
  repeat (first | refine JX.next ?_ | refine JX.normal_block ?_)
  refine J.sel [1, 2, 3] (.cons rfl (.cons rfl (.cons rfl .nil))) ?_
  refine J.freeze1 (b := b3) hfv (fun _ h => h) rfl rfl ?_
  refine J.fact (fun w => HeapIs bc [.int .i64 col] ty_int w ∧ HeapIs b3 [fv] 98 w) (fun E w hG _ => fun w1 hk => ⟨hG (HeapIs bc [.int .i64 col] ty_int) (by repeat (first | exact List.mem_cons_self | apply List.mem_cons_of_mem)) w1 hk, hG (HeapIs b3 [fv] 98) (by repeat (first | exact List.mem_cons_self | apply List.mem_cons_of_mem)) w1 hk⟩) ?_
  repeat refine J.seq ?_
  refine J.plain ?_
  refine JO.t (ob_ldF1 (b := b) (off := 0) (cs := [.slice a xs.length cap]) (e := ty_sl_api_Index) sz_sl_api_Index rfl (by repeat (first | exact List.mem_cons_self | apply List.mem_cons_of_mem)) rfl) rfl ?_
  refine JO.t (ob_makeFunc .nil (.cons rfl (.cons rfl .nil))) rfl ?_
  refine JO.t (ob_call rfl (c_slices_IndexFunc_sl_api_Index_api_Index xs hl _ _ _ (fn_at col fv pm hf bc b3)) (.sub rfl (Sub.slFact (by repeat (first | exact List.mem_cons_self | apply List.mem_cons_of_mem))) (.sub rfl (Sub.fun (by repeat (first | exact List.mem_cons_self | apply List.mem_cons_of_mem))) .nil))) rfl ?_
  refine JO.t (ob_assign rfl) rfl ?_
  refine JO.nil ?_
  repeat (first | refine JX.next ?_ | refine JX.normal_block ?_)
  refine J.sel [4] (.cons rfl .nil) ?_
  repeat refine J.seq ?_
  refine J.ret ?_
  repeat (first | refine JX.ret_pass ?_ | refine JX.ret_block ?_)
  exact JX.ret1is rfl rfl (by rfl)
theorem fn_find (col : Int) (xs : List I4) (hl : xs.length ≤ 9223372036854775806) (fv : Value) (pm : Bool → Bool) (hf : Fn1 Try.prog fv (fun _ => True) AB (RBB pm)) (a : Option Addr) (cap b bc : Nat) :
    Fn1 Try.prog (.func (.func f_plan_Choose_1) ([] : List Value).toArray [.pointer (some ⟨b, 0, none⟩), .pointer (some ⟨bc, 0, none⟩)].toArray) (fun w => (HeapIs b [.slice a xs.length cap] ty_sl_api_Index w ∧ RowG I4.cells 4 xs a xs.length w) ∧ HeapIs bc [.int .i64 col] ty_int w) (fun _ : Unit => .is fv) (fun _ => .is (.int .i64 (idxG (atF pm col) xs 0))) :=
  Fn1.of (TF := []) (TC := [.rep (IxP xs a cap b), .rep (PtrR [.int .i64 col] ty_int)]) (fun _ => c_plan_Choose_1 col xs hl fv pm hf a cap b) (fun _ _ _ => trivial) (fun E w h => ⟨fun w' hk => ⟨rfl, (h w' hk).1⟩, fun w' hk => ⟨bc, rfl, (h w' hk).2⟩, trivial⟩) ()
theorem fn_hash : Fn1 Try.prog (.func (.func f_plan_Choose_2) #[] #[]) (fun _ => True) AB (RBB fun b => b) := Fn1.of (fs := []) (cs := []) (TF := []) (TC := []) (fun b => c_plan_Choose_2 b) (fun _ _ _ => trivial) (fun _ _ _ => trivial) true
theorem fn_any : Fn1 Try.prog (.func (.func f_plan_Choose_3) #[] #[]) (fun _ => True) AB (RBB fun _ => true) := Fn1.of (fs := []) (cs := []) (TF := []) (TC := []) (fun b => c_plan_Choose_3 b) (fun _ _ _ => trivial) (fun _ _ _ => trivial) true
theorem fn_tree : Fn1 Try.prog (.func (.func f_plan_Choose_4) #[] #[]) (fun _ => True) AB (RBB fun b => !b) := Fn1.of (fs := []) (cs := []) (TF := []) (TC := []) (fun b => c_plan_Choose_4 b) (fun _ _ _ => trivial) (fun _ _ _ => trivial) true
end Go.Proofs.Ytjlojkchgfeenaa
