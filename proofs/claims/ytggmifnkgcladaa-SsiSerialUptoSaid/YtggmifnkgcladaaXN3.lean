/- Values: order, keys; plain laws. No condition. -/
import Derived.Test.YtggmifnkgcladaaXG4
import Derived.Lib.ItoaNum
import Derived.Test.YtggmifnkgcladaaXN2
import Derived.Test.YtggmifnkgcladaaXG6
set_option maxRecDepth 20000
namespace Go.Vl
open Go Go.Vc
abbrev bl (l : List UInt8) : ByteArray := ⟨l.toArray⟩
theorem bl_eq (s : ByteArray) : bl s.data.toList = s := by cases s; simp
theorem list_inj {a b : ByteArray} (h : a.data.toList = b.data.toList) : a = b := by rw [← bl_eq a, ← bl_eq b, h]
theorem seq_iff (s t : ByteArray) : seq s t = true ↔ s = t := by
  unfold seq
  rw [ByteArray.toList_eq, ByteArray.toList_eq, beq_iff_eq]
  exact ⟨list_inj, fun h => by rw [h]⟩
theorem seq_self (s : ByteArray) : seq s s = true := (seq_iff s s).2 rfl
theorem slt_lists (s t : ByteArray) : slt s t = Op.bytesLess s.data.toList t.data.toList := by
  unfold slt
  rw [ByteArray.toList_eq, ByteArray.toList_eq]
abbrev lss := Op.bytesLess
theorem lss_n (l : List UInt8) : lss l [] = false := by cases l <;> rfl
theorem lss_c (a b : UInt8) (x y : List UInt8) : lss (a :: x) (b :: y) = (decide (a < b) || (a == b && lss x y)) := by
  show Op.bytesLess _ _ = _
  rw [Op.bytesLess]
theorem lss_irrefl : ∀ x, lss x x = false
  | [] => rfl
  | a :: x => by rw [lss_c, lss_irrefl x]; simp
theorem lss_asym : ∀ x y, lss x y = true → lss y x = false
  | _, [], h => by rw [lss_n] at h; cases h
  | [], _ :: _, _ => lss_n _
  | a :: x, b :: y, h => by
    rw [lss_c] at h ⊢
    simp only [Bool.or_eq_true, decide_eq_true_eq, Bool.and_eq_true, beq_iff_eq] at h
    simp only [Bool.or_eq_false_iff, decide_eq_false_iff_not, Bool.and_eq_false_iff, beq_eq_false_iff_ne]
    rcases h with h | ⟨h1, h2⟩
    · exact ⟨fun h3 => absurd (UInt8.lt_trans h h3) (UInt8.lt_irrefl _), .inl fun e => by subst e; exact UInt8.lt_irrefl _ h⟩
    · subst h1
      exact ⟨UInt8.lt_irrefl _, .inr (lss_asym x y h2)⟩
theorem lss_total : ∀ x y, lss x y = false → lss y x = false → x = y
  | [], [], _, _ => rfl
  | [], _ :: _, h, _ => by cases h
  | _ :: _, [], _, h => by cases h
  | a :: x, b :: y, h, k => by
    rw [lss_c] at h k
    simp only [Bool.or_eq_false_iff, decide_eq_false_iff_not, Bool.and_eq_false_iff, beq_eq_false_iff_ne] at h k
    have e : a = b := UInt8.le_antisymm (UInt8.not_lt.1 k.1) (UInt8.not_lt.1 h.1)
    subst e
    rw [lss_total x y (h.2.resolve_left fun h => h rfl) (k.2.resolve_left fun h => h rfl)]
theorem lss_trans : ∀ x y z, lss x y = true → lss y z = true → lss x z = true
  | _, [], _, h, _ => by rw [lss_n] at h; cases h
  | _, _ :: _, [], _, h => by rw [lss_n] at h; cases h
  | [], _ :: _, _ :: _, _, _ => rfl
  | a :: x, b :: y, c :: z, h, k => by
    rw [lss_c] at h k ⊢
    simp only [Bool.or_eq_true, decide_eq_true_eq, Bool.and_eq_true, beq_iff_eq] at h k ⊢
    rcases h with h | ⟨rfl, h⟩
    · rcases k with k | ⟨rfl, k⟩
      · exact .inl (UInt8.lt_trans h k)
      · exact .inl h
    · rcases k with k | ⟨rfl, k⟩
      · exact .inl k
      · exact .inr ⟨rfl, lss_trans x y z h k⟩
theorem v3_ext {a b : V3} (h1 : a.k = b.k) (h2 : a.n = b.n) (h3 : a.s = b.s) : a = b := by cases a; cases b; simp_all
def okV (v : V3) : Bool := if v.k == 0 then (v.n == 0) && seq v.s ⟨#[]⟩ else if v.k == 1 then seq v.s ⟨#[]⟩ else if v.k == 2 then (v.n.fdiv 2 == 0) && seq v.s ⟨#[]⟩ else ((v.k == 3) && (v.n == 0)) && decide ((v.s.size : Int) ≤ 64)
abbrev e0 : ByteArray := ⟨#[]⟩
inductive OkK (v : V3) : Prop
  | null (h : v = ⟨0, 0, e0⟩)
  | int (n : Int) (h : v = ⟨1, n, e0⟩)
  | bool (b : Bool) (h : v = ⟨2, if b then 1 else 0, e0⟩)
  | text (s : ByteArray) (hs : s.size ≤ 64) (h : v = ⟨3, 0, s⟩)
def cI (a b : Int) : Int := if decide (a < b) then -1 else if decide (b < a) then 1 else 0
def cS (s t : ByteArray) : Int := if slt s t then -1 else if !(slt s t || seq s t) then 1 else 0
def cmpV (a b : V3) : Int := if cI a.k b.k != 0 then cI a.k b.k else if cI a.n b.n != 0 then cI a.n b.n else cS a.s b.s
theorem cI_lt {a b : Int} (h : a < b) : cI a b = -1 := by unfold cI; rw [if_pos (decide_eq_true h)]
theorem cI_gt {a b : Int} (h : b < a) : cI a b = 1 := by unfold cI; rw [if_neg (by simp; omega), if_pos (decide_eq_true h)]
theorem cI_eq (a : Int) : cI a a = 0 := by unfold cI; simp
theorem cS_lt {s t : ByteArray} (h : lss s.data.toList t.data.toList = true) : cS s t = -1 := by unfold cS; rw [slt_lists, if_pos h]
theorem cS_gt {s t : ByteArray} (h : lss t.data.toList s.data.toList = true) : cS s t = 1 := by
  unfold cS
  have h1 := lss_asym _ _ h
  have h2 : seq s t = false := by
    cases e : seq s t
    · rfl
    · rw [(seq_iff s t).1 e, lss_irrefl] at h; cases h
  rw [slt_lists, show Op.bytesLess s.data.toList t.data.toList = false from h1, h2]
  rfl
theorem cS_eq (s : ByteArray) : cS s s = 0 := by
  unfold cS
  rw [slt_lists, show Op.bytesLess s.data.toList s.data.toList = false from lss_irrefl _, seq_self]
  rfl
theorem tri_S (s t : ByteArray) : lss s.data.toList t.data.toList = true ∨ s = t ∨ lss t.data.toList s.data.toList = true := by
  cases h : lss s.data.toList t.data.toList
  · cases k : lss t.data.toList s.data.toList
    · exact .inr (.inl (list_inj (lss_total _ _ h k)))
    · exact .inr (.inr rfl)
  · exact .inl rfl
def below (a b : V3) : Prop := a.k < b.k ∨ (a.k = b.k ∧ (a.n < b.n ∨ (a.n = b.n ∧ lss a.s.data.toList b.s.data.toList = true)))
theorem tri_V (a b : V3) : below a b ∨ a = b ∨ below b a := by
  unfold below
  rcases Int.lt_trichotomy a.k b.k with h | h | h
  · exact .inl (.inl h)
  · rcases Int.lt_trichotomy a.n b.n with k | k | k
    · exact .inl (.inr ⟨h, .inl k⟩)
    · rcases tri_S a.s b.s with l | l | l
      · exact .inl (.inr ⟨h, .inr ⟨k, l⟩⟩)
      · exact .inr (.inl (v3_ext h k l))
      · exact .inr (.inr (.inr ⟨h.symm, .inr ⟨k.symm, l⟩⟩))
    · exact .inr (.inr (.inr ⟨h.symm, .inl k⟩))
  · exact .inr (.inr (.inl h))
theorem below_trans {a b c : V3} (h : below a b) (k : below b c) : below a c := by
  unfold below at *
  rcases h with h | ⟨h, h'⟩
  · rcases k with k | ⟨k, _⟩
    · exact .inl (by omega)
    · exact .inl (by omega)
  · rcases k with k | ⟨k, k'⟩
    · exact .inl (by omega)
    · refine .inr ⟨by omega, ?_⟩
      rcases h' with h' | ⟨h', h2⟩
      · rcases k' with k' | ⟨k', _⟩
        · exact .inl (by omega)
        · exact .inl (by omega)
      · rcases k' with k' | ⟨k', k2⟩
        · exact .inl (by omega)
        · exact .inr ⟨by omega, lss_trans _ _ _ h2 k2⟩
theorem below_irrefl (a : V3) : ¬ below a a := by
  unfold below
  rw [lss_irrefl]
  rintro (h | ⟨_, h | ⟨_, h⟩⟩)
  · omega
  · omega
  · cases h
theorem cmp_lt {a b : V3} (h : below a b) : cmpV a b = -1 := by
  unfold cmpV
  rcases h with h | ⟨h, h2 | ⟨k, l⟩⟩
  · rw [cI_lt h]; rfl
  · rw [h, cI_eq, cI_lt h2]; rfl
  · rw [h, cI_eq, k, cI_eq, cS_lt l]; rfl
theorem cmp_gt {a b : V3} (h : below b a) : cmpV a b = 1 := by
  unfold cmpV
  rcases h with h | ⟨h, h2 | ⟨k, l⟩⟩
  · rw [cI_gt h]; rfl
  · rw [h, cI_eq, cI_gt h2]; rfl
  · rw [h, cI_eq, k, cI_eq, cS_gt l]; rfl
theorem cmp_eq (a : V3) : cmpV a a = 0 := by
  unfold cmpV
  rw [cI_eq, cI_eq, cS_eq]
  rfl
end Go.Vl
set_option maxRecDepth 20000
namespace Go.Proofs.Ytggmifnkgcladaa
open Go Go.Vc
open Go.Vl
def intC (n : Int) : List Value := [.int .i64 n]
theorem intC_len (n : Int) : (intC n).length = 1 := rfl
theorem int_get {xs : List Int} {i : Nat} (h : i < xs.length) : xs[i]? = some (xs.getD i 0) := by simp [List.getElem?_eq_getElem h]
def orF : List Int → Int
  | [] => 0
  | x :: xs => if x != 0 then x else orF xs
theorem orF_drop {xs : List Int} {i : Nat} (h : i < xs.length) : orF (xs.drop i) = if xs.getD i 0 != 0 then xs.getD i 0 else orF (xs.drop (i + 1)) := by
  rw [List.drop_eq_getElem_cons h, orF]
  simp [h]
theorem orF_three (x y z : Int) : orF [x, y, z] = if x != 0 then x else if y != 0 then y else z := by
  unfold orF orF orF orF
  by_cases h : z = 0 <;> simp [h]
abbrev v3D : V3 := ⟨0, 0, e0⟩
theorem v3_get {l : List V3} {i : Nat} (h : i < l.length) : l[i]? = some (l.getD i v3D) := by simp [List.getElem?_eq_getElem h]
theorem veq_api_Value : VEq Try.prog ty_api_Value ty_int ty_int64 ty_string := ⟨by kernel_rfl, by kernel_rfl, by kernel_rfl, by kernel_rfl, by kernel_rfl, by kernel_rfl, by kernel_rfl⟩
def bad1 (v : V3) : Bool := (((decide (v.k < 0) || decide (3 < v.k)) || ((v.k != 3) && !seq v.s ⟨#[]⟩)) || ((v.k == 0) && (v.n != 0))) || ((v.k == 3) && (v.n != 0))
def bad2 (v : V3) : Bool := ((v.k == 2) && (v.n != 0)) && (v.n != 1)
def lowF (a b : V3) : Bool := decide (a.k < b.k) || ((a.k == b.k) && (decide (a.n < b.n) || ((a.n == b.n) && slt a.s b.s)))
theorem lowF_iff (a b : V3) : lowF a b = true ↔ below a b := by
  unfold lowF below
  rw [slt_lists]
  simp [Bool.or_eq_true, Bool.and_eq_true]
theorem rcmp (a b : V3) : cmpV a b = (if veq a.k a.n a.s b.k b.n b.s then 0 else if lowF a b then -1 else 1) := by
  rcases tri_V a b with h | h | h
  · have h1 : veq a.k a.n a.s b.k b.n b.s = false := by
      cases e : veq a.k a.n a.s b.k b.n b.s
      · rfl
      · rw [veq_iff] at e; subst e; exact absurd h (below_irrefl _)
    rw [h1, if_neg (by simp), if_pos ((lowF_iff a b).2 h), cmp_lt h]
  · rw [if_pos ((veq_iff a b).2 h), h, cmp_eq]
  · have h1 : veq a.k a.n a.s b.k b.n b.s = false := by
      cases e : veq a.k a.n a.s b.k b.n b.s
      · rfl
      · rw [veq_iff] at e; subst e; exact absurd h (below_irrefl _)
    have h2 : lowF a b = false := by
      cases e : lowF a b
      · rfl
      · exact absurd (below_trans ((lowF_iff a b).1 e) h) (below_irrefl _)
    rw [h1, h2, cmp_gt h]
    rfl
theorem c_cmp_isNaN_int (a : Int) : CallTy Try.prog f_cmp_isNaN_int [.is (.int .i64 a)] (.is (.bool false)) :=
  CallTy.of (fn := Try.f63) Try.func63 (n := 6) rfl rfl rfl (fun _ _ => by kernel_rfl) fun E W => by
  repeat refine J.seq ?_
  refine J.plain ?_
  refine JO.t (ob_assign rfl) rfl ?_
  refine JO.nil ?_
  repeat (first | refine JX.next ?_ | refine JX.normal_block ?_)
  refine J.sel [0] (.cons rfl .nil) ?_
  repeat refine J.seq ?_
  refine J.plain ?_
  refine JO.t (ob_move rfl) rfl ?_
  refine JO.t (ob_move rfl) rfl ?_
  refine JO.t (ob_neq rfl rfl) rfl ?_
  refine JO.t (ob_assign rfl) rfl ?_
  refine JO.nil ?_
  repeat (first | refine JX.next ?_ | refine JX.normal_block ?_)
  refine J.sel [2] (.cons rfl .nil) ?_
  repeat refine J.seq ?_
  refine J.ret ?_
  repeat (first | refine JX.ret_pass ?_ | refine JX.ret_block ?_)
  exact JX.ret1is rfl rfl (by simp)
theorem c_cmp_isNaN_int64 (a : Int) : CallTy Try.prog f_cmp_isNaN_int64 [.is (.int .i64 a)] (.is (.bool false)) :=
  CallTy.of (fn := Try.f64) Try.func64 (n := 6) rfl rfl rfl (fun _ _ => by kernel_rfl) fun E W => by
  repeat refine J.seq ?_
  refine J.plain ?_
  refine JO.t (ob_assign rfl) rfl ?_
  refine JO.nil ?_
  repeat (first | refine JX.next ?_ | refine JX.normal_block ?_)
  refine J.sel [0] (.cons rfl .nil) ?_
  repeat refine J.seq ?_
  refine J.plain ?_
  refine JO.t (ob_move rfl) rfl ?_
  refine JO.t (ob_move rfl) rfl ?_
  refine JO.t (ob_neq rfl rfl) rfl ?_
  refine JO.t (ob_assign rfl) rfl ?_
  refine JO.nil ?_
  repeat (first | refine JX.next ?_ | refine JX.normal_block ?_)
  refine J.sel [2] (.cons rfl .nil) ?_
  repeat refine J.seq ?_
  refine J.ret ?_
  repeat (first | refine JX.ret_pass ?_ | refine JX.ret_block ?_)
  exact JX.ret1is rfl rfl (by simp)
theorem c_cmp_isNaN_string (a : ByteArray) : CallTy Try.prog f_cmp_isNaN_string [.is (.string a)] (.is (.bool false)) :=
  CallTy.of (fn := Try.f65) Try.func65 (n := 6) rfl rfl rfl (fun _ _ => by kernel_rfl) fun E W => by
  repeat refine J.seq ?_
  refine J.plain ?_
  refine JO.t (ob_assign rfl) rfl ?_
  refine JO.nil ?_
  repeat (first | refine JX.next ?_ | refine JX.normal_block ?_)
  refine J.sel [0] (.cons rfl .nil) ?_
  repeat refine J.seq ?_
  refine J.plain ?_
  refine JO.t (ob_move rfl) rfl ?_
  refine JO.t (ob_move rfl) rfl ?_
  refine JO.t (ob_sneq rfl rfl) rfl ?_
  refine JO.t (ob_assign rfl) rfl ?_
  refine JO.nil ?_
  repeat (first | refine JX.next ?_ | refine JX.normal_block ?_)
  refine J.sel [2] (.cons rfl .nil) ?_
  repeat refine J.seq ?_
  refine J.ret ?_
  repeat (first | refine JX.ret_pass ?_ | refine JX.ret_block ?_)
  exact JX.ret1is rfl rfl (by rw [seq_self]; rfl)
theorem c_cmp_Compare_int (a b : Int) : CallTy Try.prog f_cmp_Compare_int [.is (.int .i64 a), .is (.int .i64 b)] (.is (.int .i64 (cI a b))) :=
  CallTy.of (fn := Try.f59) Try.func59 (n := 20) rfl rfl rfl (fun _ _ => by kernel_rfl) fun E W => by
  repeat refine J.seq ?_
  refine J.plain ?_
  refine JO.t (ob_assign rfl) rfl ?_
  refine JO.nil ?_
  repeat (first | refine JX.next ?_ | refine JX.normal_block ?_)
  refine J.sel [0, 1] (.cons rfl (.cons rfl .nil)) ?_
  repeat refine J.seq ?_
  refine J.plain ?_
  refine JO.t (ob_move rfl) rfl ?_
  refine JO.t (ob_call rfl (c_cmp_isNaN_int _) (.one rfl .nil)) rfl ?_
  refine JO.t (ob_assign rfl) rfl ?_
  refine JO.nil ?_
  repeat (first | refine JX.next ?_ | refine JX.normal_block ?_)
  refine J.sel [0, 1, 5] (.cons rfl (.cons rfl (.cons rfl .nil))) ?_
  repeat refine J.seq ?_
  refine J.plain ?_
  refine JO.t (ob_move rfl) rfl ?_
  refine JO.t (ob_call rfl (c_cmp_isNaN_int _) (.one rfl .nil)) rfl ?_
  refine JO.t (ob_assign rfl) rfl ?_
  refine JO.nil ?_
  repeat (first | refine JX.next ?_ | refine JX.normal_block ?_)
  refine J.sel [0, 1, 5, 6] (.cons rfl (.cons rfl (.cons rfl (.cons rfl .nil)))) ?_
  repeat refine J.seq ?_
  refine J.plain ?_
  refine JO.t (ob_move rfl) rfl ?_
  refine JO.nil ?_
  repeat (first | refine JX.next ?_ | refine JX.normal_block ?_)
  refine J.sel [0, 1, 6, 11] (.cons rfl (.cons rfl (.cons rfl (.cons rfl .nil)))) ?_
  repeat refine J.seq ?_
  refine J.cond rfl (fun ht11 => ?_) (fun ht11 => ?_)
  ·
    try simp only [decide_eq_true_eq, decide_eq_false_iff_not] at ht11
    repeat refine J.seq ?_
    refine J.plain ?_
    refine JO.t (ob_move rfl) rfl ?_
    refine JO.nil ?_
    repeat (first | refine JX.next ?_ | refine JX.normal_block ?_)
    refine J.sel [12] (.cons rfl .nil) ?_
    repeat refine J.seq ?_
    refine J.cond rfl (fun ht12 => ?_) (fun ht12 => ?_)
    ·
      try simp only [decide_eq_true_eq, decide_eq_false_iff_not] at ht12
      repeat refine J.seq ?_
      refine J.plain ?_
      refine JO.t (ob_assign rfl) rfl ?_
      refine JO.nil ?_
      repeat (first | refine JX.next ?_ | refine JX.normal_block ?_)
      refine J.sel [4] (.cons rfl .nil) ?_
      repeat refine J.seq ?_
      refine J.ret ?_
      repeat (first | refine JX.ret_pass ?_ | refine JX.ret_block ?_)
      exact JX.ret1is rfl rfl (by simp at ht11)
    ·
      try simp only [decide_eq_true_eq, decide_eq_false_iff_not] at ht12
      refine J.skip ?_
      repeat (first | refine JX.next ?_ | refine JX.normal_block ?_)
      repeat refine J.seq ?_
      refine J.plain ?_
      refine JO.t (ob_assign rfl) rfl ?_
      refine JO.nil ?_
      repeat (first | refine JX.next ?_ | refine JX.normal_block ?_)
      refine J.sel [4] (.cons rfl .nil) ?_
      repeat refine J.seq ?_
      refine J.ret ?_
      repeat (first | refine JX.ret_pass ?_ | refine JX.ret_block ?_)
      exact JX.ret1is rfl rfl (by simp at ht11)
  ·
    try simp only [decide_eq_true_eq, decide_eq_false_iff_not] at ht11
    refine J.skip ?_
    repeat (first | refine JX.next ?_ | refine JX.normal_block ?_)
    repeat refine J.seq ?_
    refine J.plain ?_
    refine JO.t (ob_move rfl) rfl ?_
    refine JO.nil ?_
    repeat (first | refine JX.next ?_ | refine JX.normal_block ?_)
    refine J.sel [0, 1, 13] (.cons rfl (.cons rfl (.cons rfl .nil))) ?_
    repeat refine J.seq ?_
    refine J.cond rfl (fun ht13 => ?_) (fun ht13 => ?_)
    ·
      try simp only [decide_eq_true_eq, decide_eq_false_iff_not] at ht13
      repeat refine J.seq ?_
      refine J.plain ?_
      refine JO.t (ob_assign rfl) rfl ?_
      refine JO.nil ?_
      repeat (first | refine JX.next ?_ | refine JX.normal_block ?_)
      refine J.sel [4] (.cons rfl .nil) ?_
      repeat refine J.seq ?_
      refine J.ret ?_
      repeat (first | refine JX.ret_pass ?_ | refine JX.ret_block ?_)
      exact JX.ret1is rfl rfl (by simp at ht13)
    ·
      try simp only [decide_eq_true_eq, decide_eq_false_iff_not] at ht13
      refine J.skip ?_
      repeat (first | refine JX.next ?_ | refine JX.normal_block ?_)
      repeat refine J.seq ?_
      refine J.plain ?_
      refine JO.t (ob_move rfl) rfl ?_
      refine JO.t (ob_move rfl) rfl ?_
      refine JO.t (ob_lss rfl rfl) rfl ?_
      refine JO.nil ?_
      repeat (first | refine JX.next ?_ | refine JX.normal_block ?_)
      refine J.sel [0, 1, 16] (.cons rfl (.cons rfl (.cons rfl .nil))) ?_
      repeat refine J.seq ?_
      refine J.cond rfl (fun ht16 => ?_) (fun ht16 => ?_)
      ·
        try simp only [decide_eq_true_eq, decide_eq_false_iff_not] at ht16
        repeat refine J.seq ?_
        refine J.plain ?_
        refine JO.t (ob_assign rfl) rfl ?_
        refine JO.nil ?_
        repeat (first | refine JX.next ?_ | refine JX.normal_block ?_)
        refine J.sel [4] (.cons rfl .nil) ?_
        repeat refine J.seq ?_
        refine J.ret ?_
        repeat (first | refine JX.ret_pass ?_ | refine JX.ret_block ?_)
        exact JX.ret1is rfl rfl (by unfold cI; rw [if_pos (by simpa using ht16)])
      ·
        try simp only [decide_eq_true_eq, decide_eq_false_iff_not] at ht16
        refine J.skip ?_
        repeat (first | refine JX.next ?_ | refine JX.normal_block ?_)
        repeat refine J.seq ?_
        refine J.plain ?_
        refine JO.t (ob_move rfl) rfl ?_
        refine JO.t (ob_move rfl) rfl ?_
        refine JO.t (ob_gtr rfl rfl) rfl ?_
        refine JO.nil ?_
        repeat (first | refine JX.next ?_ | refine JX.normal_block ?_)
        refine J.sel [19] (.cons rfl .nil) ?_
        repeat refine J.seq ?_
        refine J.cond rfl (fun ht19 => ?_) (fun ht19 => ?_)
        ·
          try simp only [decide_eq_true_eq, decide_eq_false_iff_not] at ht19
          repeat refine J.seq ?_
          refine J.plain ?_
          refine JO.t (ob_assign rfl) rfl ?_
          refine JO.nil ?_
          repeat (first | refine JX.next ?_ | refine JX.normal_block ?_)
          refine J.sel [4] (.cons rfl .nil) ?_
          repeat refine J.seq ?_
          refine J.ret ?_
          repeat (first | refine JX.ret_pass ?_ | refine JX.ret_block ?_)
          exact JX.ret1is rfl rfl (by unfold cI; rw [if_neg (by simpa using ht16), if_pos (by simpa using ht19)])
        ·
          try simp only [decide_eq_true_eq, decide_eq_false_iff_not] at ht19
          refine J.skip ?_
          repeat (first | refine JX.next ?_ | refine JX.normal_block ?_)
          repeat refine J.seq ?_
          refine J.plain ?_
          refine JO.t (ob_assign rfl) rfl ?_
          refine JO.nil ?_
          repeat (first | refine JX.next ?_ | refine JX.normal_block ?_)
          refine J.sel [4] (.cons rfl .nil) ?_
          repeat refine J.seq ?_
          refine J.ret ?_
          repeat (first | refine JX.ret_pass ?_ | refine JX.ret_block ?_)
          exact JX.ret1is rfl rfl (by unfold cI; rw [if_neg (by simpa using ht16), if_neg (by simpa using ht19)])
theorem c_cmp_Compare_int64 (a b : Int) : CallTy Try.prog f_cmp_Compare_int64 [.is (.int .i64 a), .is (.int .i64 b)] (.is (.int .i64 (cI a b))) :=
  CallTy.of (fn := Try.f60) Try.func60 (n := 20) rfl rfl rfl (fun _ _ => by kernel_rfl) fun E W => by
  repeat refine J.seq ?_
  refine J.plain ?_
  refine JO.t (ob_assign rfl) rfl ?_
  refine JO.nil ?_
  repeat (first | refine JX.next ?_ | refine JX.normal_block ?_)
  refine J.sel [0, 1] (.cons rfl (.cons rfl .nil)) ?_
  repeat refine J.seq ?_
  refine J.plain ?_
  refine JO.t (ob_move rfl) rfl ?_
  refine JO.t (ob_call rfl (c_cmp_isNaN_int64 _) (.one rfl .nil)) rfl ?_
  refine JO.t (ob_assign rfl) rfl ?_
  refine JO.nil ?_
  repeat (first | refine JX.next ?_ | refine JX.normal_block ?_)
  refine J.sel [0, 1, 5] (.cons rfl (.cons rfl (.cons rfl .nil))) ?_
  repeat refine J.seq ?_
  refine J.plain ?_
  refine JO.t (ob_move rfl) rfl ?_
  refine JO.t (ob_call rfl (c_cmp_isNaN_int64 _) (.one rfl .nil)) rfl ?_
  refine JO.t (ob_assign rfl) rfl ?_
  refine JO.nil ?_
  repeat (first | refine JX.next ?_ | refine JX.normal_block ?_)
  refine J.sel [0, 1, 5, 6] (.cons rfl (.cons rfl (.cons rfl (.cons rfl .nil)))) ?_
  repeat refine J.seq ?_
  refine J.plain ?_
  refine JO.t (ob_move rfl) rfl ?_
  refine JO.nil ?_
  repeat (first | refine JX.next ?_ | refine JX.normal_block ?_)
  refine J.sel [0, 1, 6, 11] (.cons rfl (.cons rfl (.cons rfl (.cons rfl .nil)))) ?_
  repeat refine J.seq ?_
  refine J.cond rfl (fun ht11 => ?_) (fun ht11 => ?_)
  ·
    try simp only [decide_eq_true_eq, decide_eq_false_iff_not] at ht11
    repeat refine J.seq ?_
    refine J.plain ?_
    refine JO.t (ob_move rfl) rfl ?_
    refine JO.nil ?_
    repeat (first | refine JX.next ?_ | refine JX.normal_block ?_)
    refine J.sel [12] (.cons rfl .nil) ?_
    repeat refine J.seq ?_
    refine J.cond rfl (fun ht12 => ?_) (fun ht12 => ?_)
    ·
      try simp only [decide_eq_true_eq, decide_eq_false_iff_not] at ht12
      repeat refine J.seq ?_
      refine J.plain ?_
      refine JO.t (ob_assign rfl) rfl ?_
      refine JO.nil ?_
      repeat (first | refine JX.next ?_ | refine JX.normal_block ?_)
      refine J.sel [4] (.cons rfl .nil) ?_
      repeat refine J.seq ?_
      refine J.ret ?_
      repeat (first | refine JX.ret_pass ?_ | refine JX.ret_block ?_)
      exact JX.ret1is rfl rfl (by simp at ht11)
    ·
      try simp only [decide_eq_true_eq, decide_eq_false_iff_not] at ht12
      refine J.skip ?_
      repeat (first | refine JX.next ?_ | refine JX.normal_block ?_)
      repeat refine J.seq ?_
      refine J.plain ?_
      refine JO.t (ob_assign rfl) rfl ?_
      refine JO.nil ?_
      repeat (first | refine JX.next ?_ | refine JX.normal_block ?_)
      refine J.sel [4] (.cons rfl .nil) ?_
      repeat refine J.seq ?_
      refine J.ret ?_
      repeat (first | refine JX.ret_pass ?_ | refine JX.ret_block ?_)
      exact JX.ret1is rfl rfl (by simp at ht11)
  ·
    try simp only [decide_eq_true_eq, decide_eq_false_iff_not] at ht11
    refine J.skip ?_
    repeat (first | refine JX.next ?_ | refine JX.normal_block ?_)
    repeat refine J.seq ?_
    refine J.plain ?_
    refine JO.t (ob_move rfl) rfl ?_
    refine JO.nil ?_
    repeat (first | refine JX.next ?_ | refine JX.normal_block ?_)
    refine J.sel [0, 1, 13] (.cons rfl (.cons rfl (.cons rfl .nil))) ?_
    repeat refine J.seq ?_
    refine J.cond rfl (fun ht13 => ?_) (fun ht13 => ?_)
    ·
      try simp only [decide_eq_true_eq, decide_eq_false_iff_not] at ht13
      repeat refine J.seq ?_
      refine J.plain ?_
      refine JO.t (ob_assign rfl) rfl ?_
      refine JO.nil ?_
      repeat (first | refine JX.next ?_ | refine JX.normal_block ?_)
      refine J.sel [4] (.cons rfl .nil) ?_
      repeat refine J.seq ?_
      refine J.ret ?_
      repeat (first | refine JX.ret_pass ?_ | refine JX.ret_block ?_)
      exact JX.ret1is rfl rfl (by simp at ht13)
    ·
      try simp only [decide_eq_true_eq, decide_eq_false_iff_not] at ht13
      refine J.skip ?_
      repeat (first | refine JX.next ?_ | refine JX.normal_block ?_)
      repeat refine J.seq ?_
      refine J.plain ?_
      refine JO.t (ob_move rfl) rfl ?_
      refine JO.t (ob_move rfl) rfl ?_
      refine JO.t (ob_lss rfl rfl) rfl ?_
      refine JO.nil ?_
      repeat (first | refine JX.next ?_ | refine JX.normal_block ?_)
      refine J.sel [0, 1, 16] (.cons rfl (.cons rfl (.cons rfl .nil))) ?_
      repeat refine J.seq ?_
      refine J.cond rfl (fun ht16 => ?_) (fun ht16 => ?_)
      ·
        try simp only [decide_eq_true_eq, decide_eq_false_iff_not] at ht16
        repeat refine J.seq ?_
        refine J.plain ?_
        refine JO.t (ob_assign rfl) rfl ?_
        refine JO.nil ?_
        repeat (first | refine JX.next ?_ | refine JX.normal_block ?_)
        refine J.sel [4] (.cons rfl .nil) ?_
        repeat refine J.seq ?_
        refine J.ret ?_
        repeat (first | refine JX.ret_pass ?_ | refine JX.ret_block ?_)
        exact JX.ret1is rfl rfl (by unfold cI; rw [if_pos (by simpa using ht16)])
      ·
        try simp only [decide_eq_true_eq, decide_eq_false_iff_not] at ht16
        refine J.skip ?_
        repeat (first | refine JX.next ?_ | refine JX.normal_block ?_)
        repeat refine J.seq ?_
        refine J.plain ?_
        refine JO.t (ob_move rfl) rfl ?_
        refine JO.t (ob_move rfl) rfl ?_
        refine JO.t (ob_gtr rfl rfl) rfl ?_
        refine JO.nil ?_
        repeat (first | refine JX.next ?_ | refine JX.normal_block ?_)
        refine J.sel [19] (.cons rfl .nil) ?_
        repeat refine J.seq ?_
        refine J.cond rfl (fun ht19 => ?_) (fun ht19 => ?_)
        ·
          try simp only [decide_eq_true_eq, decide_eq_false_iff_not] at ht19
          repeat refine J.seq ?_
          refine J.plain ?_
          refine JO.t (ob_assign rfl) rfl ?_
          refine JO.nil ?_
          repeat (first | refine JX.next ?_ | refine JX.normal_block ?_)
          refine J.sel [4] (.cons rfl .nil) ?_
          repeat refine J.seq ?_
          refine J.ret ?_
          repeat (first | refine JX.ret_pass ?_ | refine JX.ret_block ?_)
          exact JX.ret1is rfl rfl (by unfold cI; rw [if_neg (by simpa using ht16), if_pos (by simpa using ht19)])
        ·
          try simp only [decide_eq_true_eq, decide_eq_false_iff_not] at ht19
          refine J.skip ?_
          repeat (first | refine JX.next ?_ | refine JX.normal_block ?_)
          repeat refine J.seq ?_
          refine J.plain ?_
          refine JO.t (ob_assign rfl) rfl ?_
          refine JO.nil ?_
          repeat (first | refine JX.next ?_ | refine JX.normal_block ?_)
          refine J.sel [4] (.cons rfl .nil) ?_
          repeat refine J.seq ?_
          refine J.ret ?_
          repeat (first | refine JX.ret_pass ?_ | refine JX.ret_block ?_)
          exact JX.ret1is rfl rfl (by unfold cI; rw [if_neg (by simpa using ht16), if_neg (by simpa using ht19)])
theorem c_cmp_Compare_string (a b : ByteArray) : CallTy Try.prog f_cmp_Compare_string [.is (.string a), .is (.string b)] (.is (.int .i64 (cS a b))) :=
  CallTy.of (fn := Try.f61) Try.func61 (n := 20) rfl rfl rfl (fun _ _ => by kernel_rfl) fun E W => by
  repeat refine J.seq ?_
  refine J.plain ?_
  refine JO.t (ob_assign rfl) rfl ?_
  refine JO.nil ?_
  repeat (first | refine JX.next ?_ | refine JX.normal_block ?_)
  refine J.sel [0, 1] (.cons rfl (.cons rfl .nil)) ?_
  repeat refine J.seq ?_
  refine J.plain ?_
  refine JO.t (ob_move rfl) rfl ?_
  refine JO.t (ob_call rfl (c_cmp_isNaN_string _) (.one rfl .nil)) rfl ?_
  refine JO.t (ob_assign rfl) rfl ?_
  refine JO.nil ?_
  repeat (first | refine JX.next ?_ | refine JX.normal_block ?_)
  refine J.sel [0, 1, 5] (.cons rfl (.cons rfl (.cons rfl .nil))) ?_
  repeat refine J.seq ?_
  refine J.plain ?_
  refine JO.t (ob_move rfl) rfl ?_
  refine JO.t (ob_call rfl (c_cmp_isNaN_string _) (.one rfl .nil)) rfl ?_
  refine JO.t (ob_assign rfl) rfl ?_
  refine JO.nil ?_
  repeat (first | refine JX.next ?_ | refine JX.normal_block ?_)
  refine J.sel [0, 1, 5, 6] (.cons rfl (.cons rfl (.cons rfl (.cons rfl .nil)))) ?_
  repeat refine J.seq ?_
  refine J.plain ?_
  refine JO.t (ob_move rfl) rfl ?_
  refine JO.nil ?_
  repeat (first | refine JX.next ?_ | refine JX.normal_block ?_)
  refine J.sel [0, 1, 6, 11] (.cons rfl (.cons rfl (.cons rfl (.cons rfl .nil)))) ?_
  repeat refine J.seq ?_
  refine J.cond rfl (fun ht11 => ?_) (fun ht11 => ?_)
  ·
    try simp only [decide_eq_true_eq, decide_eq_false_iff_not] at ht11
    repeat refine J.seq ?_
    refine J.plain ?_
    refine JO.t (ob_move rfl) rfl ?_
    refine JO.nil ?_
    repeat (first | refine JX.next ?_ | refine JX.normal_block ?_)
    refine J.sel [12] (.cons rfl .nil) ?_
    repeat refine J.seq ?_
    refine J.cond rfl (fun ht12 => ?_) (fun ht12 => ?_)
    ·
      try simp only [decide_eq_true_eq, decide_eq_false_iff_not] at ht12
      repeat refine J.seq ?_
      refine J.plain ?_
      refine JO.t (ob_assign rfl) rfl ?_
      refine JO.nil ?_
      repeat (first | refine JX.next ?_ | refine JX.normal_block ?_)
      refine J.sel [4] (.cons rfl .nil) ?_
      repeat refine J.seq ?_
      refine J.ret ?_
      repeat (first | refine JX.ret_pass ?_ | refine JX.ret_block ?_)
      exact JX.ret1is rfl rfl (by simp at ht11)
    ·
      try simp only [decide_eq_true_eq, decide_eq_false_iff_not] at ht12
      refine J.skip ?_
      repeat (first | refine JX.next ?_ | refine JX.normal_block ?_)
      repeat refine J.seq ?_
      refine J.plain ?_
      refine JO.t (ob_assign rfl) rfl ?_
      refine JO.nil ?_
      repeat (first | refine JX.next ?_ | refine JX.normal_block ?_)
      refine J.sel [4] (.cons rfl .nil) ?_
      repeat refine J.seq ?_
      refine J.ret ?_
      repeat (first | refine JX.ret_pass ?_ | refine JX.ret_block ?_)
      exact JX.ret1is rfl rfl (by simp at ht11)
  ·
    try simp only [decide_eq_true_eq, decide_eq_false_iff_not] at ht11
    refine J.skip ?_
    repeat (first | refine JX.next ?_ | refine JX.normal_block ?_)
    repeat refine J.seq ?_
    refine J.plain ?_
    refine JO.t (ob_move rfl) rfl ?_
    refine JO.nil ?_
    repeat (first | refine JX.next ?_ | refine JX.normal_block ?_)
    refine J.sel [0, 1, 13] (.cons rfl (.cons rfl (.cons rfl .nil))) ?_
    repeat refine J.seq ?_
    refine J.cond rfl (fun ht13 => ?_) (fun ht13 => ?_)
    ·
      try simp only [decide_eq_true_eq, decide_eq_false_iff_not] at ht13
      repeat refine J.seq ?_
      refine J.plain ?_
      refine JO.t (ob_assign rfl) rfl ?_
      refine JO.nil ?_
      repeat (first | refine JX.next ?_ | refine JX.normal_block ?_)
      refine J.sel [4] (.cons rfl .nil) ?_
      repeat refine J.seq ?_
      refine J.ret ?_
      repeat (first | refine JX.ret_pass ?_ | refine JX.ret_block ?_)
      exact JX.ret1is rfl rfl (by simp at ht13)
    ·
      try simp only [decide_eq_true_eq, decide_eq_false_iff_not] at ht13
      refine J.skip ?_
      repeat (first | refine JX.next ?_ | refine JX.normal_block ?_)
      repeat refine J.seq ?_
      refine J.plain ?_
      refine JO.t (ob_move rfl) rfl ?_
      refine JO.t (ob_move rfl) rfl ?_
      refine JO.t (ob_slss rfl rfl) rfl ?_
      refine JO.nil ?_
      repeat (first | refine JX.next ?_ | refine JX.normal_block ?_)
      refine J.sel [0, 1, 16] (.cons rfl (.cons rfl (.cons rfl .nil))) ?_
      repeat refine J.seq ?_
      refine J.cond rfl (fun ht16 => ?_) (fun ht16 => ?_)
      ·
        try simp only [decide_eq_true_eq, decide_eq_false_iff_not] at ht16
        repeat refine J.seq ?_
        refine J.plain ?_
        refine JO.t (ob_assign rfl) rfl ?_
        refine JO.nil ?_
        repeat (first | refine JX.next ?_ | refine JX.normal_block ?_)
        refine J.sel [4] (.cons rfl .nil) ?_
        repeat refine J.seq ?_
        refine J.ret ?_
        repeat (first | refine JX.ret_pass ?_ | refine JX.ret_block ?_)
        exact JX.ret1is rfl rfl (by unfold cS; rw [if_pos (by simpa using ht16)])
      ·
        try simp only [decide_eq_true_eq, decide_eq_false_iff_not] at ht16
        refine J.skip ?_
        repeat (first | refine JX.next ?_ | refine JX.normal_block ?_)
        repeat refine J.seq ?_
        refine J.plain ?_
        refine JO.t (ob_move rfl) rfl ?_
        refine JO.t (ob_move rfl) rfl ?_
        refine JO.t (ob_sgtr rfl rfl) rfl ?_
        refine JO.nil ?_
        repeat (first | refine JX.next ?_ | refine JX.normal_block ?_)
        refine J.sel [19] (.cons rfl .nil) ?_
        repeat refine J.seq ?_
        refine J.cond rfl (fun ht19 => ?_) (fun ht19 => ?_)
        ·
          try simp only [decide_eq_true_eq, decide_eq_false_iff_not] at ht19
          repeat refine J.seq ?_
          refine J.plain ?_
          refine JO.t (ob_assign rfl) rfl ?_
          refine JO.nil ?_
          repeat (first | refine JX.next ?_ | refine JX.normal_block ?_)
          refine J.sel [4] (.cons rfl .nil) ?_
          repeat refine J.seq ?_
          refine J.ret ?_
          repeat (first | refine JX.ret_pass ?_ | refine JX.ret_block ?_)
          exact JX.ret1is rfl rfl (by unfold cS; rw [if_neg (by simpa using ht16), if_pos (by simpa using ht19)])
        ·
          try simp only [decide_eq_true_eq, decide_eq_false_iff_not] at ht19
          refine J.skip ?_
          repeat (first | refine JX.next ?_ | refine JX.normal_block ?_)
          repeat refine J.seq ?_
          refine J.plain ?_
          refine JO.t (ob_assign rfl) rfl ?_
          refine JO.nil ?_
          repeat (first | refine JX.next ?_ | refine JX.normal_block ?_)
          refine J.sel [4] (.cons rfl .nil) ?_
          repeat refine J.seq ?_
          refine J.ret ?_
          repeat (first | refine JX.ret_pass ?_ | refine JX.ret_block ?_)
          exact JX.ret1is rfl rfl (by unfold cS; rw [if_neg (by simpa using ht16), if_neg (by simpa using ht19)])
theorem c_cmp_Or_int (xs : List Int) (hl : xs.length ≤ 9223372036854775806) : CallTy Try.prog f_cmp_Or_int [.rep (SlG intC 1 xs)] (.is (.int .i64 (orF xs))) :=
  CallTy.of (fn := Try.f58) Try.func58 (n := 18) rfl rfl rfl (fun _ _ => by kernel_rfl) fun E W => by
  refine J.openSl (s := 0) rfl (fun a len cap b o hlen ha => ?_)
  subst hlen
  repeat refine J.seq ?_
  refine J.plain ?_
  refine JO.t (ob_assign rfl) rfl ?_
  refine JO.nil ?_
  repeat (first | refine JX.next ?_ | refine JX.normal_block ?_)
  refine J.sel [0] (.cons rfl .nil) ?_
  repeat refine J.seq ?_
  refine J.plain ?_
  refine JO.t (ob_assign rfl) rfl ?_
  refine JO.nil ?_
  repeat (first | refine JX.next ?_ | refine JX.normal_block ?_)
  refine J.sel [0, 3] (.cons rfl (.cons rfl .nil)) ?_
  repeat refine J.seq ?_
  refine J.plain ?_
  refine JO.t (ob_move rfl) rfl ?_
  refine JO.t (ob_len un_sl_int rfl) rfl ?_
  refine JO.t (ob_move rfl) rfl ?_
  refine JO.nil ?_
  repeat (first | refine JX.next ?_ | refine JX.normal_block ?_)
  refine J.sel [3, 6, 7, 8] (.cons rfl (.cons rfl (.cons rfl (.cons rfl .nil)))) ?_
  repeat refine J.seq ?_
  refine J.block ?_
  repeat refine J.seq ?_
  refine J.loopF (α := Nat) (fun i => [(3, .is (.int .i64 0)), (6, .is (.slice a xs.length cap)), (7, .is (.int .i64 (xs.length : Nat))), (8, .is (.int .i64 (i : Nat)))]) (fun i => i ≤ xs.length ∧ orF (xs.drop i) = orF xs) (fun i => xs.length - i) 0 [3, 6, 7, 8] (.cons rfl (.cons rfl (.cons rfl (.cons rfl .nil)))) ⟨by omega, rfl⟩ fun i ⟨hi, hs⟩ => ?_
  repeat refine J.seq ?_
  refine J.plain ?_
  refine JO.t (ob_lss rfl rfl) rfl ?_
  refine JO.nil ?_
  repeat (first | refine JX.next ?_ | refine JX.normal_block ?_)
  refine J.sel [3, 6, 7, 8, 9] (.cons rfl (.cons rfl (.cons rfl (.cons rfl (.cons rfl .nil))))) ?_
  repeat refine J.seq ?_
  refine J.cond rfl (fun ht9 => ?_) (fun ht9 => ?_)
  ·
    try simp only [decide_eq_true_eq, decide_eq_false_iff_not] at ht9
    refine J.skip ?_
    repeat (first | refine JX.next ?_ | refine JX.normal_block ?_)
    repeat refine J.seq ?_
    refine J.block ?_
    repeat refine J.seq ?_
    refine J.plain ?_
    refine JO.t (ob_indexAddr el_sl_int rfl (ha (by omega)) rfl (by omega) (by omega)) rfl ?_
    refine JO.t (ob_loadG1 (enc := intC) (sz := 1) (len := xs.length) (i := i) (j := 0) (y := xs.getD i 0) sz_int rfl (by repeat (first | exact List.mem_cons_self | apply List.mem_cons_of_mem)) (ha (by omega)) (int_get (by omega)) (by omega) rfl) rfl ?_
    refine JO.t (ob_assign rfl) rfl ?_
    refine JO.nil ?_
    repeat (first | refine JX.next ?_ | refine JX.normal_block ?_)
    refine J.sel [3, 5, 6, 7, 8] (.cons rfl (.cons rfl (.cons rfl (.cons rfl (.cons rfl .nil))))) ?_
    repeat refine J.seq ?_
    refine J.plain ?_
    refine JO.t (ob_move rfl) rfl ?_
    refine JO.t (ob_move rfl) rfl ?_
    refine JO.t (ob_neq rfl rfl) rfl ?_
    refine JO.nil ?_
    repeat (first | refine JX.next ?_ | refine JX.normal_block ?_)
    refine J.sel [3, 5, 6, 7, 8, 14] (.cons rfl (.cons rfl (.cons rfl (.cons rfl (.cons rfl (.cons rfl .nil)))))) ?_
    repeat refine J.seq ?_
    refine J.cond rfl (fun ht14 => ?_) (fun ht14 => ?_)
    ·
      try simp only [decide_eq_true_eq, decide_eq_false_iff_not] at ht14
      repeat refine J.seq ?_
      refine J.plain ?_
      refine JO.t (ob_move rfl) rfl ?_
      refine JO.t (ob_assign rfl) rfl ?_
      refine JO.nil ?_
      repeat (first | refine JX.next ?_ | refine JX.normal_block ?_)
      refine J.sel [2] (.cons rfl .nil) ?_
      repeat refine J.seq ?_
      refine J.ret ?_
      repeat (first | refine JX.ret_pass ?_ | refine JX.ret_block ?_)
      exact JX.ret1is rfl rfl (by rw [← hs, orF_drop (i := i) (by omega), if_pos ht14])
    ·
      try simp only [decide_eq_true_eq, decide_eq_false_iff_not] at ht14
      refine J.skip ?_
      repeat (first | refine JX.next ?_ | refine JX.normal_block ?_)
      repeat refine J.seq ?_
      refine J.plain ?_
      refine JO.t (ob_addc (cc := ((i + 1 : Nat) : Int)) rfl rfl (by omega) (by omega) (by omega)) rfl ?_
      refine JO.t (ob_move rfl) rfl ?_
      refine JO.nil ?_
      repeat refine JX.normal_block ?_
      refine JX.roundS (i + 1) ?_ ?_ [3, 6, 7, 8] ?_ ?_ ?_
      · exact ⟨by omega, by rw [← hs, orF_drop (i := i) (by omega), if_neg (by rw [ht14]; simp)]⟩
      · exact (by omega)
      · exact (.cons rfl (.cons rfl (.cons rfl (.cons rfl .nil))))
      · repeat (first | exact .slnil | exact List.Sublist.refl _ | apply List.Sublist.cons_cons | apply List.Sublist.cons)
      · repeat (first | exact .slnil | exact List.Sublist.refl _ | apply List.Sublist.cons_cons | apply List.Sublist.cons)
  ·
    try simp only [decide_eq_true_eq, decide_eq_false_iff_not] at ht9
    repeat refine J.seq ?_
    refine J.exit ?_
    repeat (first | refine JX.hit ?_ | refine JX.miss rfl ?_ | refine JX.exit_pass ?_)
    repeat (first | refine JX.next ?_ | refine JX.normal_block ?_)
    repeat refine J.seq ?_
    refine J.plain ?_
    refine JO.t (ob_move rfl) rfl ?_
    refine JO.t (ob_assign rfl) rfl ?_
    refine JO.nil ?_
    repeat (first | refine JX.next ?_ | refine JX.normal_block ?_)
    refine J.sel [2] (.cons rfl .nil) ?_
    repeat refine J.seq ?_
    refine J.ret ?_
    repeat (first | refine JX.ret_pass ?_ | refine JX.ret_block ?_)
    exact JX.ret1is rfl rfl (by rw [← hs, List.drop_eq_nil_of_le (by omega)]; rfl)
theorem c_value_Compare (v w : V3) : CallTy Try.prog f_value_Compare [.is (.agg #[.int .i64 v.k, .int .i64 v.n, .string v.s]), .is (.agg #[.int .i64 w.k, .int .i64 w.n, .string w.s])] (.is (.int .i64 (cmpV v w))) :=
  CallTy.of (fn := Try.f56) Try.func56 (n := 22) rfl rfl rfl (fun _ _ => by kernel_rfl) fun E W => by
  repeat refine J.seq ?_
  refine J.plain ?_
  refine JO.box rfl rfl fun b2 => ?_
  refine JO.box rfl rfl fun b3 => ?_
  refine JO.t (ob_assign rfl) rfl ?_
  refine JO.nil ?_
  repeat (first | refine JX.next ?_ | refine JX.normal_block ?_)
  refine J.sel [2, 3] (.cons rfl (.cons rfl .nil)) ?_
  repeat refine J.seq ?_
  refine J.reg0 hmx (by kernel_rfl) (by kernel_rfl) ?_
  refine RT.t (ob_fieldAddr fo_api_Value_0 rfl) ?_
  refine RT.t (ob_ld1 sz_int rfl rfl) ?_
  refine RT.t (ob_fieldAddr fo_api_Value_0 rfl) ?_
  refine RT.t (ob_ld1 sz_int rfl rfl) ?_
  refine RT.t (ob_call rfl (c_cmp_Compare_int _ _) (.one rfl (.one rfl .nil))) ?_
  refine RT.t (ob_fieldAddr fo_api_Value_1 rfl) ?_
  refine RT.t (ob_ld1 sz_int64 rfl rfl) ?_
  refine RT.t (ob_fieldAddr fo_api_Value_1 rfl) ?_
  refine RT.t (ob_ld1 sz_int64 rfl rfl) ?_
  refine RT.t (ob_call rfl (c_cmp_Compare_int64 _ _) (.one rfl (.one rfl .nil))) ?_
  refine RT.t (ob_fieldAddr fo_api_Value_2 rfl) ?_
  refine RT.t (ob_ld1 sz_string rfl rfl) ?_
  refine RT.t (ob_fieldAddr fo_api_Value_2 rfl) ?_
  refine RT.t (ob_ld1 sz_string rfl rfl) ?_
  refine RT.t (ob_call rfl (c_cmp_Compare_string _ _) (.one rfl (.one rfl .nil))) ?_
  refine RT.t (ob_buildSlice (cs := [_, _, _]) sl_sl_int (by omega) (by omega) (.cons rfl (.cons rfl (.cons rfl .nil))) rfl rfl rfl) ?_
  refine RT.t (ob_call rfl (c_cmp_Or_int [cI v.k w.k, cI v.n w.n, cS v.s w.s] (by simp)) (.sub rfl (Sub.newSlG intC_len rfl rfl) .nil)) ?_
  refine RT.t (ob_assign rfl) ?_
  refine RT.nil ?_
  refine FinS.nil0 ?_
  repeat (first | refine JX.next ?_ | refine JX.normal_block ?_)
  refine J.sel [4] (.cons rfl .nil) ?_
  repeat refine J.seq ?_
  refine J.ret ?_
  repeat (first | refine JX.ret_pass ?_ | refine JX.ret_block ?_)
  exact JX.ret1is rfl rfl (by rw [orF_three]; rfl)
theorem c_ref01_Compare (a b : V3) : CallTy Try.prog f_ref01_Compare [.is (.agg #[.int .i64 a.k, .int .i64 a.n, .string a.s]), .is (.agg #[.int .i64 b.k, .int .i64 b.n, .string b.s])] (.is (.int .i64 (cmpV a b))) :=
  CallTy.of (fn := Try.f62) Try.func62 (n := 41) rfl rfl rfl (fun _ _ => by kernel_rfl) fun E W => by
  repeat refine J.seq ?_
  refine J.plain ?_
  refine JO.box rfl rfl fun b2 => ?_
  refine JO.box rfl rfl fun b3 => ?_
  refine JO.t (ob_assign rfl) rfl ?_
  refine JO.nil ?_
  repeat (first | refine JX.next ?_ | refine JX.normal_block ?_)
  refine J.sel [2, 3] (.cons rfl (.cons rfl .nil)) ?_
  repeat refine J.seq ?_
  refine J.plain ?_
  refine JO.t (ob_ldN (cs := [_, _, _]) sz_api_Value rfl rfl rfl) rfl ?_
  refine JO.t (ob_ldN (cs := [_, _, _]) sz_api_Value rfl rfl rfl) rfl ?_
  refine JO.t (ob_veq veq_api_Value rfl rfl) rfl ?_
  refine JO.nil ?_
  repeat (first | refine JX.next ?_ | refine JX.normal_block ?_)
  refine J.sel [2, 3, 7] (.cons rfl (.cons rfl (.cons rfl .nil))) ?_
  repeat refine J.seq ?_
  refine J.cond rfl (fun ht7 => ?_) (fun ht7 => ?_)
  ·
    try simp only [decide_eq_true_eq, decide_eq_false_iff_not] at ht7
    repeat refine J.seq ?_
    refine J.plain ?_
    refine JO.t (ob_assign rfl) rfl ?_
    refine JO.nil ?_
    repeat (first | refine JX.next ?_ | refine JX.normal_block ?_)
    refine J.sel [4] (.cons rfl .nil) ?_
    repeat refine J.seq ?_
    refine J.ret ?_
    repeat (first | refine JX.ret_pass ?_ | refine JX.ret_block ?_)
    exact JX.ret1is rfl rfl (by rw [rcmp, if_pos ht7])
  ·
    try simp only [decide_eq_true_eq, decide_eq_false_iff_not] at ht7
    refine J.skip ?_
    repeat (first | refine JX.next ?_ | refine JX.normal_block ?_)
    repeat refine J.seq ?_
    refine J.reg0 hmx (by kernel_rfl) (by kernel_rfl) ?_
    refine RT.t (ob_fieldAddr fo_api_Value_0 rfl) ?_
    refine RT.t (ob_ld1 sz_int rfl rfl) ?_
    refine RT.t (ob_fieldAddr fo_api_Value_0 rfl) ?_
    refine RT.t (ob_ld1 sz_int rfl rfl) ?_
    refine RT.t (ob_lss rfl rfl) ?_
    refine RT.t (ob_move rfl) ?_
    refine RT.g rfl rfl rfl (fun hg => ob_fieldAddr fo_api_Value_0 (.inl rfl)) ?_
    refine RT.g rfl rfl rfl (fun hg => ob_ld1 sz_int (.inr ⟨_, rfl, fun h => h⟩) rfl) ?_
    refine RT.g rfl rfl rfl (fun hg => ob_fieldAddr fo_api_Value_0 (.inl rfl)) ?_
    refine RT.g rfl rfl rfl (fun hg => ob_ld1 sz_int (.inr ⟨_, rfl, fun h => h⟩) rfl) ?_
    refine RT.g rfl rfl rfl (fun hg => ob_eql (.inr ⟨_, rfl, fun h => h⟩) (.inr ⟨_, rfl, fun h => h⟩)) ?_
    refine RT.g rfl rfl rfl (fun hg => ob_move (.inr ⟨_, rfl, fun h => h⟩)) ?_
    refine RT.gg rfl rfl rfl (fun hg => (ob_fieldAddr fo_api_Value_1 (.inl rfl))) ?_
    refine RT.gg rfl rfl rfl (fun hg => (ob_ld1 sz_int64 (.inr ⟨_, rfl, fun h => h⟩) rfl)) ?_
    refine RT.gg rfl rfl rfl (fun hg => (ob_fieldAddr fo_api_Value_1 (.inl rfl))) ?_
    refine RT.gg rfl rfl rfl (fun hg => (ob_ld1 sz_int64 (.inr ⟨_, rfl, fun h => h⟩) rfl)) ?_
    refine RT.gg rfl rfl rfl (fun hg => (ob_lss (.inr ⟨_, rfl, fun h => h⟩) (.inr ⟨_, rfl, fun h => h⟩))) ?_
    refine RT.gg rfl rfl rfl (fun hg => (ob_move (.inr ⟨_, rfl, fun h => h⟩))) ?_
    refine RT.gg rfl rfl rfl (fun hg => (ob_fieldAddr fo_api_Value_1 (.inl rfl))) ?_
    refine RT.gg rfl rfl rfl (fun hg => (ob_ld1 sz_int64 (.inr ⟨_, rfl, fun h => h⟩) rfl)) ?_
    refine RT.gg rfl rfl rfl (fun hg => (ob_fieldAddr fo_api_Value_1 (.inl rfl))) ?_
    refine RT.gg rfl rfl rfl (fun hg => (ob_ld1 sz_int64 (.inr ⟨_, rfl, fun h => h⟩) rfl)) ?_
    refine RT.gg rfl rfl rfl (fun hg => (ob_eql (.inr ⟨_, rfl, fun h => h⟩) (.inr ⟨_, rfl, fun h => h⟩))) ?_
    refine RT.gg rfl rfl rfl (fun hg => (ob_move (.inr ⟨_, rfl, fun h => h⟩))) ?_
    refine RT.gg rfl rfl rfl (fun hg => (ob_fieldAddr fo_api_Value_2 (.inl rfl))) ?_
    refine RT.gg rfl rfl rfl (fun hg => (ob_ld1 sz_string (.inr ⟨_, rfl, fun h => h⟩) rfl)) ?_
    refine RT.gg rfl rfl rfl (fun hg => (ob_fieldAddr fo_api_Value_2 (.inl rfl))) ?_
    refine RT.gg rfl rfl rfl (fun hg => (ob_ld1 sz_string (.inr ⟨_, rfl, fun h => h⟩) rfl)) ?_
    refine RT.gg rfl rfl rfl (fun hg => (ob_slss (.inr ⟨_, rfl, fun h => h⟩) (.inr ⟨_, rfl, fun h => h⟩))) ?_
    refine RT.gg rfl rfl rfl (fun hg => (ob_pickAnd (.inr ⟨_, rfl, fun h => h⟩) (.inl rfl) (.inl rfl) (fun h => ⟨hg, h⟩))) ?_
    refine RT.gg rfl rfl rfl (fun hg => (ob_pickOr (.inr ⟨_, rfl, fun h => h⟩) (.inl rfl) (.inl rfl) (fun h => ⟨hg, h⟩))) ?_
    refine RT.g rfl rfl rfl (fun hg => ob_pickAnd (.inr ⟨_, rfl, fun h => h⟩) (.inl rfl) (.inl rfl) (fun h => ⟨hg, h⟩)) ?_
    refine RT.t (ob_pickOr rfl rfl rfl id) ?_
    refine RT.nil ?_
    refine FinS.nil0 ?_
    repeat (first | refine JX.next ?_ | refine JX.normal_block ?_)
    refine J.sel [40] (.cons rfl .nil) ?_
    repeat refine J.seq ?_
    refine J.cond rfl (fun ht40 => ?_) (fun ht40 => ?_)
    ·
      try simp only [decide_eq_true_eq, decide_eq_false_iff_not] at ht40
      repeat refine J.seq ?_
      refine J.plain ?_
      refine JO.t (ob_assign rfl) rfl ?_
      refine JO.nil ?_
      repeat (first | refine JX.next ?_ | refine JX.normal_block ?_)
      refine J.sel [4] (.cons rfl .nil) ?_
      repeat refine J.seq ?_
      refine J.ret ?_
      repeat (first | refine JX.ret_pass ?_ | refine JX.ret_block ?_)
      exact JX.ret1is rfl rfl (by rw [rcmp, if_neg (by rw [ht7]; simp), if_pos (show lowF a b = true from ht40)])
    ·
      try simp only [decide_eq_true_eq, decide_eq_false_iff_not] at ht40
      refine J.skip ?_
      repeat (first | refine JX.next ?_ | refine JX.normal_block ?_)
      repeat refine J.seq ?_
      refine J.plain ?_
      refine JO.t (ob_assign rfl) rfl ?_
      refine JO.nil ?_
      repeat (first | refine JX.next ?_ | refine JX.normal_block ?_)
      refine J.sel [4] (.cons rfl .nil) ?_
      repeat refine J.seq ?_
      refine J.ret ?_
      repeat (first | refine JX.ret_pass ?_ | refine JX.ret_block ?_)
      exact JX.ret1is rfl rfl (by rw [rcmp, if_neg (by rw [ht7]; simp), if_neg (by rw [show lowF a b = false from ht40]; simp)])
end Go.Proofs.Ytggmifnkgcladaa
set_option maxRecDepth 20000
namespace Go.Proofs.Ytggmifnkgcladaa
open Go Go.Vc
open Go.Si Go.Vl
theorem req_api_Read : REq Try.prog ty_api_Read ty_api_Value ty_int ty_int64 ty_string := { veq_api_Value with rt := by kernel_rfl, rp := by kernel_rfl, rg := by kernel_rfl, rf := by kernel_rfl, rs := by kernel_rfl }
def v3at (l : List V3) (i : Int) : V3 := l.getD i.toNat v3D
theorem v3at_get {l : List V3} {i : Int} (h0 : 0 ≤ i) (h1 : i < l.length) : l[i.toNat]? = some (v3at l i) := v3_get (by omega)
def coversF (r : Rd) (vals : List V3) : Bool :=
  if (decide (r.col < 0) || decide ((vals.length : Int) ≤ r.col)) then (r.col == -1)
  else ((v3at vals r.col).k == 0) || (decide (cmpV r.lo (v3at vals r.col) ≤ 0) && decide (cmpV (v3at vals r.col) r.hi ≤ 0))
theorem cov_all {r : Rd} (h : (r.col == -1) = true) (vals : List V3) : coversF r vals = true := by
  have h' : r.col = -1 := by simpa using h
  unfold coversF
  rw [h']
  simp
def mtA (r : Rd) (w : WrA) : Bool := seq r.t w.t && ((!w.o.a.isNone && coversF r w.o.row) || (!w.n.a.isNone && coversF r w.n.row))
theorem c_plan_Covers (r : Rd) (vals : List V3) : CallTy Try.prog f_plan_Covers [.is (rdV r), .rep (RowS vals)] (.is (.bool (coversF r vals))) :=
  CallTy.of (fn := Try.f52) Try.func52 (n := 41) rfl rfl rfl (fun _ _ => by kernel_rfl) fun E W => by
  refine J.openRow (s := 1) rfl (fun a len cap b o hlen ra => ?_)
  subst hlen
  repeat refine J.seq ?_
  refine J.plain ?_
  refine JO.box rfl rfl fun b2 => ?_
  refine JO.t (ob_assign rfl) rfl ?_
  refine JO.nil ?_
  repeat (first | refine JX.next ?_ | refine JX.normal_block ?_)
  refine J.sel [1, 2] (.cons rfl (.cons rfl .nil)) ?_
  repeat refine J.seq ?_
  refine J.reg0 hmx (by kernel_rfl) (by kernel_rfl) ?_
  refine RT.t (ob_fieldAddr fo_api_Read_1 rfl) ?_
  refine RT.t (ob_ld1 sz_int rfl rfl) ?_
  refine RT.t (ob_lss rfl rfl) ?_
  refine RT.t (ob_move rfl) ?_
  refine RT.g rfl rfl rfl (fun hg => ob_fieldAddr fo_api_Read_1 (.inl rfl)) ?_
  refine RT.g rfl rfl rfl (fun hg => ob_ld1 sz_int (.inr ⟨_, rfl, fun h => h⟩) rfl) ?_
  refine RT.g rfl rfl rfl (fun hg => ob_move (.inl rfl)) ?_
  refine RT.g rfl rfl rfl (fun hg => ob_len un_sl_api_Value (.inr ⟨_, rfl, fun h => h⟩)) ?_
  refine RT.g rfl rfl rfl (fun hg => ob_geq (.inr ⟨_, rfl, fun h => h⟩) (.inr ⟨_, rfl, fun h => h⟩)) ?_
  refine RT.t (ob_pickOr rfl rfl rfl id) ?_
  refine RT.nil ?_
  refine FinS.nil0 ?_
  repeat (first | refine JX.next ?_ | refine JX.normal_block ?_)
  refine J.sel [1, 2, 15] (.cons rfl (.cons rfl (.cons rfl .nil))) ?_
  repeat refine J.seq ?_
  refine J.cond rfl (fun ht15 => ?_) (fun ht15 => ?_)
  ·
    try simp only [decide_eq_true_eq, decide_eq_false_iff_not] at ht15
    repeat refine J.seq ?_
    refine J.plain ?_
    refine JO.t (ob_fieldAddr fo_api_Read_1 rfl) rfl ?_
    refine JO.t (ob_ld1 sz_int rfl rfl) rfl ?_
    refine JO.t (ob_eql rfl rfl) rfl ?_
    refine JO.t (ob_assign rfl) rfl ?_
    refine JO.nil ?_
    repeat (first | refine JX.next ?_ | refine JX.normal_block ?_)
    refine J.sel [4] (.cons rfl .nil) ?_
    repeat refine J.seq ?_
    refine J.ret ?_
    repeat (first | refine JX.ret_pass ?_ | refine JX.ret_block ?_)
    exact JX.ret1is rfl rfl (by unfold coversF; rw [if_pos ht15])
  ·
    try simp only [decide_eq_true_eq, decide_eq_false_iff_not] at ht15
    refine J.skip ?_
    repeat (first | refine JX.next ?_ | refine JX.normal_block ?_)
    repeat refine J.seq ?_
    refine J.plain ?_
    refine JO.t (ob_move rfl) rfl ?_
    refine JO.t (ob_fieldAddr fo_api_Read_1 rfl) rfl ?_
    refine JO.t (ob_ld1 sz_int rfl rfl) rfl ?_
    refine JO.t (ob_indexAddr el_sl_api_Value rfl (ra (by have h3 := ht15; simp only [Bool.or_eq_false_iff, decide_eq_false_iff_not] at h3; omega)) rfl (by have h3 := ht15; simp only [Bool.or_eq_false_iff, decide_eq_false_iff_not] at h3; omega) (by have h3 := ht15; simp only [Bool.or_eq_false_iff, decide_eq_false_iff_not] at h3; omega)) rfl ?_
    refine JO.t (ob_loadVal (i := r.col.toNat) (v := v3at vals r.col) (vals := vals) (len := vals.length) sz_api_Value rfl (by repeat (first | exact List.mem_cons_self | exact mem_all | apply List.mem_cons_of_mem)) (ra (by have h3 := ht15; simp only [Bool.or_eq_false_iff, decide_eq_false_iff_not] at h3; omega)) (v3at_get (by have h3 := ht15; simp only [Bool.or_eq_false_iff, decide_eq_false_iff_not] at h3; omega) (by have h3 := ht15; simp only [Bool.or_eq_false_iff, decide_eq_false_iff_not] at h3; omega)) (by have h3 := ht15; simp only [Bool.or_eq_false_iff, decide_eq_false_iff_not] at h3; omega)) rfl ?_
    refine JO.alloc zo_api_Value rfl fun b5 => ?_
    refine JO.m (obm_store rfl rfl (by repeat (first | exact .here | apply Upd.there)) (by first | exact cnt_is rfl rfl | exact cnt_ex) (by first | exact cnt_is rfl rfl | exact cnt_ex | exact cnt_aggO) ss_api_Value) (by rfl) ?_
    refine JO.nil ?_
    repeat (first | refine JX.next ?_ | refine JX.normal_block ?_)
    refine J.sel [2, 5] (.cons rfl (.cons rfl .nil)) ?_
    repeat refine J.seq ?_
    refine J.reg0 hmx (by kernel_rfl) (by kernel_rfl) ?_
    refine RT.t (ob_fieldAddr fo_api_Value_0 rfl) ?_
    refine RT.t (ob_ld1 sz_int rfl rfl) ?_
    refine RT.t (ob_eql rfl rfl) ?_
    refine RT.t (ob_move rfl) ?_
    refine RT.g rfl rfl rfl (fun hg => ob_fieldAddr fo_api_Read_2 (.inl rfl)) ?_
    refine RT.g rfl rfl rfl (fun hg => ob_ldN (cs := [_, _, _]) sz_api_Value (.inr ⟨_, rfl, fun h => h⟩) rfl rfl) ?_
    refine RT.g rfl rfl rfl (fun hg => ob_ldN (cs := [_, _, _]) sz_api_Value (.inl rfl) rfl rfl) ?_
    refine RT.g rfl rfl rfl (fun hg => ob_call (.inl rfl) (c_value_Compare _ _) (.one (.inr ⟨_, rfl, fun h => h⟩) (.one (.inr ⟨_, rfl, fun h => h⟩) .nil))) ?_
    refine RT.g rfl rfl rfl (fun hg => ob_leq (.inr ⟨_, rfl, fun h => h⟩) (.inl rfl)) ?_
    refine RT.g rfl rfl rfl (fun hg => ob_move (.inr ⟨_, rfl, fun h => h⟩)) ?_
    refine RT.gg rfl rfl rfl (fun hg => (ob_ldN (cs := [_, _, _]) sz_api_Value (.inl rfl) rfl rfl)) ?_
    refine RT.gg rfl rfl rfl (fun hg => (ob_fieldAddr fo_api_Read_3 (.inl rfl))) ?_
    refine RT.gg rfl rfl rfl (fun hg => (ob_ldN (cs := [_, _, _]) sz_api_Value (.inr ⟨_, rfl, fun h => h⟩) rfl rfl)) ?_
    refine RT.gg rfl rfl rfl (fun hg => (ob_call (.inl rfl) (c_value_Compare _ _) (.one (.inr ⟨_, rfl, fun h => h⟩) (.one (.inr ⟨_, rfl, fun h => h⟩) .nil)))) ?_
    refine RT.gg rfl rfl rfl (fun hg => (ob_leq (.inr ⟨_, rfl, fun h => h⟩) (.inl rfl))) ?_
    refine RT.g rfl rfl rfl (fun hg => ob_pickAnd (.inr ⟨_, rfl, fun h => h⟩) (.inl rfl) (.inl rfl) (fun h => ⟨hg, h⟩)) ?_
    refine RT.t (ob_pickOr rfl rfl rfl id) ?_
    refine RT.t (ob_assign rfl) ?_
    refine RT.nil ?_
    refine FinS.nil0 ?_
    repeat (first | refine JX.next ?_ | refine JX.normal_block ?_)
    refine J.sel [4] (.cons rfl .nil) ?_
    repeat refine J.seq ?_
    refine J.ret ?_
    repeat (first | refine JX.ret_pass ?_ | refine JX.ret_block ?_)
    exact JX.ret1is rfl rfl (by unfold coversF; rw [if_neg (by rw [ht15]; simp)])
theorem c_ref18_Covers (r : Rd) (vals : List V3) : CallTy Try.prog f_ref18_Covers [.is (rdV r), .rep (RowS vals)] (.is (.bool (coversF r vals))) :=
  CallTy.of (fn := Try.f57) Try.func57 (n := 41) rfl rfl rfl (fun _ _ => by kernel_rfl) fun E W => by
  refine J.openRow (s := 1) rfl (fun a len cap b o hlen ra => ?_)
  subst hlen
  repeat refine J.seq ?_
  refine J.plain ?_
  refine JO.box rfl rfl fun b2 => ?_
  refine JO.t (ob_assign rfl) rfl ?_
  refine JO.nil ?_
  repeat (first | refine JX.next ?_ | refine JX.normal_block ?_)
  refine J.sel [1, 2] (.cons rfl (.cons rfl .nil)) ?_
  repeat refine J.seq ?_
  refine J.plain ?_
  refine JO.t (ob_fieldAddr fo_api_Read_1 rfl) rfl ?_
  refine JO.t (ob_ld1 sz_int rfl rfl) rfl ?_
  refine JO.t (ob_eql rfl rfl) rfl ?_
  refine JO.nil ?_
  repeat (first | refine JX.next ?_ | refine JX.normal_block ?_)
  refine J.sel [1, 2, 8] (.cons rfl (.cons rfl (.cons rfl .nil))) ?_
  repeat refine J.seq ?_
  refine J.cond rfl (fun ht8 => ?_) (fun ht8 => ?_)
  ·
    try simp only [decide_eq_true_eq, decide_eq_false_iff_not] at ht8
    repeat refine J.seq ?_
    refine J.plain ?_
    refine JO.t (ob_assign rfl) rfl ?_
    refine JO.nil ?_
    repeat (first | refine JX.next ?_ | refine JX.normal_block ?_)
    refine J.sel [4] (.cons rfl .nil) ?_
    repeat refine J.seq ?_
    refine J.ret ?_
    repeat (first | refine JX.ret_pass ?_ | refine JX.ret_block ?_)
    exact JX.ret1is rfl rfl (by rw [cov_all ht8])
  ·
    try simp only [decide_eq_true_eq, decide_eq_false_iff_not] at ht8
    refine J.skip ?_
    repeat (first | refine JX.next ?_ | refine JX.normal_block ?_)
    repeat refine J.seq ?_
    refine J.reg0 hmx (by kernel_rfl) (by kernel_rfl) ?_
    refine RT.t (ob_fieldAddr fo_api_Read_1 rfl) ?_
    refine RT.t (ob_ld1 sz_int rfl rfl) ?_
    refine RT.t (ob_lss rfl rfl) ?_
    refine RT.t (ob_move rfl) ?_
    refine RT.g rfl rfl rfl (fun hg => ob_fieldAddr fo_api_Read_1 (.inl rfl)) ?_
    refine RT.g rfl rfl rfl (fun hg => ob_ld1 sz_int (.inr ⟨_, rfl, fun h => h⟩) rfl) ?_
    refine RT.g rfl rfl rfl (fun hg => ob_move (.inl rfl)) ?_
    refine RT.g rfl rfl rfl (fun hg => ob_len un_sl_api_Value (.inr ⟨_, rfl, fun h => h⟩)) ?_
    refine RT.g rfl rfl rfl (fun hg => ob_geq (.inr ⟨_, rfl, fun h => h⟩) (.inr ⟨_, rfl, fun h => h⟩)) ?_
    refine RT.t (ob_pickOr rfl rfl rfl id) ?_
    refine RT.nil ?_
    refine FinS.nil0 ?_
    repeat (first | refine JX.next ?_ | refine JX.normal_block ?_)
    refine J.sel [1, 2, 18] (.cons rfl (.cons rfl (.cons rfl .nil))) ?_
    repeat refine J.seq ?_
    refine J.cond rfl (fun ht18 => ?_) (fun ht18 => ?_)
    ·
      try simp only [decide_eq_true_eq, decide_eq_false_iff_not] at ht18
      repeat refine J.seq ?_
      refine J.plain ?_
      refine JO.t (ob_assign rfl) rfl ?_
      refine JO.nil ?_
      repeat (first | refine JX.next ?_ | refine JX.normal_block ?_)
      refine J.sel [4] (.cons rfl .nil) ?_
      repeat refine J.seq ?_
      refine J.ret ?_
      repeat (first | refine JX.ret_pass ?_ | refine JX.ret_block ?_)
      exact JX.ret1is rfl rfl (by unfold coversF; rw [if_pos ht18, ht8])
    ·
      try simp only [decide_eq_true_eq, decide_eq_false_iff_not] at ht18
      refine J.skip ?_
      repeat (first | refine JX.next ?_ | refine JX.normal_block ?_)
      repeat refine J.seq ?_
      refine J.plain ?_
      refine JO.t (ob_move rfl) rfl ?_
      refine JO.t (ob_fieldAddr fo_api_Read_1 rfl) rfl ?_
      refine JO.t (ob_ld1 sz_int rfl rfl) rfl ?_
      refine JO.t (ob_indexAddr el_sl_api_Value rfl (ra (by have h3 := ht18; simp only [Bool.or_eq_false_iff, decide_eq_false_iff_not] at h3; omega)) rfl (by have h3 := ht18; simp only [Bool.or_eq_false_iff, decide_eq_false_iff_not] at h3; omega) (by have h3 := ht18; simp only [Bool.or_eq_false_iff, decide_eq_false_iff_not] at h3; omega)) rfl ?_
      refine JO.t (ob_loadVal (i := r.col.toNat) (v := v3at vals r.col) (vals := vals) (len := vals.length) sz_api_Value rfl (by repeat (first | exact List.mem_cons_self | exact mem_all | apply List.mem_cons_of_mem)) (ra (by have h3 := ht18; simp only [Bool.or_eq_false_iff, decide_eq_false_iff_not] at h3; omega)) (v3at_get (by have h3 := ht18; simp only [Bool.or_eq_false_iff, decide_eq_false_iff_not] at h3; omega) (by have h3 := ht18; simp only [Bool.or_eq_false_iff, decide_eq_false_iff_not] at h3; omega)) (by have h3 := ht18; simp only [Bool.or_eq_false_iff, decide_eq_false_iff_not] at h3; omega)) rfl ?_
      refine JO.alloc zo_api_Value rfl fun b5 => ?_
      refine JO.m (obm_store rfl rfl (by repeat (first | exact .here | apply Upd.there)) (by first | exact cnt_is rfl rfl | exact cnt_ex) (by first | exact cnt_is rfl rfl | exact cnt_ex | exact cnt_aggO) ss_api_Value) (by rfl) ?_
      refine JO.nil ?_
      repeat (first | refine JX.next ?_ | refine JX.normal_block ?_)
      refine J.sel [2, 5] (.cons rfl (.cons rfl .nil)) ?_
      repeat refine J.seq ?_
      refine J.reg0 hmx (by kernel_rfl) (by kernel_rfl) ?_
      refine RT.t (ob_fieldAddr fo_api_Value_0 rfl) ?_
      refine RT.t (ob_ld1 sz_int rfl rfl) ?_
      refine RT.t (ob_eql rfl rfl) ?_
      refine RT.t (ob_move rfl) ?_
      refine RT.g rfl rfl rfl (fun hg => ob_fieldAddr fo_api_Read_2 (.inl rfl)) ?_
      refine RT.g rfl rfl rfl (fun hg => ob_ldN (cs := [_, _, _]) sz_api_Value (.inr ⟨_, rfl, fun h => h⟩) rfl rfl) ?_
      refine RT.g rfl rfl rfl (fun hg => ob_ldN (cs := [_, _, _]) sz_api_Value (.inl rfl) rfl rfl) ?_
      refine RT.g rfl rfl rfl (fun hg => ob_call (.inl rfl) (c_ref01_Compare r.lo (v3at vals r.col)) (.one (.inr ⟨_, rfl, fun h => h⟩) (.one (.inr ⟨_, rfl, fun h => h⟩) .nil))) ?_
      refine RT.g rfl rfl rfl (fun hg => ob_leq (.inr ⟨_, rfl, fun h => h⟩) (.inl rfl)) ?_
      refine RT.g rfl rfl rfl (fun hg => ob_move (.inr ⟨_, rfl, fun h => h⟩)) ?_
      refine RT.gg rfl rfl rfl (fun hg => (ob_ldN (cs := [_, _, _]) sz_api_Value (.inl rfl) rfl rfl)) ?_
      refine RT.gg rfl rfl rfl (fun hg => (ob_fieldAddr fo_api_Read_3 (.inl rfl))) ?_
      refine RT.gg rfl rfl rfl (fun hg => (ob_ldN (cs := [_, _, _]) sz_api_Value (.inr ⟨_, rfl, fun h => h⟩) rfl rfl)) ?_
      refine RT.gg rfl rfl rfl (fun hg => (ob_call (.inl rfl) (c_ref01_Compare (v3at vals r.col) r.hi) (.one (.inr ⟨_, rfl, fun h => h⟩) (.one (.inr ⟨_, rfl, fun h => h⟩) .nil)))) ?_
      refine RT.gg rfl rfl rfl (fun hg => (ob_leq (.inr ⟨_, rfl, fun h => h⟩) (.inl rfl))) ?_
      refine RT.g rfl rfl rfl (fun hg => ob_pickAnd (.inr ⟨_, rfl, fun h => h⟩) (.inl rfl) (.inl rfl) (fun h => ⟨hg, h⟩)) ?_
      refine RT.t (ob_pickOr rfl rfl rfl id) ?_
      refine RT.t (ob_assign rfl) ?_
      refine RT.nil ?_
      refine FinS.nil0 ?_
      repeat (first | refine JX.next ?_ | refine JX.normal_block ?_)
      refine J.sel [4] (.cons rfl .nil) ?_
      repeat refine J.seq ?_
      refine J.ret ?_
      repeat (first | refine JX.ret_pass ?_ | refine JX.ret_block ?_)
      exact JX.ret1is rfl rfl (by unfold coversF; rw [if_neg (by rw [ht18]; simp)])
theorem c_ssi_meets (U : List WrA) (r : Rd) (w : WrA) (hw : w ∈ U) : CallL Try.prog f_ssi_meets [] [WrF U] [.is (rdA r), .is (wrV w)] (fun _ : Unit => True) (fun _ => []) (fun _ => .is (.bool (mtA r w))) :=
CallL.of (fn := Try.f37) Try.func37 (n := 32) rfl rfl rfl (fun _ _ => by kernel_rfl) fun E W hb0 => by
  refine J.fact (RowR w.o.row w.o.a w.o.len) (fun E0 w0 hG _ => fun w1 hk => (hG _ List.mem_cons_self w1 hk w hw).1.2) ?_
  refine J.fact (RowR w.n.row w.n.a w.n.len) (fun E0 w0 hG _ => fun w1 hk => (hG _ (List.mem_cons_of_mem _ List.mem_cons_self) w1 hk w hw).2.2) ?_
  repeat refine J.seq ?_
  refine J.plain ?_
  refine JO.box rfl rfl fun b2 => ?_
  refine JO.box rfl rfl fun b3 => ?_
  refine JO.t (ob_assign rfl) rfl ?_
  refine JO.nil ?_
  repeat (first | refine JX.next ?_ | refine JX.normal_block ?_)
  refine J.sel [2, 3] (.cons rfl (.cons rfl .nil)) ?_
  repeat refine J.seq ?_
  refine J.reg0 hmx (by kernel_rfl) (by kernel_rfl) ?_
  refine RT.t (ob_fieldAddr fo_api_Read_0 rfl) ?_
  refine RT.t (ob_ld1 sz_string rfl rfl) ?_
  refine RT.t (ob_fieldAddr fo_api_Write_0 rfl) ?_
  refine RT.t (ob_ld1 sz_string rfl rfl) ?_
  refine RT.t (ob_seql rfl rfl) ?_
  refine RT.t (ob_move rfl) ?_
  refine RT.g rfl rfl rfl (fun hg => ob_fieldAddr fo_api_Write_1 (.inl rfl)) ?_
  refine RT.g rfl rfl rfl (fun hg => ob_ld1 sz_sl_api_Value (.inr ⟨_, rfl, fun h => h⟩) rfl) ?_
  refine RT.g rfl rfl rfl (fun hg => ob_nnilS un_sl_api_Value (.inr ⟨_, rfl, fun h => h⟩) (.inl rfl)) ?_
  refine RT.g rfl rfl rfl (fun hg => ob_move (.inr ⟨_, rfl, fun h => h⟩)) ?_
  refine RT.gg rfl rfl rfl (fun hg => (ob_ldN (cs := [_, _, _, _, _, _, _, _]) sz_api_Read (.inl rfl) rfl rfl)) ?_
  refine RT.gg rfl rfl rfl (fun hg => (ob_fieldAddr fo_api_Write_1 (.inl rfl))) ?_
  refine RT.gg rfl rfl rfl (fun hg => (ob_ld1 sz_sl_api_Value (.inr ⟨_, rfl, fun h => h⟩) rfl)) ?_
  refine RT.gg rfl rfl rfl (fun hg => (ob_call (.inl rfl) (c_plan_Covers r w.o.row) (.one (.inr ⟨_, rfl, fun h => h⟩) (.sub (.inr ⟨_, rfl, fun h => h⟩) (Sub.rowF (by repeat (first | exact List.mem_cons_self | exact mem_all | apply List.mem_cons_of_mem))) .nil)))) ?_
  refine RT.g rfl rfl rfl (fun hg => ob_pickAnd (.inr ⟨_, rfl, fun h => h⟩) (.inl rfl) (.inl rfl) (fun h => ⟨hg, h⟩)) ?_
  refine RT.g rfl rfl rfl (fun hg => ob_move (.inr ⟨_, rfl, fun h => h⟩)) ?_
  refine RT.gg rfl rfl rfl (fun hg => (ob_fieldAddr fo_api_Write_2 (.inl rfl))) ?_
  refine RT.gg rfl rfl rfl (fun hg => (ob_ld1 sz_sl_api_Value (.inr ⟨_, rfl, fun h => h⟩) rfl)) ?_
  refine RT.gg rfl rfl rfl (fun hg => (ob_nnilS un_sl_api_Value (.inr ⟨_, rfl, fun h => h⟩) (.inl rfl))) ?_
  refine RT.gg rfl rfl rfl (fun hg => (ob_move (.inr ⟨_, rfl, fun h => h⟩))) ?_
  refine RT.gg rfl rfl rfl (fun hg => (ob_ldN (cs := [_, _, _, _, _, _, _, _]) sz_api_Read (.inl rfl) rfl rfl)) ?_
  refine RT.gg rfl rfl rfl (fun hg => (ob_fieldAddr fo_api_Write_2 (.inl rfl))) ?_
  refine RT.gg rfl rfl rfl (fun hg => (ob_ld1 sz_sl_api_Value (.inr ⟨_, rfl, fun h => h⟩) rfl)) ?_
  refine RT.gg rfl rfl rfl (fun hg => (ob_call (.inl rfl) (c_plan_Covers r w.n.row) (.one (.inr ⟨_, rfl, fun h => h⟩) (.sub (.inr ⟨_, rfl, fun h => h⟩) (Sub.rowF (by repeat (first | exact List.mem_cons_self | exact mem_all | apply List.mem_cons_of_mem))) .nil)))) ?_
  refine RT.gg rfl rfl rfl (fun hg => (ob_pickAnd (.inr ⟨_, rfl, fun h => h⟩) (.inl rfl) (.inl rfl) (fun h => ⟨hg, h⟩))) ?_
  refine RT.g rfl rfl rfl (fun hg => ob_pickOr (.inr ⟨_, rfl, fun h => h⟩) (.inl rfl) (.inl rfl) (fun h => ⟨hg, h⟩)) ?_
  refine RT.t (ob_pickAnd rfl rfl rfl id) ?_
  refine RT.t (ob_assign rfl) ?_
  refine RT.nil ?_
  refine FinS.nil0 ?_
  repeat (first | refine JX.next ?_ | refine JX.normal_block ?_)
  refine J.sel [4] (.cons rfl .nil) ?_
  repeat refine J.seq ?_
  refine J.ret ?_
  repeat (first | refine JX.ret_pass ?_ | refine JX.ret_block ?_)
  exact JX.retL1 (Lr := [_, _]) (L1 := fun _ : Unit => []) rfl () trivial (List.Perm.refl _) rfl rfl hb0 rfl (Sub.isEq rfl)
theorem c_ref20_Meets (U : List WrA) (r : Rd) (w : WrA) (hw : w ∈ U) : CallL Try.prog f_ref20_Meets [] [WrF U] [.is (rdA r), .is (wrV w)] (fun _ : Unit => True) (fun _ => []) (fun _ => .is (.bool (mtA r w))) :=
CallL.of (fn := Try.f55) Try.func55 (n := 30) rfl rfl rfl (fun _ _ => by kernel_rfl) fun E W hb0 => by
  refine J.fact (RowR w.o.row w.o.a w.o.len) (fun E0 w0 hG _ => fun w1 hk => (hG _ List.mem_cons_self w1 hk w hw).1.2) ?_
  refine J.fact (RowR w.n.row w.n.a w.n.len) (fun E0 w0 hG _ => fun w1 hk => (hG _ (List.mem_cons_of_mem _ List.mem_cons_self) w1 hk w hw).2.2) ?_
  repeat refine J.seq ?_
  refine J.plain ?_
  refine JO.box rfl rfl fun b2 => ?_
  refine JO.box rfl rfl fun b3 => ?_
  refine JO.t (ob_assign rfl) rfl ?_
  refine JO.nil ?_
  repeat (first | refine JX.next ?_ | refine JX.normal_block ?_)
  refine J.sel [2, 3] (.cons rfl (.cons rfl .nil)) ?_
  repeat refine J.seq ?_
  refine J.plain ?_
  refine JO.t (ob_fieldAddr fo_api_Read_0 rfl) rfl ?_
  refine JO.t (ob_ld1 sz_string rfl rfl) rfl ?_
  refine JO.t (ob_fieldAddr fo_api_Write_0 rfl) rfl ?_
  refine JO.t (ob_ld1 sz_string rfl rfl) rfl ?_
  refine JO.t (ob_sneq rfl rfl) rfl ?_
  refine JO.nil ?_
  repeat (first | refine JX.next ?_ | refine JX.normal_block ?_)
  refine J.sel [2, 3, 9] (.cons rfl (.cons rfl (.cons rfl .nil))) ?_
  repeat refine J.seq ?_
  refine J.cond rfl (fun ht9 => ?_) (fun ht9 => ?_)
  ·
    try simp only [decide_eq_true_eq, decide_eq_false_iff_not] at ht9
    repeat refine J.seq ?_
    refine J.plain ?_
    refine JO.t (ob_assign rfl) rfl ?_
    refine JO.nil ?_
    repeat (first | refine JX.next ?_ | refine JX.normal_block ?_)
    refine J.sel [4] (.cons rfl .nil) ?_
    repeat refine J.seq ?_
    refine J.ret ?_
    repeat (first | refine JX.ret_pass ?_ | refine JX.ret_block ?_)
    exact JX.retL1 (Lr := [_, _]) (L1 := fun _ : Unit => []) rfl () trivial (List.Perm.refl _) rfl rfl hb0 rfl (Sub.isEq (by unfold mtA; have h9 : seq r.t w.t = false := (by simpa using ht9); rw [h9]; rfl))
  ·
    try simp only [decide_eq_true_eq, decide_eq_false_iff_not] at ht9
    refine J.skip ?_
    repeat (first | refine JX.next ?_ | refine JX.normal_block ?_)
    repeat refine J.seq ?_
    refine J.reg0 hmx (by kernel_rfl) (by kernel_rfl) ?_
    refine RT.t (ob_fieldAddr fo_api_Write_1 rfl) ?_
    refine RT.t (ob_ld1 sz_sl_api_Value rfl rfl) ?_
    refine RT.t (ob_nnilS un_sl_api_Value rfl rfl) ?_
    refine RT.t (ob_move rfl) ?_
    refine RT.g rfl rfl rfl (fun hg => ob_ldN (cs := [_, _, _, _, _, _, _, _]) sz_api_Read (.inl rfl) rfl rfl) ?_
    refine RT.g rfl rfl rfl (fun hg => ob_fieldAddr fo_api_Write_1 (.inl rfl)) ?_
    refine RT.g rfl rfl rfl (fun hg => ob_ld1 sz_sl_api_Value (.inr ⟨_, rfl, fun h => h⟩) rfl) ?_
    refine RT.g rfl rfl rfl (fun hg => ob_call (.inl rfl) (c_ref18_Covers r w.o.row) (.one (.inr ⟨_, rfl, fun h => h⟩) (.sub (.inr ⟨_, rfl, fun h => h⟩) (Sub.rowF (by repeat (first | exact List.mem_cons_self | exact mem_all | apply List.mem_cons_of_mem))) .nil))) ?_
    refine RT.t (ob_pickAnd rfl rfl rfl id) ?_
    refine RT.t (ob_move rfl) ?_
    refine RT.g rfl rfl rfl (fun hg => ob_fieldAddr fo_api_Write_2 (.inl rfl)) ?_
    refine RT.g rfl rfl rfl (fun hg => ob_ld1 sz_sl_api_Value (.inr ⟨_, rfl, fun h => h⟩) rfl) ?_
    refine RT.g rfl rfl rfl (fun hg => ob_nnilS un_sl_api_Value (.inr ⟨_, rfl, fun h => h⟩) (.inl rfl)) ?_
    refine RT.g rfl rfl rfl (fun hg => ob_move (.inr ⟨_, rfl, fun h => h⟩)) ?_
    refine RT.gg rfl rfl rfl (fun hg => (ob_ldN (cs := [_, _, _, _, _, _, _, _]) sz_api_Read (.inl rfl) rfl rfl)) ?_
    refine RT.gg rfl rfl rfl (fun hg => (ob_fieldAddr fo_api_Write_2 (.inl rfl))) ?_
    refine RT.gg rfl rfl rfl (fun hg => (ob_ld1 sz_sl_api_Value (.inr ⟨_, rfl, fun h => h⟩) rfl)) ?_
    refine RT.gg rfl rfl rfl (fun hg => (ob_call (.inl rfl) (c_ref18_Covers r w.n.row) (.one (.inr ⟨_, rfl, fun h => h⟩) (.sub (.inr ⟨_, rfl, fun h => h⟩) (Sub.rowF (by repeat (first | exact List.mem_cons_self | exact mem_all | apply List.mem_cons_of_mem))) .nil)))) ?_
    refine RT.g rfl rfl rfl (fun hg => ob_pickAnd (.inr ⟨_, rfl, fun h => h⟩) (.inl rfl) (.inl rfl) (fun h => ⟨hg, h⟩)) ?_
    refine RT.t (ob_pickOr rfl rfl rfl id) ?_
    refine RT.t (ob_assign rfl) ?_
    refine RT.nil ?_
    refine FinS.nil0 ?_
    repeat (first | refine JX.next ?_ | refine JX.normal_block ?_)
    refine J.sel [4] (.cons rfl .nil) ?_
    repeat refine J.seq ?_
    refine J.ret ?_
    repeat (first | refine JX.ret_pass ?_ | refine JX.ret_block ?_)
    exact JX.retL1 (Lr := [_, _]) (L1 := fun _ : Unit => []) rfl () trivial (List.Perm.refl _) rfl rfl hb0 rfl (Sub.isEq (by unfold mtA; have h9 : seq r.t w.t = true := (by simpa using ht9); rw [h9]; rfl))
end Go.Proofs.Ytggmifnkgcladaa
set_option maxRecDepth 20000
namespace Go.Proofs.Ytggmifnkgcladaa
open Go Go.Vc
open Go.Si
def boxR (bR : Nat) (r : Rd) : Own := ⟨bR, ty_api_Read, .is (rdA r)⟩
def boxW (bW : Nat) (w : WrA) : Own := ⟨bW, ty_api_Write, .is (wrV w)⟩
theorem boxR_ob {bR : Nat} {r : Rd} : AllOb [boxR bR r] := fun o ho => by rw [List.mem_singleton.1 ho]; exact .inl ⟨_, rfl⟩
theorem boxW_ob {bW : Nat} {w : WrA} : AllOb [boxW bW w] := fun o ho => by rw [List.mem_singleton.1 ho]; exact .inl ⟨_, rfl⟩
instance {bR : Nat} {r : Rd} {L : List Own} : HasOwn (boxR bR r :: L) bR ty_api_Read (.is (rdA r)) := ⟨List.mem_cons_self⟩
instance {bW : Nat} {w : WrA} {L : List Own} : HasOwn (boxW bW w :: L) bW ty_api_Write (.is (wrV w)) := ⟨List.mem_cons_self⟩
theorem nil_ob : AllOb [] := fun _ h => by cases h
def rd0 : Rd := ⟨⟨#[]⟩, 0, ⟨0, 0, ⟨#[]⟩⟩, ⟨0, 0, ⟨#[]⟩⟩⟩
theorem rd_one (r : Rd) : (Rd.cells r).all (·.oneCell') = true := rfl
def delL (p : Rd → Bool) (xs : List Rd) (j : Nat) : List Rd := (xs.take j).filter fun r => !p r
theorem del_snoc {p : Rd → Bool} {xs : List Rd} {j : Nat} {v : Rd} (hv : xs[j]? = some v) : delL p xs (j + 1) = delL p xs j ++ (if p v then [] else [v]) := by
  unfold delL
  have hj := (List.getElem?_eq_some_iff.1 hv).1
  rw [List.take_add_one, hv, Option.toList_some, List.filter_append]
  cases hp : p v <;> simp [hp]
theorem del_all (p : Rd → Bool) (xs : List Rd) : delL p xs xs.length = xs.filter fun r => !p r := by
  unfold delL; rw [List.take_length]
theorem del_first {p : Rd → Bool} {xs : List Rd} {i : Nat} (h : ∀ j w, j < i → xs[j]? = some w → p w = false) (hi : i ≤ xs.length) : delL p xs i = xs.take i := by
  unfold delL
  refine List.filter_eq_self.2 fun x hx => ?_
  obtain ⟨j, hj, rfl⟩ := List.getElem_of_mem hx
  rw [List.length_take] at hj
  rw [List.getElem_take]
  have := h j xs[j] (by omega) (List.getElem?_eq_getElem (by omega))
  simp [this]
theorem idx_spec {α : Type} {p : α → Bool} {xs : List α} : (idxF p xs = -1 ∧ ∀ x ∈ xs, p x = false) ∨ ∃ i : Nat, idxF p xs = (i : Nat) ∧ i < xs.length ∧ (∃ v, xs[i]? = some v ∧ p v = true) ∧ ∀ j w, j < i → xs[j]? = some w → p w = false := by
  unfold idxF
  cases h : xs.findIdx? p with
  | none =>
    refine .inl ⟨rfl, fun x hx => ?_⟩
    rw [List.findIdx?_eq_none_iff] at h
    exact h x hx
  | some i =>
    rw [List.findIdx?_eq_some_iff_getElem] at h
    obtain ⟨hi, hp, h0⟩ := h
    refine .inr ⟨i, rfl, hi, ⟨xs[i], List.getElem?_eq_getElem hi, hp⟩, fun j w hj hw => ?_⟩
    have := h0 j hj
    rw [List.getElem?_eq_getElem (by omega)] at hw
    injection hw with hw
    rw [← hw]
    simpa using this
structure DelSt (p : Rd → Bool) (xs : List Rd) (i j : Nat) (ys : List Rd) : Prop where
  len : ys.length = xs.length
  ij : i < j
  jl : j ≤ xs.length
  pre : ys.take i = delL p xs j
  suf : ∀ k, j ≤ k → ys[k]? = xs[k]?
theorem DelSt.i_eq {p : Rd → Bool} {xs : List Rd} {i j : Nat} {ys : List Rd} (h : DelSt p xs i j ys) : i = (delL p xs j).length := by
  rw [← h.pre, List.length_take, h.len]
  have := h.ij; have := h.jl
  omega
theorem DelSt.skip {p : Rd → Bool} {xs : List Rd} {i j : Nat} {ys : List Rd} (h : DelSt p xs i j ys) {v : Rd} (hv : xs[j]? = some v) (hp : p v = true) : DelSt p xs i (j + 1) ys :=
  ⟨h.len, by have := h.ij; omega, (List.getElem?_eq_some_iff.1 hv).1, by rw [del_snoc hv, hp, h.pre]; simp, fun k hk => h.suf k (by omega)⟩
theorem DelSt.put {p : Rd → Bool} {xs : List Rd} {i j : Nat} {ys : List Rd} (h : DelSt p xs i j ys) {v : Rd} (hv : xs[j]? = some v) (hp : p v = false) : DelSt p xs (i + 1) (j + 1) (ys.set i v) := by
  have hj := (List.getElem?_eq_some_iff.1 hv).1
  have hij := h.ij
  have hl := h.len
  refine ⟨by rw [List.length_set]; exact hl, by omega, hj, ?_, fun k hk => ?_⟩
  · rw [del_snoc hv, hp, ← h.pre]
    have : i < ys.length := by omega
    rw [List.take_add_one, List.getElem?_set_self this, List.take_set_of_le (Nat.le_refl i)]
    rfl
  · rw [List.getElem?_set_ne (by omega)]
    exact h.suf k (by omega)
theorem DelSt.start {p : Rd → Bool} {xs : List Rd} {i : Nat} (hi : i < xs.length) (h0 : ∀ j w, j < i → xs[j]? = some w → p w = false) {v : Rd} (hv : xs[i]? = some v) (hp : p v = true) : DelSt p xs i (i + 1) xs :=
  ⟨rfl, Nat.lt_succ_self _, hi, by rw [del_snoc hv, hp, del_first h0 (by omega)]; simp, fun _ _ => rfl⟩
theorem ob_sliceLo1 {P : Program} {L : List Own} {Φ : List (World → Prop)} {H : Know} {dst : Option Nat} {ty : TypeId} {pos : String} {after : Array Edge} {g : Option (Nat × Bool)} {t e : TypeId} {x lo : Operand} {b o len cap sz n : Nat} (hu : P.underlying t = some (.slice e)) (hs : elSize P t = some sz) (hx : H x (.is (.slice (some ⟨b, o, none⟩) len cap))) (hl : H lo (.is (.int .i64 (n : Nat)))) (h1 : n ≤ len) (h2 : n < cap) :
    Ob P L Φ H ⟨dst, .slice t x (some lo) none none, ty, pos, after, g⟩ (.is (.slice (some ⟨b, o + n * sz, none⟩) (len - n) (cap - n))) := by
  have := ob_sliceLo (P := P) (L := L) (Φ := Φ) (H := H) (dst := dst) (ty := ty) (pos := pos) (after := after) (g := g) hu hs hx hl (by omega) (by omega)
  have e1 : adS (some ⟨b, o, none⟩) ((n : Int)).toNat cap sz = some ⟨b, o + n * sz, none⟩ := by
    show (if cap = n then _ else _) = _
    rw [if_neg (by omega)]
    show some (Addr.add ⟨b, o, none⟩ (n * sz)) = _
    rw [add_at]
  rw [e1] at this
  exact this
theorem rep_rd0 : ∀ n, (List.replicate n (Rd.cells rd0)).flatten = (List.replicate n rd0).flatMap Rd.cells := fun n => by
  rw [List.flatMap_def, List.map_replicate]
theorem c_p_ssi_tx_keep_1 (bR : Nat) (r k : Rd) : CallL Try.prog f_p_ssi_tx_keep_1 [boxR bR r] [] [.is (rdA k), .is (.pointer (some ⟨bR, 0, none⟩))] (fun _ : Unit => True) (fun _ => [boxR bR r]) (fun _ => .is (.bool (seq k.t r.t))) :=
CallL.of (fn := Try.f49) Try.func49 (n := 9) rfl rfl rfl (fun _ _ => by kernel_rfl) fun E W hb0 => by
  repeat refine J.seq ?_
  refine J.plain ?_
  refine JO.box rfl rfl fun b2 => ?_
  refine JO.t (ob_assign rfl) rfl ?_
  refine JO.nil ?_
  repeat (first | refine JX.next ?_ | refine JX.normal_block ?_)
  refine J.sel [1, 2] (.cons rfl (.cons rfl .nil)) ?_
  repeat refine J.seq ?_
  refine J.plain ?_
  refine JO.t (ob_fieldAddr fo_api_Read_0 rfl) rfl ?_
  refine JO.t (ob_ld1 sz_string rfl rfl) rfl ?_
  refine JO.t (ob_fieldAddr fo_api_Read_0 rfl) rfl ?_
  refine JO.t (ob_ld1 sz_string rfl rfl) rfl ?_
  refine JO.t (ob_seql rfl rfl) rfl ?_
  refine JO.t (ob_assign rfl) rfl ?_
  refine JO.nil ?_
  repeat (first | refine JX.next ?_ | refine JX.normal_block ?_)
  refine J.sel [3] (.cons rfl .nil) ?_
  repeat refine J.seq ?_
  refine J.ret ?_
  repeat (first | refine JX.ret_pass ?_ | refine JX.ret_block ?_)
  exact JX.retL1 (Lr := [_]) (L1 := fun _ : Unit => [boxR bR r]) rfl () trivial (List.perm_append_singleton _ _).symm (ob_out boxR_ob) rfl hb0 rfl (Sub.isEq rfl)
theorem c_p_ssi_Set_Read_1_1 (U : List WrA) (bR : Nat) (r : Rd) (w : WrA) (hw : w ∈ U) : CallL Try.prog f_p_ssi_Set_Read_1_1 [boxR bR r] [WrF U] [.is (wrV w), .is (.pointer (some ⟨bR, 0, none⟩))] (fun _ : Unit => True) (fun _ => [boxR bR r]) (fun _ => .is (.bool (mtA r w))) :=
CallL.of (fn := Try.f36) Try.func36 (n := 7) rfl rfl rfl (fun _ _ => by kernel_rfl) fun E W hb0 => by
  repeat refine J.seq ?_
  refine J.plain ?_
  refine JO.box rfl rfl fun b2 => ?_
  refine JO.t (ob_assign rfl) rfl ?_
  refine JO.nil ?_
  repeat (first | refine JX.next ?_ | refine JX.normal_block ?_)
  refine J.sel [1, 2] (.cons rfl (.cons rfl .nil)) ?_
  repeat refine J.seq ?_
  refine J.plain ?_
  refine JO.t (ob_ldN (cs := [_, _, _, _, _, _, _, _]) sz_api_Read rfl rfl rfl) rfl ?_
  refine JO.t (ob_ldN (cs := [_, _, _]) sz_api_Write rfl rfl rfl) rfl ?_
  refine JO.t (ob_callB rfl (c_ssi_meets U r w hw) nil_ob (fun _ h => by cases h) (fun _ _ _ => List.nodup_nil) (fun _ h => h) (.one rfl (.one rfl .nil))) rfl ?_
  refine JO.t (ob_assign rfl) rfl ?_
  refine JO.nil ?_
  repeat (first | refine JX.next ?_ | refine JX.normal_block ?_)
  refine J.sel [3] (.cons rfl .nil) ?_
  repeat refine J.seq ?_
  refine J.ret ?_
  repeat (first | refine JX.ret_pass ?_ | refine JX.ret_block ?_)
  exact JX.retL1 (Lr := [_]) (L1 := fun _ : Unit => [boxR bR r]) rfl () trivial (List.perm_append_singleton _ _).symm (ob_out boxR_ob) rfl hb0 rfl (Sub.isEq rfl)
theorem c_p_ssi_Set_Write_1_1 (U : List WrA) (bW : Nat) (w : WrA) (hw : w ∈ U) (r : Rd) : CallL Try.prog f_p_ssi_Set_Write_1_1 [boxW bW w] [WrF U] [.is (rdA r), .is (.pointer (some ⟨bW, 0, none⟩))] (fun _ : Unit => True) (fun _ => [boxW bW w]) (fun _ => .is (.bool (mtA r w))) :=
CallL.of (fn := Try.f43) Try.func43 (n := 7) rfl rfl rfl (fun _ _ => by kernel_rfl) fun E W hb0 => by
  repeat refine J.seq ?_
  refine J.plain ?_
  refine JO.box rfl rfl fun b2 => ?_
  refine JO.t (ob_assign rfl) rfl ?_
  refine JO.nil ?_
  repeat (first | refine JX.next ?_ | refine JX.normal_block ?_)
  refine J.sel [1, 2] (.cons rfl (.cons rfl .nil)) ?_
  repeat refine J.seq ?_
  refine J.plain ?_
  refine JO.t (ob_ldN (cs := [_, _, _, _, _, _, _, _]) sz_api_Read rfl rfl rfl) rfl ?_
  refine JO.t (ob_ldN (cs := [_, _, _]) sz_api_Write rfl rfl rfl) rfl ?_
  refine JO.t (ob_callB rfl (c_ssi_meets U r w hw) nil_ob (fun _ h => by cases h) (fun _ _ _ => List.nodup_nil) (fun _ h => h) (.one rfl (.one rfl .nil))) rfl ?_
  refine JO.t (ob_assign rfl) rfl ?_
  refine JO.nil ?_
  repeat (first | refine JX.next ?_ | refine JX.normal_block ?_)
  refine J.sel [3] (.cons rfl .nil) ?_
  repeat refine J.seq ?_
  refine J.ret ?_
  repeat (first | refine JX.ret_pass ?_ | refine JX.ret_block ?_)
  exact JX.retL1 (Lr := [_]) (L1 := fun _ : Unit => [boxW bW w]) rfl () trivial (List.perm_append_singleton _ _).symm (ob_out boxW_ob) rfl hb0 rfl (Sub.isEq rfl)
theorem c_slices_DeleteFunc_sl_api_Read_api_Read {rs : Option (Nat × List Value)} {rc : Nat} {xs : List Rd} (hG : Grows Rd.cells 8 xs rs rc) (hl : xs.length ≤ 4611686018427387904) (f : FuncId) (cp : List Value) (Lc : List Own) (hLc : AllOb Lc) (Φc : List (World → Prop)) (p : Rd → Bool) (hf : ∀ k : Rd, CallL Try.prog f Lc Φc ([.is (rdA k)] ++ cp.map Ty.is) (fun _ : Unit => True) (fun _ => Lc) (fun _ => .is (.bool (p k)))) : CallL Try.prog f_slices_DeleteFunc_sl_api_Read_api_Read (ownO rs ty_api_Read Lc) Φc [.is (sliceO rs xs.length rc), .is (.func (.func f) #[] cp.toArray)] (fun z : Option (Nat × List Value) => Grows Rd.cells 8 (xs.filter fun r => !p r) z rc) (fun z => ownO z ty_api_Read Lc) (fun z => .is (sliceO z (xs.filter fun r => !p r).length rc)) :=
CallL.of (fn := Try.f50) Try.func50 (n := 42) rfl rfl rfl (fun _ _ => by kernel_rfl) fun E W hb0 => by
  refine J.nodup fun hnd => ?_
  have hob : AllOb (ownO rs ty_api_Read Lc) := ownO_ob _ _ hLc
  repeat refine J.seq ?_
  refine J.plain ?_
  refine JO.t (ob_assign rfl) rfl ?_
  refine JO.nil ?_
  repeat (first | refine JX.next ?_ | refine JX.normal_block ?_)
  refine J.sel [0, 1] (.cons rfl (.cons rfl .nil)) ?_
  repeat refine J.seq ?_
  refine J.plain ?_
  refine JO.t (ob_move rfl) rfl ?_
  refine JO.t (ob_move rfl) rfl ?_
  refine JO.t (ob_callB rfl (c_slices_IndexFunc_sl_api_Read_api_Read hG hl f cp Lc hLc Φc p (fun k _ => hf k)) hob (fun _ h => h) (fun _ _ _ => hnd) (fun _ h => h) (.one rfl (.one rfl .nil))) rfl ?_
  refine JO.t (ob_assign rfl) rfl ?_
  refine JO.nil ?_
  repeat (first | refine JX.next ?_ | refine JX.normal_block ?_)
  refine J.sel [0, 1, 5] (.cons rfl (.cons rfl (.cons rfl .nil))) ?_
  repeat refine J.seq ?_
  refine J.plain ?_
  refine JO.t (ob_move rfl) rfl ?_
  refine JO.t (ob_eql rfl rfl) rfl ?_
  refine JO.nil ?_
  repeat (first | refine JX.next ?_ | refine JX.normal_block ?_)
  refine J.sel [0, 1, 5, 12] (.cons rfl (.cons rfl (.cons rfl (.cons rfl .nil)))) ?_
  repeat refine J.seq ?_
  refine J.cond rfl (fun ht12 => ?_) (fun ht12 => ?_)
  ·
    try simp only [decide_eq_true_eq, decide_eq_false_iff_not] at ht12
    repeat refine J.seq ?_
    refine J.plain ?_
    refine JO.t (ob_move rfl) rfl ?_
    refine JO.t (ob_assign rfl) rfl ?_
    refine JO.nil ?_
    repeat (first | refine JX.next ?_ | refine JX.normal_block ?_)
    refine J.sel [4] (.cons rfl .nil) ?_
    repeat refine J.seq ?_
    refine J.ret ?_
    repeat (first | refine JX.ret_pass ?_ | refine JX.ret_block ?_)
    have hnone : ∀ x ∈ xs, p x = false := by
      rcases idx_spec (p := p) (xs := xs) with ⟨_, h⟩ | ⟨i, hi, _⟩
      · exact h
      · rw [hi] at ht12; simp at ht12
    have hfl : xs.filter (fun r => !p r) = xs := List.filter_eq_self.2 fun x hx => by simp [hnone x hx]
    exact JX.retL1 (Lr := []) (L1 := fun z : Option (Nat × List Value) => ownO z ty_api_Read Lc) (R := fun z => .is (sliceO z (xs.filter fun r => !p r).length rc)) rfl rs (by rw [hfl]; exact hG) (List.Perm.of_eq (List.append_nil _).symm) (ob_out hob) rfl hb0 rfl (Sub.isEq (by rw [hfl]))
  ·
    try simp only [decide_eq_true_eq, decide_eq_false_iff_not] at ht12
    refine J.skip ?_
    repeat (first | refine JX.next ?_ | refine JX.normal_block ?_)
    obtain ⟨hm1, _⟩ | ⟨i0, hi0e, hi0, ⟨v0, hv0, hp0⟩, hbf⟩ := idx_spec (p := p) (xs := xs)
    · exact absurd ht12 (by rw [hm1]; simp)
    obtain ⟨b9, cs9, rfl⟩ := grows_some hG (by omega)
    rw [hi0e]
    repeat refine J.seq ?_
    refine J.plain ?_
    refine JO.t (ob_move rfl) rfl ?_
    refine JO.t (ob_addc (cc := ((i0 + 1 : Nat) : Int)) rfl rfl (by omega) (by omega) (by omega)) rfl ?_
    refine JO.t (ob_assign rfl) rfl ?_
    refine JO.nil ?_
    repeat (first | refine JX.next ?_ | refine JX.normal_block ?_)
    refine J.sel [0, 1, 5, 6] (.cons rfl (.cons rfl (.cons rfl (.cons rfl .nil)))) ?_
    repeat refine J.seq ?_
    refine J.block ?_
    repeat refine J.seq ?_
    refine J.loopG (α := Nat × Nat × List Rd × List Value) (fun z => [(0, .is (.slice (some ⟨b9, 0, none⟩) xs.length rc)), (1, .is (.func (.func f) #[] cp.toArray)), (5, .is (.int .i64 (z.1 : Nat))), (6, .is (.int .i64 (z.2.1 : Nat)))]) (fun z => ⟨b9, ty_api_Read, .is (.agg z.2.2.2.toArray)⟩ :: Lc) (fun z => fun _ => True) (fun z => DelSt p xs z.1 z.2.1 z.2.2.1 ∧ Grows Rd.cells 8 z.2.2.1 (some (b9, z.2.2.2)) rc) (fun z => xs.length - z.2.1) (i0, i0 + 1, xs, cs9) [0, 1, 5, 6] (.cons rfl (.cons rfl (.cons rfl (.cons rfl .nil)))) rfl (fun _ => trivial) ⟨DelSt.start hi0 hbf hv0 hp0, hG⟩ fun ⟨i, j, ys, cs⟩ ⟨hD, hGy⟩ => ?_
    try dsimp only
    try dsimp only at j
    try dsimp only at ys
    try dsimp only at cs
    try dsimp only at hD
    try dsimp only at hGy
    repeat refine J.seq ?_
    refine J.plain ?_
    refine JO.t (ob_move rfl) rfl ?_
    refine JO.t (ob_move rfl) rfl ?_
    refine JO.t (ob_len un_sl_api_Read rfl) rfl ?_
    refine JO.t (ob_lss rfl rfl) rfl ?_
    refine JO.nil ?_
    repeat (first | refine JX.next ?_ | refine JX.normal_block ?_)
    refine J.sel [0, 1, 5, 6, 19] (.cons rfl (.cons rfl (.cons rfl (.cons rfl (.cons rfl .nil))))) ?_
    repeat refine J.seq ?_
    refine J.cond rfl (fun ht19 => ?_) (fun ht19 => ?_)
    ·
      try simp only [decide_eq_true_eq, decide_eq_false_iff_not] at ht19
      refine J.skip ?_
      repeat (first | refine JX.next ?_ | refine JX.normal_block ?_)
      repeat refine J.seq ?_
      refine J.block ?_
      have hjl : j < xs.length := by have := hD.len; omega
      obtain ⟨v, hv⟩ : ∃ v, xs[j]? = some v := ⟨xs[j], List.getElem?_eq_getElem hjl⟩
      have hvy : ys[j]? = some v := by rw [hD.suf j (Nat.le_refl _)]; exact hv
      refine J.nodup fun hnd2 => ?_
      repeat refine J.seq ?_
      refine J.plain ?_
      refine JO.t (ob_move rfl) rfl ?_
      refine JO.t (ob_move rfl) rfl ?_
      refine JO.t (ob_indexAddr el_sl_api_Read rfl rfl rfl (by omega) (by omega)) rfl ?_
      refine JO.t (ob_ldGr Rd.len sz_api_Read rfl List.mem_cons_self hGy hvy (by simp)) rfl ?_
      refine JO.alloc zo_api_Read rfl fun b7 => ?_
      refine JO.m (obm_store rfl rfl (by repeat (first | exact .here | apply Upd.there)) (by first | exact cnt_is rfl rfl | exact cnt_ex) (by first | exact cnt_is rfl rfl | exact cnt_ex | exact cnt_aggO) ss_api_Read) (by rfl) ?_
      refine JO.nil ?_
      repeat (first | refine JX.next ?_ | refine JX.normal_block ?_)
      refine J.sel [0, 1, 5, 6, 7] (.cons rfl (.cons rfl (.cons rfl (.cons rfl (.cons rfl .nil))))) ?_
      repeat refine J.seq ?_
      refine J.plain ?_
      refine JO.t (ob_move rfl) rfl ?_
      refine JO.t (ob_ldN (cs := [_, _, _, _, _, _, _, _]) sz_api_Read rfl rfl rfl) rfl ?_
      refine JO.t (ob_callBv rfl (hf v) hLc (fun o ho => List.mem_cons_of_mem _ (List.mem_cons_of_mem _ ho)) (fun _ _ _ => (((List.sublist_cons_self _ _).map _).nodup hnd2)) (fun _ h => List.mem_cons_of_mem _ h) (.one rfl .nil)) rfl ?_
      refine JO.t (ob_not rfl) rfl ?_
      refine JO.nil ?_
      repeat (first | refine JX.next ?_ | refine JX.normal_block ?_)
      refine J.sel [0, 1, 5, 6, 7, 29] (.cons rfl (.cons rfl (.cons rfl (.cons rfl (.cons rfl (.cons rfl .nil)))))) ?_
      repeat refine J.seq ?_
      refine J.cond rfl (fun ht29 => ?_) (fun ht29 => ?_)
      ·
        try simp only [decide_eq_true_eq, decide_eq_false_iff_not] at ht29
        repeat refine J.seq ?_
        refine J.plain ?_
        refine JO.t (ob_move rfl) rfl ?_
        refine JO.t (ob_move rfl) rfl ?_
        refine JO.t (ob_ldN (cs := [_, _, _, _, _, _, _, _]) sz_api_Read rfl rfl rfl) rfl ?_
        refine JO.t (ob_indexAddr el_sl_api_Read rfl rfl rfl (by omega) (by have := hD.ij; omega)) rfl ?_
        refine JO.m (obm_storeGr Rd.len rd_one ss_api_Read rfl rfl hGy (i := i) (v := v) (by have := hD.ij; have := hD.len; omega) (by simp) (.there .here)) (by rfl) ?_
        refine JO.nil ?_
        repeat (first | refine JX.next ?_ | refine JX.normal_block ?_)
        refine J.sel [0, 1, 5, 6] (.cons rfl (.cons rfl (.cons rfl (.cons rfl .nil)))) ?_
        repeat refine J.seq ?_
        refine J.plain ?_
        refine JO.t (ob_move rfl) rfl ?_
        refine JO.t (ob_addc (cc := ((i + 1 : Nat) : Int)) rfl rfl (by omega) (by omega) (by have := hD.ij; omega)) rfl ?_
        refine JO.t (ob_assign rfl) rfl ?_
        refine JO.nil ?_
        repeat (first | refine JX.next ?_ | refine JX.normal_block ?_)
        refine J.sel [0, 1, 5, 6] (.cons rfl (.cons rfl (.cons rfl (.cons rfl .nil)))) ?_
        refine J.drop ?_
        repeat refine J.seq ?_
        refine J.plain ?_
        refine JO.t (ob_move rfl) rfl ?_
        refine JO.t (ob_addc (cc := ((j + 1 : Nat) : Int)) rfl rfl (by omega) (by omega) (by omega)) rfl ?_
        refine JO.t (ob_assign rfl) rfl ?_
        refine JO.nil ?_
        repeat refine JX.normal_block ?_
        refine JX.roundG (x := (i, j, ys, cs)) (i + 1, j + 1, ys.set i v, splice cs (i * 8) (Rd.cells v)) ?_ ?_ [0, 1, 5, 6] ?_ ?_ ?_ ?_
        · exact ⟨hD.put hv (by simpa using ht29), grows_set Rd.len hGy (by have := hD.ij; have := hD.len; omega) v⟩
        · exact (by simp only; omega)
        · exact (.cons rfl (.cons rfl (.cons rfl (.cons rfl .nil))))
        · repeat (first | exact .all | exact .nil | refine Has.own (by repeat (first | exact .here | apply Tl.past | apply Tl.there)) ?_ | refine Has.cons (by repeat (first | exact .here | apply Pk.past | apply Pk.there)) ?_)
        · exact fun G hG => by repeat (first | exact hG | refine List.mem_cons_of_mem _ ?_)
        · exact fun _ _ _ => fun _ _ => trivial
      ·
        try simp only [decide_eq_true_eq, decide_eq_false_iff_not] at ht29
        refine J.skip ?_
        repeat (first | refine JX.next ?_ | refine JX.normal_block ?_)
        refine J.drop ?_
        repeat refine J.seq ?_
        refine J.plain ?_
        refine JO.t (ob_move rfl) rfl ?_
        refine JO.t (ob_addc (cc := ((j + 1 : Nat) : Int)) rfl rfl (by omega) (by omega) (by omega)) rfl ?_
        refine JO.t (ob_assign rfl) rfl ?_
        refine JO.nil ?_
        repeat refine JX.normal_block ?_
        refine JX.roundG (x := (i, j, ys, cs)) (i, j + 1, ys, cs) ?_ ?_ [0, 1, 5, 6] ?_ ?_ ?_ ?_
        · exact ⟨hD.skip hv (by simpa using ht29), hGy⟩
        · exact (by simp only; omega)
        · exact (.cons rfl (.cons rfl (.cons rfl (.cons rfl .nil))))
        · repeat (first | exact .all | exact .nil | refine Has.own (by repeat (first | exact .here | apply Tl.past | apply Tl.there)) ?_ | refine Has.cons (by repeat (first | exact .here | apply Pk.past | apply Pk.there)) ?_)
        · exact fun G hG => by repeat (first | exact hG | refine List.mem_cons_of_mem _ ?_)
        · exact fun _ _ _ => fun _ _ => trivial
    ·
      try simp only [decide_eq_true_eq, decide_eq_false_iff_not] at ht19
      repeat refine J.seq ?_
      refine J.exit ?_
      repeat (first | refine JX.hit ?_ | refine JX.miss rfl ?_ | refine JX.exit_pass ?_)
      repeat (first | refine JX.next ?_ | refine JX.normal_block ?_)
      repeat refine J.seq ?_
      refine J.plain ?_
      refine JO.t (ob_move rfl) rfl ?_
      refine JO.t (ob_move rfl) rfl ?_
      refine JO.t (ob_sliceLo1 (n := i) un_sl_api_Read el_sl_api_Read rfl rfl (by have := hD.ij; have := hD.jl; omega) (by have := hD.ij; have := hGy.2.1; have := hD.len; have := hD.jl; omega)) rfl ?_
      refine JO.m (obm_clear (sz := 8) (zs := Rd.cells rd0) un_sl_api_Read rfl rfl rfl rfl (by have h1 := hGy.1; have h2 := hGy.2.1; have := hD.len; have := hD.ij; have := hD.jl; simp; omega) .here) (by rfl) ?_
      refine JO.nil ?_
      repeat (first | refine JX.next ?_ | refine JX.normal_block ?_)
      refine J.sel [0, 5] (.cons rfl (.cons rfl .nil)) ?_
      repeat refine J.seq ?_
      refine J.plain ?_
      refine JO.t (ob_move rfl) rfl ?_
      refine JO.t (ob_move rfl) rfl ?_
      refine JO.t (ob_sliceHi un_sl_api_Read el_sl_api_Read rfl rfl (by omega) (by have := hD.ij; have := hGy.2.1; have := hD.len; have := hD.jl; omega)) rfl ?_
      refine JO.t (ob_assign rfl) rfl ?_
      refine JO.nil ?_
      repeat (first | refine JX.next ?_ | refine JX.normal_block ?_)
      refine J.sel [4] (.cons rfl .nil) ?_
      repeat refine J.seq ?_
      refine J.ret ?_
      repeat (first | refine JX.ret_pass ?_ | refine JX.ret_block ?_)
      have hji : j = xs.length := by have := hD.jl; have := hD.len; omega
      have hpre : ys.take i = xs.filter fun r => !p r := by rw [hD.pre, hji, del_all]
      have hil : (xs.filter fun r => !p r).length = i := by rw [hD.i_eq, hji, del_all]
      have hGf := grows_take Rd.len (grows_fill Rd.len hGy (i := i) (by have := hD.ij; have := hD.len; omega) (List.replicate (xs.length - i) rd0) (by rw [List.length_replicate]; have := hD.ij; have := hD.len; omega)) (i := i) (by simp; have := hD.ij; have := hD.len; omega)
      rw [List.take_append_of_le_length (by rw [List.length_take]; have := hD.ij; have := hD.len; omega), List.take_take, Nat.min_self, hpre, ← rep_rd0] at hGf
      exact JX.retL1 (Lr := []) (L1 := fun z : Option (Nat × List Value) => ownO z ty_api_Read Lc) (R := fun z => .is (sliceO z (xs.filter fun r => !p r).length rc)) rfl (some (b9, splice cs (i * 8) (List.replicate (xs.length - i) (Rd.cells rd0)).flatten)) hGf (by simp; exact .refl _) (ob_out (ownO_ob _ _ hLc)) rfl hb0 rfl (Sub.isEq (by rw [hil]; rfl))
end Go.Proofs.Ytggmifnkgcladaa
