/- ssi: keep. No condition. -/
import Derived.Test.YtggmifnkgcladaaXN3
set_option maxRecDepth 20000
namespace Go.Proofs.Ytggmifnkgcladaa
open Go Go.Vc
open Go.Si Go.Vl
abbrev z3 : V3 := ⟨0, 0, ⟨#[]⟩⟩
def allR (r : Rd) : Rd := ⟨r.t, -1, z3, z3⟩
def rdEq (a b : Rd) : Bool := seq a.t b.t && ((a.col == b.col) && (veq a.lo.k a.lo.n a.lo.s b.lo.k b.lo.n b.lo.s && veq a.hi.k a.hi.n a.hi.s b.hi.k b.hi.n b.hi.s))
def kpHit (r k : Rd) : Bool := rdEq k r || rdEq k (allR r)
def sameT (r k : Rd) : Bool := seq k.t r.t
def kpN (l : List Rd) (r : Rd) : Nat := (l.filter (sameT r)).length
def kpAll (l : List Rd) (r : Rd) : Bool := decide (4 ≤ (kpN l r : Int)) || (r.col == -1)
def kpR (l : List Rd) (r : Rd) : Rd := match l.find? (kpHit r) with | some k => k | none => if kpAll l r then allR r else r
def kpL (l : List Rd) (r : Rd) : List Rd := match l.find? (kpHit r) with | some _ => l | none => if kpAll l r then (l.filter fun k => !sameT r k) ++ [allR r] else l ++ [r]
def setRd (z : Option (Nat × List Value) × Nat) (l : List Rd) (x : TM) : TM := { x with rs := z.1, rc := z.2, reads := l }
theorem kpN_snoc {l : List Rd} {r : Rd} {i : Nat} {v : Rd} (hv : l[i]? = some v) : kpN (l.take (i + 1)) r = kpN (l.take i) r + (if sameT r v then 1 else 0) := by
  unfold kpN
  rw [List.take_add_one, hv, Option.toList_some, List.filter_append, List.length_append]
  cases hs : sameT r v <;> simp [hs]
theorem find_hit {l : List Rd} {p : Rd → Bool} {i : Nat} {v : Rd} (hv : l[i]? = some v) (h0 : ∀ j w, j < i → l[j]? = some w → p w = false) (hp : p v = true) : l.find? p = some v := by
  induction l generalizing i with
  | nil => simp at hv
  | cons x l ih =>
    cases i with
    | zero => simp at hv; subst hv; simp [hp]
    | succ i =>
      have h1 := h0 0 x (Nat.succ_pos _) rfl
      rw [List.find?_cons, h1]
      exact ih (by simpa using hv) (fun j w hj hw => h0 (j + 1) w (by omega) (by simpa using hw))
theorem find_not {l : List Rd} {p : Rd → Bool} (h0 : ∀ j w, j < l.length → l[j]? = some w → p w = false) : l.find? p = none := by
  rw [List.find?_eq_none]
  intro x hx
  obtain ⟨j, hj, rfl⟩ := List.getElem_of_mem hx
  rw [h0 j _ hj (List.getElem?_eq_getElem hj)]
  simp
theorem ownO_split (st : Option (Nat × List Value)) (e : TypeId) (L : List Own) : ownO st e L = ownO st e [] ++ L := by cases st <;> rfl
theorem perm_kp (a b c d : Own) (A : List Own) : (a :: b :: c :: d :: A).Perm ((A ++ [c]) ++ [a, b, d]) := by
  rw [List.append_assoc]
  refine List.Perm.trans ?_ (List.perm_append_comm (l₁ := [c] ++ [a, b, d]) (l₂ := A))
  show (a :: b :: c :: d :: A).Perm (c :: a :: b :: d :: A)
  exact ((List.Perm.swap c b (d :: A)).cons a).trans (List.Perm.swap c a _)
theorem upd_ownO {st : Option (Nat × List Value)} {e : TypeId} {L L' : List Own} {o o' : Own} (h : Upd L o o' L') : Upd (ownO st e L) o o' (ownO st e L') := by
  cases st with
  | none => exact h
  | some p => exact .there h
theorem kp_out (y : TM) (st : Option (Nat × List Value)) (e : TypeId) : ((⟨y.b, ty_ssi_tx, .is (.agg y.cs.toArray)⟩ : Own) :: ownO st e []).all (fun o => o.T.out) = true := ob_out (ob_cons (.inl ⟨_, rfl⟩) (ownO_ob _ _ nil_ob))
theorem mem_own4 {st : Option (Nat × List Value)} {e : TypeId} {a b' c d : Own} {b : Nat} {cs : List Value} (h : st = some (b, cs)) : (⟨b, e, .is (.agg cs.toArray)⟩ : Own) ∈ a :: b' :: c :: d :: ownO st e [] := by
  subst h
  exact List.mem_cons_of_mem _ (List.mem_cons_of_mem _ (List.mem_cons_of_mem _ (List.mem_cons_of_mem _ List.mem_cons_self)))
theorem perm_fin (st : Option (Nat × List Value)) (e : TypeId) (a b c d : Own) : (ownO st e [a, b, c, d]).Perm ((d :: ownO st e []) ++ [a, b, c]) := by
  rw [ownO_split]
  refine List.perm_append_comm.trans ?_
  show (a :: b :: c :: d :: ownO st e []).Perm _
  have := perm_kp a b d c (ownO st e [])
  refine ((List.Perm.swap d c (ownO st e [])).cons b |>.cons a).trans ?_
  refine ((perm_kp a b d c (ownO st e []))).trans ?_
  refine (List.Perm.append_right _ (List.perm_append_comm (l₁ := ownO st e []) (l₂ := [d]))).trans ?_
  exact .refl _
theorem c_p_ssi_tx_keep (x : TM) (hG : Grows Rd.cells 8 x.reads x.rs x.rc) (hfit : x.reads.length < 1048576) (r : Rd) : CallL Try.prog f_p_ssi_tx_keep (⟨x.b, ty_ssi_tx, .is (.agg x.cs.toArray)⟩ :: ownO x.rs ty_api_Read []) [] [.is (.pointer (some ⟨x.b, 0, none⟩)), .is (rdA r)] (fun z : Option (Nat × List Value) × Nat => Grows Rd.cells 8 (kpL x.reads r) z.1 z.2) (fun z => ⟨x.b, ty_ssi_tx, .is (.agg (setRd z (kpL x.reads r) x).cs.toArray)⟩ :: ownO z.1 ty_api_Read []) (fun _ => .is (rdA (kpR x.reads r))) :=
CallL.of (fn := Try.f32) Try.func32 (n := 66) rfl rfl rfl (fun _ _ => by kernel_rfl) fun E W hb0 => by
  repeat refine J.seq ?_
  refine J.plain ?_
  refine JO.box rfl rfl fun b3 => ?_
  refine JO.alloc zo_api_Read rfl fun b4 => ?_
  refine JO.nil ?_
  repeat (first | refine JX.next ?_ | refine JX.normal_block ?_)
  refine J.sel [0, 3, 4] (.cons rfl (.cons rfl (.cons rfl .nil))) ?_
  repeat refine J.seq ?_
  refine J.plain ?_
  refine JO.t (ob_makeFunc .nil (.cons rfl .nil)) rfl ?_
  refine JO.t (ob_assign rfl) rfl ?_
  refine JO.nil ?_
  repeat (first | refine JX.next ?_ | refine JX.normal_block ?_)
  refine J.sel [0, 3, 4, 5] (.cons rfl (.cons rfl (.cons rfl (.cons rfl .nil)))) ?_
  repeat refine J.seq ?_
  refine J.plain ?_
  refine JO.t (ob_fieldAddr fo_api_Read_0 rfl) rfl ?_
  refine JO.t (ob_ld1 sz_string rfl rfl) rfl ?_
  refine JO.t (ob_build (cs := [_, _, _, _, _, _, _, _]) sh_api_Read (.cons rfl (.cons rfl .nil)) rfl rfl) rfl ?_
  refine JO.alloc zo_api_Read rfl fun b6 => ?_
  refine JO.m (obm_store rfl rfl (by repeat (first | exact .here | apply Upd.there)) (by first | exact cnt_is rfl rfl | exact cnt_ex) (by first | exact cnt_is rfl rfl | exact cnt_ex | exact cnt_aggO) ss_api_Read) (by rfl) ?_
  refine JO.nil ?_
  repeat (first | refine JX.next ?_ | refine JX.normal_block ?_)
  refine J.sel [0, 3, 4, 5, 6] (.cons rfl (.cons rfl (.cons rfl (.cons rfl (.cons rfl .nil))))) ?_
  repeat refine J.seq ?_
  refine J.plain ?_
  refine JO.t (ob_assign rfl) rfl ?_
  refine JO.nil ?_
  repeat (first | refine JX.next ?_ | refine JX.normal_block ?_)
  refine J.sel [0, 3, 4, 5, 6, 7] (.cons rfl (.cons rfl (.cons rfl (.cons rfl (.cons rfl (.cons rfl .nil)))))) ?_
  repeat refine J.seq ?_
  refine J.plain ?_
  refine JO.t (ob_move rfl) rfl ?_
  refine JO.t (ob_nilCheck rfl) rfl ?_
  refine JO.t (ob_fieldAddr fo_ssi_tx_2 rfl) rfl ?_
  refine JO.t (ob_ld1 sz_sl_api_Read rfl rfl) rfl ?_
  refine JO.t (ob_lenO un_sl_api_Read rfl (grows_none hG)) rfl ?_
  refine JO.t (ob_move rfl) rfl ?_
  refine JO.nil ?_
  repeat (first | refine JX.next ?_ | refine JX.normal_block ?_)
  refine J.sel [0, 3, 4, 5, 6, 7, 17, 18, 19] (.cons rfl (.cons rfl (.cons rfl (.cons rfl (.cons rfl (.cons rfl (.cons rfl (.cons rfl (.cons rfl .nil))))))))) ?_
  repeat refine J.seq ?_
  refine J.block ?_
  repeat refine J.seq ?_
  refine J.loopG (α := Nat × Nat) (fun z => [(0, .is (.pointer (some ⟨x.b, 0, none⟩))), (3, .is (.pointer (some ⟨b3, 0, none⟩))), (4, .is (.pointer (some ⟨b4, 0, none⟩))), (5, .is (.func (.func 49) #[] #[.pointer (some ⟨b3, 0, none⟩)])), (6, .is (.pointer (some ⟨b6, 0, none⟩))), (7, .is (.int .i64 (z.2 : Nat))), (17, .is (sliceO x.rs x.reads.length x.rc)), (18, .is (.int .i64 (x.reads.length : Nat))), (19, .is (.int .i64 (z.1 : Nat)))]) (fun z => ⟨b6, ty_api_Read, .is (rdA (allR r))⟩ :: ⟨b4, ty_api_Read, .is (rdA rd0)⟩ :: boxR b3 r :: ⟨x.b, ty_ssi_tx, .is (.agg x.cs.toArray)⟩ :: ownO x.rs ty_api_Read []) (fun z => fun _ => True) (fun z => z.1 ≤ x.reads.length ∧ z.2 = kpN (x.reads.take z.1) r ∧ z.2 ≤ z.1 ∧ ∀ j w, j < z.1 → x.reads[j]? = some w → kpHit r w = false) (fun z => x.reads.length - z.1) (0, 0) [0, 3, 4, 5, 6, 7, 17, 18, 19] (.cons rfl (.cons rfl (.cons rfl (.cons rfl (.cons rfl (.cons rfl (.cons rfl (.cons rfl (.cons rfl .nil))))))))) rfl (fun _ => trivial) ⟨Nat.zero_le _, rfl, Nat.le_refl _, fun j w hj => absurd hj (Nat.not_lt_zero _)⟩ fun ⟨i, n⟩ ⟨hi, hn, hni, h0⟩ => ?_
  try dsimp only
  try dsimp only at n
  try dsimp only at hi
  try dsimp only at hn
  try dsimp only at hni
  try dsimp only at h0
  repeat refine J.seq ?_
  refine J.plain ?_
  refine JO.t (ob_lss rfl rfl) rfl ?_
  refine JO.nil ?_
  repeat (first | refine JX.next ?_ | refine JX.normal_block ?_)
  refine J.sel [0, 3, 4, 5, 6, 7, 17, 18, 19, 20] (.cons rfl (.cons rfl (.cons rfl (.cons rfl (.cons rfl (.cons rfl (.cons rfl (.cons rfl (.cons rfl (.cons rfl .nil)))))))))) ?_
  repeat refine J.seq ?_
  refine J.cond rfl (fun ht20 => ?_) (fun ht20 => ?_)
  ·
    try simp only [decide_eq_true_eq, decide_eq_false_iff_not] at ht20
    refine J.skip ?_
    repeat (first | refine JX.next ?_ | refine JX.normal_block ?_)
    repeat refine J.seq ?_
    refine J.block ?_
    have hil : i < x.reads.length := by omega
    obtain ⟨v, hv⟩ : ∃ v, x.reads[i]? = some v := ⟨x.reads[i], List.getElem?_eq_getElem hil⟩
    obtain ⟨b8, cs8, hrs⟩ := grows_some hG (by omega)
    repeat refine J.seq ?_
    refine J.plain ?_
    refine JO.t (ob_indexAddr el_sl_api_Read (by rw [hrs]; rfl) rfl rfl (by omega) (by omega)) rfl ?_
    refine JO.t (ob_ldGr Rd.len sz_api_Read rfl (mem_own4 hrs) (by rw [hrs] at hG; exact hG) hv (by simp)) rfl ?_
    refine JO.alloc zo_api_Read rfl fun b9 => ?_
    refine JO.m (obm_store rfl rfl (by repeat (first | exact .here | apply Upd.there)) (by first | exact cnt_is rfl rfl | exact cnt_ex) (by first | exact cnt_is rfl rfl | exact cnt_ex | exact cnt_aggO) ss_api_Read) (by rfl) ?_
    refine JO.nil ?_
    repeat (first | refine JX.next ?_ | refine JX.normal_block ?_)
    refine J.sel [0, 3, 4, 5, 6, 7, 9, 17, 18, 19] (.cons rfl (.cons rfl (.cons rfl (.cons rfl (.cons rfl (.cons rfl (.cons rfl (.cons rfl (.cons rfl (.cons rfl .nil)))))))))) ?_
    repeat refine J.seq ?_
    refine J.reg0 hmx (by kernel_rfl) (by kernel_rfl) ?_
    refine RT.t (ob_ldN (cs := [_, _, _, _, _, _, _, _]) sz_api_Read rfl rfl rfl) ?_
    refine RT.t (ob_ldN (cs := [_, _, _, _, _, _, _, _]) sz_api_Read rfl rfl rfl) ?_
    refine RT.t (ob_req req_api_Read (a := v.lo) (b := v.hi) (a' := r.lo) (b' := r.hi) rfl rfl) ?_
    refine RT.t (ob_move rfl) ?_
    refine RT.g rfl rfl rfl (fun hg => ob_ldN (cs := [_, _, _, _, _, _, _, _]) sz_api_Read (.inl rfl) rfl rfl) ?_
    refine RT.g rfl rfl rfl (fun hg => ob_ldN (cs := [_, _, _, _, _, _, _, _]) sz_api_Read (.inl rfl) rfl rfl) ?_
    refine RT.g rfl rfl rfl (fun hg => ob_req req_api_Read (a := v.lo) (b := v.hi) (a' := z3) (b' := z3) (.inr ⟨_, rfl, fun h => h⟩) (.inr ⟨_, rfl, fun h => h⟩)) ?_
    refine RT.t (ob_pickOr rfl rfl rfl id) ?_
    refine RT.nil ?_
    refine FinS.nil0 ?_
    repeat (first | refine JX.next ?_ | refine JX.normal_block ?_)
    refine J.sel [0, 3, 4, 5, 6, 7, 9, 17, 18, 19, 30] (.cons rfl (.cons rfl (.cons rfl (.cons rfl (.cons rfl (.cons rfl (.cons rfl (.cons rfl (.cons rfl (.cons rfl (.cons rfl .nil))))))))))) ?_
    repeat refine J.seq ?_
    refine J.cond rfl (fun ht30 => ?_) (fun ht30 => ?_)
    ·
      try simp only [decide_eq_true_eq, decide_eq_false_iff_not] at ht30
      repeat refine J.seq ?_
      refine J.plain ?_
      refine JO.t (ob_ldN (cs := [_, _, _, _, _, _, _, _]) sz_api_Read rfl rfl rfl) rfl ?_
      refine JO.m (obm_store rfl rfl (by repeat (first | exact .here | apply Upd.there)) (by first | exact cnt_is rfl rfl | exact cnt_ex) (by first | exact cnt_is rfl rfl | exact cnt_ex | exact cnt_aggO) ss_api_Read) (by rfl) ?_
      refine JO.nil ?_
      repeat (first | refine JX.next ?_ | refine JX.normal_block ?_)
      refine J.sel [4] (.cons rfl .nil) ?_
      repeat refine J.seq ?_
      refine J.ret ?_
      repeat (first | refine JX.ret_pass ?_ | refine JX.ret_block ?_)
      have hh := find_hit (p := kpHit r) hv h0 ht30
      have hkl : kpL x.reads r = x.reads := by unfold kpL; rw [hh]
      have hkr : kpR x.reads r = v := by unfold kpR; rw [hh]
      exact JX.retLC (Lr := [_, _, _, _]) (L1 := fun z : Option (Nat × List Value) × Nat => ⟨x.b, ty_ssi_tx, .is (.agg (setRd z (kpL x.reads r) x).cs.toArray)⟩ :: ownO z.1 ty_api_Read []) (R := fun _ => .is (rdA (kpR x.reads r))) rfl (x.rs, x.rc) (by rw [hkl]; exact hG) (by rw [hkl]; exact List.perm_append_comm (l₁ := [_, _, _, _])) (kp_out _ _ _) hb0 rfl sz_api_Read HasOwn.mem rfl (by rw [hkr]; rfl)
    ·
      try simp only [decide_eq_true_eq, decide_eq_false_iff_not] at ht30
      refine J.skip ?_
      repeat (first | refine JX.next ?_ | refine JX.normal_block ?_)
      have hnh : kpHit r v = false := ht30
      have hstep : ∀ j w, j < i + 1 → x.reads[j]? = some w → kpHit r w = false := fun j w hj hw => by
        rcases Nat.lt_or_ge j i with h | h
        · exact h0 j w h hw
        · have : j = i := by omega
          subst this
          rw [hv] at hw; injection hw with hw; subst hw; exact hnh
      refine J.nodup fun hnd => ?_
      repeat refine J.seq ?_
      refine J.plain ?_
      refine JO.t (ob_move rfl) rfl ?_
      refine JO.t (ob_ldN (cs := [_, _, _, _, _, _, _, _]) sz_api_Read rfl rfl rfl) rfl ?_
      refine JO.t (ob_callBv (cp := [.pointer (some ⟨b3, 0, none⟩)]) rfl (c_p_ssi_tx_keep_1 b3 r v) boxR_ob (fun o ho => by rw [List.mem_singleton.1 ho]; repeat (first | exact List.mem_cons_self | apply List.mem_cons_of_mem)) (fun _ _ _ => by simp) (fun _ h => by cases h) (.one rfl .nil)) rfl ?_
      refine JO.nil ?_
      repeat (first | refine JX.next ?_ | refine JX.normal_block ?_)
      refine J.sel [0, 3, 4, 5, 6, 7, 17, 18, 19, 34] (.cons rfl (.cons rfl (.cons rfl (.cons rfl (.cons rfl (.cons rfl (.cons rfl (.cons rfl (.cons rfl (.cons rfl .nil)))))))))) ?_
      repeat refine J.seq ?_
      refine J.cond rfl (fun ht34 => ?_) (fun ht34 => ?_)
      ·
        try simp only [decide_eq_true_eq, decide_eq_false_iff_not] at ht34
        repeat refine J.seq ?_
        refine J.plain ?_
        refine JO.t (ob_move rfl) rfl ?_
        refine JO.t (ob_addc (cc := ((n + 1 : Nat) : Int)) rfl rfl (by omega) (by omega) (by omega)) rfl ?_
        refine JO.t (ob_assign rfl) rfl ?_
        refine JO.nil ?_
        repeat (first | refine JX.next ?_ | refine JX.normal_block ?_)
        refine J.sel [0, 3, 4, 5, 6, 7, 17, 18, 19] (.cons rfl (.cons rfl (.cons rfl (.cons rfl (.cons rfl (.cons rfl (.cons rfl (.cons rfl (.cons rfl .nil))))))))) ?_
        refine J.drop ?_
        repeat refine J.seq ?_
        refine J.plain ?_
        refine JO.t (ob_addc (cc := ((i + 1 : Nat) : Int)) rfl rfl (by omega) (by omega) (by omega)) rfl ?_
        refine JO.t (ob_move rfl) rfl ?_
        refine JO.nil ?_
        repeat refine JX.normal_block ?_
        refine JX.roundG (x := (i, n)) (i + 1, n + 1) ?_ ?_ [0, 3, 4, 5, 6, 7, 17, 18, 19] ?_ ?_ ?_ ?_
        · exact ⟨by simp only; omega, by show n + 1 = _; rw [kpN_snoc hv, show sameT r v = true from ht34, hn]; rfl, by show n + 1 ≤ i + 1; omega, hstep⟩
        · exact (by simp only; omega)
        · exact (.cons rfl (.cons rfl (.cons rfl (.cons rfl (.cons rfl (.cons rfl (.cons rfl (.cons rfl (.cons rfl .nil)))))))))
        · repeat (first | exact .all | exact .nil | refine Has.own (by repeat (first | exact .here | apply Tl.past | apply Tl.there)) ?_ | refine Has.cons (by repeat (first | exact .here | apply Pk.past | apply Pk.there)) ?_)
        · exact fun G hG => by repeat (first | exact hG | refine List.mem_cons_of_mem _ ?_)
        · exact fun _ _ _ => fun _ _ => trivial
      ·
        try simp only [decide_eq_true_eq, decide_eq_false_iff_not] at ht34
        refine J.skip ?_
        repeat (first | refine JX.next ?_ | refine JX.normal_block ?_)
        refine J.drop ?_
        repeat refine J.seq ?_
        refine J.plain ?_
        refine JO.t (ob_addc (cc := ((i + 1 : Nat) : Int)) rfl rfl (by omega) (by omega) (by omega)) rfl ?_
        refine JO.t (ob_move rfl) rfl ?_
        refine JO.nil ?_
        repeat refine JX.normal_block ?_
        refine JX.roundG (x := (i, n)) (i + 1, n) ?_ ?_ [0, 3, 4, 5, 6, 7, 17, 18, 19] ?_ ?_ ?_ ?_
        · exact ⟨by simp only; omega, by show n = _; rw [kpN_snoc hv, show sameT r v = false from ht34, hn]; rfl, by show n ≤ i + 1; omega, hstep⟩
        · exact (by simp only; omega)
        · exact (.cons rfl (.cons rfl (.cons rfl (.cons rfl (.cons rfl (.cons rfl (.cons rfl (.cons rfl (.cons rfl .nil)))))))))
        · repeat (first | exact .all | exact .nil | refine Has.own (by repeat (first | exact .here | apply Tl.past | apply Tl.there)) ?_ | refine Has.cons (by repeat (first | exact .here | apply Pk.past | apply Pk.there)) ?_)
        · exact fun G hG => by repeat (first | exact hG | refine List.mem_cons_of_mem _ ?_)
        · exact fun _ _ _ => fun _ _ => trivial
  ·
    try simp only [decide_eq_true_eq, decide_eq_false_iff_not] at ht20
    repeat refine J.seq ?_
    refine J.exit ?_
    repeat (first | refine JX.hit ?_ | refine JX.miss rfl ?_ | refine JX.exit_pass ?_)
    repeat (first | refine JX.next ?_ | refine JX.normal_block ?_)
    have hil : i = x.reads.length := by omega
    have hnone := find_not (p := kpHit r) (l := x.reads) (fun j w hj hw => h0 j w (by omega) hw)
    have hnN : n = kpN x.reads r := by rw [hn, hil, List.take_length]
    repeat refine J.seq ?_
    refine J.reg0 hmx (by kernel_rfl) (by kernel_rfl) ?_
    refine RT.t (ob_move rfl) ?_
    refine RT.t (ob_geq rfl rfl) ?_
    refine RT.t (ob_move rfl) ?_
    refine RT.g rfl rfl rfl (fun hg => ob_fieldAddr fo_api_Read_1 (.inl rfl)) ?_
    refine RT.g rfl rfl rfl (fun hg => ob_ld1 sz_int (.inr ⟨_, rfl, fun h => h⟩) rfl) ?_
    refine RT.g rfl rfl rfl (fun hg => ob_eql (.inr ⟨_, rfl, fun h => h⟩) (.inl rfl)) ?_
    refine RT.t (ob_pickOr rfl rfl rfl id) ?_
    refine RT.nil ?_
    refine FinS.nil0 ?_
    repeat (first | refine JX.next ?_ | refine JX.normal_block ?_)
    refine J.sel [0, 3, 4, 5, 6, 44] (.cons rfl (.cons rfl (.cons rfl (.cons rfl (.cons rfl (.cons rfl .nil)))))) ?_
    repeat refine J.seq ?_
    refine J.cond rfl (fun ht44 => ?_) (fun ht44 => ?_)
    ·
      try simp only [decide_eq_true_eq, decide_eq_false_iff_not] at ht44
      repeat refine J.seq ?_
      refine J.plain ?_
      refine JO.t (ob_ldN (cs := [_, _, _, _, _, _, _, _]) sz_api_Read rfl rfl rfl) rfl ?_
      refine JO.m (obm_store rfl rfl (by repeat (first | exact .here | apply Upd.there)) (by first | exact cnt_is rfl rfl | exact cnt_ex) (by first | exact cnt_is rfl rfl | exact cnt_ex | exact cnt_aggO) ss_api_Read) (by rfl) ?_
      refine JO.nil ?_
      repeat (first | refine JX.next ?_ | refine JX.normal_block ?_)
      refine J.sel [0, 3, 4, 5] (.cons rfl (.cons rfl (.cons rfl (.cons rfl .nil)))) ?_
      repeat refine J.seq ?_
      refine J.plain ?_
      refine JO.t (ob_move rfl) rfl ?_
      refine JO.t (ob_move rfl) rfl ?_
      refine JO.t (ob_nilCheck rfl) rfl ?_
      refine JO.t (ob_fieldAddr fo_ssi_tx_2 rfl) rfl ?_
      refine JO.t (ob_ld1 sz_sl_api_Read rfl rfl) rfl ?_
      refine JO.t (ob_move rfl) rfl ?_
      refine JO.callL (Lr := [⟨b6, ty_api_Read, .is (rdA (allR r))⟩, ⟨b4, ty_api_Read, .is (rdA rd0)⟩, ⟨x.b, ty_ssi_tx, .is (.agg x.cs.toArray)⟩]) (c_slices_DeleteFunc_sl_api_Read_api_Read hG (by omega) 49 [.pointer (some ⟨b3, 0, none⟩)] [boxR b3 (allR r)] boxR_ob [] (sameT r) (fun k => c_p_ssi_tx_keep_1 b3 (allR r) k)) (fun d e => by injection e with e; show d < 66; omega) (by rw [ownO_split x.rs ty_api_Read [boxR b3 (allR r)]]; exact perm_kp _ _ _ _ _) (fun _ h => by cases h) (.one rfl (.one rfl .nil)) ?_
      intro z hG
      refine JO.subL (L' := ⟨b6, ty_api_Read, .is (rdA (allR r))⟩ :: ⟨b4, ty_api_Read, .is (rdA rd0)⟩ :: boxR b3 (allR r) :: ⟨x.b, ty_ssi_tx, .is (.agg x.cs.toArray)⟩ :: ownO z ty_api_Read []) (by rw [ownO_split z ty_api_Read [boxR b3 (allR r)]]; exact perm_kp _ _ _ _ _) ?_
      refine JO.t (ob_nilCheck rfl) rfl ?_
      refine JO.t (ob_fieldAddr fo_ssi_tx_2 rfl) rfl ?_
      refine JO.m (obm_storeF1 (cs' := (setRd (z, x.rc) (x.reads.filter fun k => !sameT r k) x).cs) (sliceO_cells _ _ _) (sliceO_one _ _ _) rfl rfl (.there (.there (.there .here))) rfl rfl ss_sl_api_Read) (by rfl) ?_
      refine JO.nil ?_
      repeat (first | refine JX.next ?_ | refine JX.normal_block ?_)
      refine J.sel [0, 3, 4] (.cons rfl (.cons rfl (.cons rfl .nil))) ?_
      repeat refine J.seq ?_
      refine J.regSf 7 0 hmx (by kernel_rfl) rfl rfl rfl rfl (by kernel_rfl) rfl (by kernel_rfl) (by kernel_rfl) (by kernel_rfl) ?_
      refine RT.t (ob_move rfl) ?_
      refine RT.t (ob_move rfl) ?_
      refine RT.t (ob_nilCheck rfl) ?_
      refine RT.t (ob_fieldAddr fo_ssi_tx_2 rfl) ?_
      refine RT.t (ob_ld1 sz_sl_api_Read rfl rfl) ?_
      refine RT.t (ob_ldN (cs := [_, _, _, _, _, _, _, _]) sz_api_Read rfl rfl rfl) ?_
      refine RT.t (ob_buildSlice (cs := [_, _, _, _, _, _, _, _]) sl_sl_api_Read (by omega) (by omega) (.cons rfl .nil) rfl rfl rfl) ?_
      refine RT.nil ?_
      refine FinS.tail0 ?_
      first
        | refine JO.apO (en := Rd.cells) (ys := [allR r]) ap_sl_api_Read Rd.len (.there (.there (.there (.there .here)))) hG rfl rfl (fun L => src_new un_sl_api_Read rfl rfl) (by simp) (by have := List.length_filter_le (fun k => !sameT r k) x.reads; simp only [List.length_cons, List.length_nil]; omega) (by have := List.length_filter_le (fun k => !sameT r k) x.reads; simp only [List.length_cons, List.length_nil]; omega) rfl (fun st1 cp1 hG1 => ?_)
        | refine JO.apO (en := Rd.cells) (ys := [r]) ap_sl_api_Read Rd.len (.there (.there (.there (.there .here)))) hG rfl rfl (fun L => src_new un_sl_api_Read rfl rfl) (by simp) (by have := List.length_filter_le (fun k => !sameT r k) x.reads; simp only [List.length_cons, List.length_nil]; omega) (by have := List.length_filter_le (fun k => !sameT r k) x.reads; simp only [List.length_cons, List.length_nil]; omega) rfl (fun st1 cp1 hG1 => ?_)
      refine JO.t (ob_nilCheck rfl) rfl ?_
      refine JO.t (ob_fieldAddr fo_ssi_tx_2 rfl) rfl ?_
      first
        | refine JO.m (obm_storeF1 (cs' := (setRd (st1, cp1) ((x.reads.filter fun k => !sameT r k) ++ [allR r]) x).cs) (sliceO_cells _ _ _) (sliceO_one _ _ _) rfl rfl (upd_ownO (.there (.there (.there .here)))) rfl rfl ss_sl_api_Read) (Upd.same (upd_ownO (.there (.there (.there .here)))) rfl) ?_
        | refine JO.m (obm_storeF1 (cs' := (setRd (st1, cp1) (x.reads ++ [r]) x).cs) (sliceO_cells _ _ _) (sliceO_one _ _ _) rfl rfl (upd_ownO (.there (.there (.there .here)))) rfl rfl ss_sl_api_Read) (Upd.same (upd_ownO (.there (.there (.there .here)))) rfl) ?_
      refine JO.nil ?_
      refine JX.nrm ?_
      repeat (first | refine JX.next ?_ | refine JX.normal_block ?_)
      refine J.sel [3, 4] (.cons rfl (.cons rfl .nil)) ?_
      repeat refine J.seq ?_
      refine J.plain ?_
      refine JO.t (ob_ldN (cs := [_, _, _, _, _, _, _, _]) sz_api_Read rfl rfl rfl) rfl ?_
      refine JO.m (obm_store rfl rfl (upd_ownO (.there .here)) (cnt_is rfl rfl) (cnt_is rfl rfl) ss_api_Read) (Upd.same (upd_ownO (.there .here)) rfl) ?_
      refine JO.nil ?_
      repeat (first | refine JX.next ?_ | refine JX.normal_block ?_)
      refine J.sel [4] (.cons rfl .nil) ?_
      repeat refine J.seq ?_
      refine J.ret ?_
      repeat (first | refine JX.ret_pass ?_ | refine JX.ret_block ?_)
      have hkl : kpL x.reads r = (x.reads.filter fun k => !sameT r k) ++ [allR r] := by unfold kpL; rw [hnone]; simp only [kpAll, ← hnN, ht44]; rfl
      have hkr : kpR x.reads r = allR r := by unfold kpR; rw [hnone]; simp only [kpAll, ← hnN, ht44]; rfl
      exact JX.retLC (Lr := [_, _, _]) (L1 := fun z : Option (Nat × List Value) × Nat => ⟨x.b, ty_ssi_tx, .is (.agg (setRd z (kpL x.reads r) x).cs.toArray)⟩ :: ownO z.1 ty_api_Read []) (R := fun _ => .is (rdA (kpR x.reads r))) rfl (st1, cp1) (by rw [hkl]; exact hG1) (by rw [hkl]; exact perm_fin st1 ty_api_Read _ _ _ _) (kp_out _ _ _) hb0 rfl sz_api_Read HasOwn.mem rfl (by rw [hkr]; rfl)
    ·
      try simp only [decide_eq_true_eq, decide_eq_false_iff_not] at ht44
      refine J.skip ?_
      repeat (first | refine JX.next ?_ | refine JX.normal_block ?_)
      repeat refine J.seq ?_
      refine J.regSf 7 0 hmx (by kernel_rfl) rfl rfl rfl rfl (by kernel_rfl) rfl (by kernel_rfl) (by kernel_rfl) (by kernel_rfl) ?_
      refine RT.t (ob_move rfl) ?_
      refine RT.t (ob_move rfl) ?_
      refine RT.t (ob_nilCheck rfl) ?_
      refine RT.t (ob_fieldAddr fo_ssi_tx_2 rfl) ?_
      refine RT.t (ob_ld1 sz_sl_api_Read rfl rfl) ?_
      refine RT.t (ob_ldN (cs := [_, _, _, _, _, _, _, _]) sz_api_Read rfl rfl rfl) ?_
      refine RT.t (ob_buildSlice (cs := [_, _, _, _, _, _, _, _]) sl_sl_api_Read (by omega) (by omega) (.cons rfl .nil) rfl rfl rfl) ?_
      refine RT.nil ?_
      refine FinS.tail0 ?_
      first
        | refine JO.apO (en := Rd.cells) (ys := [allR r]) ap_sl_api_Read Rd.len (.there (.there (.there (.there .here)))) hG rfl rfl (fun L => src_new un_sl_api_Read rfl rfl) (by simp) (by have := List.length_filter_le (fun k => !sameT r k) x.reads; simp only [List.length_cons, List.length_nil]; omega) (by have := List.length_filter_le (fun k => !sameT r k) x.reads; simp only [List.length_cons, List.length_nil]; omega) rfl (fun st1 cp1 hG1 => ?_)
        | refine JO.apO (en := Rd.cells) (ys := [r]) ap_sl_api_Read Rd.len (.there (.there (.there (.there .here)))) hG rfl rfl (fun L => src_new un_sl_api_Read rfl rfl) (by simp) (by have := List.length_filter_le (fun k => !sameT r k) x.reads; simp only [List.length_cons, List.length_nil]; omega) (by have := List.length_filter_le (fun k => !sameT r k) x.reads; simp only [List.length_cons, List.length_nil]; omega) rfl (fun st1 cp1 hG1 => ?_)
      refine JO.t (ob_nilCheck rfl) rfl ?_
      refine JO.t (ob_fieldAddr fo_ssi_tx_2 rfl) rfl ?_
      first
        | refine JO.m (obm_storeF1 (cs' := (setRd (st1, cp1) ((x.reads.filter fun k => !sameT r k) ++ [allR r]) x).cs) (sliceO_cells _ _ _) (sliceO_one _ _ _) rfl rfl (upd_ownO (.there (.there (.there .here)))) rfl rfl ss_sl_api_Read) (Upd.same (upd_ownO (.there (.there (.there .here)))) rfl) ?_
        | refine JO.m (obm_storeF1 (cs' := (setRd (st1, cp1) (x.reads ++ [r]) x).cs) (sliceO_cells _ _ _) (sliceO_one _ _ _) rfl rfl (upd_ownO (.there (.there (.there .here)))) rfl rfl ss_sl_api_Read) (Upd.same (upd_ownO (.there (.there (.there .here)))) rfl) ?_
      refine JO.nil ?_
      refine JX.nrm ?_
      repeat (first | refine JX.next ?_ | refine JX.normal_block ?_)
      refine J.sel [3, 4] (.cons rfl (.cons rfl .nil)) ?_
      repeat refine J.seq ?_
      refine J.plain ?_
      refine JO.t (ob_ldN (cs := [_, _, _, _, _, _, _, _]) sz_api_Read rfl rfl rfl) rfl ?_
      refine JO.m (obm_store rfl rfl (upd_ownO (.there .here)) (cnt_is rfl rfl) (cnt_is rfl rfl) ss_api_Read) (Upd.same (upd_ownO (.there .here)) rfl) ?_
      refine JO.nil ?_
      repeat (first | refine JX.next ?_ | refine JX.normal_block ?_)
      refine J.sel [4] (.cons rfl .nil) ?_
      repeat refine J.seq ?_
      refine J.ret ?_
      repeat (first | refine JX.ret_pass ?_ | refine JX.ret_block ?_)
      have hkl : kpL x.reads r = x.reads ++ [r] := by unfold kpL; rw [hnone]; simp only [kpAll, ← hnN, ht44]; rfl
      have hkr : kpR x.reads r = r := by unfold kpR; rw [hnone]; simp only [kpAll, ← hnN, ht44]; rfl
      exact JX.retLC (Lr := [_, _, _]) (L1 := fun z : Option (Nat × List Value) × Nat => ⟨x.b, ty_ssi_tx, .is (.agg (setRd z (kpL x.reads r) x).cs.toArray)⟩ :: ownO z.1 ty_api_Read []) (R := fun _ => .is (rdA (kpR x.reads r))) rfl (st1, cp1) (by rw [hkl]; exact hG1) (by rw [hkl]; exact perm_fin st1 ty_api_Read _ _ _ _) (kp_out _ _ _) hb0 rfl sz_api_Read HasOwn.mem rfl (by rw [hkr]; rfl)
end Go.Proofs.Ytggmifnkgcladaa
namespace Go.Si
open Go Go.Vc Go.Proofs.Ytggmifnkgcladaa
def coreT (y : TM) : TM := { y with inn := [], ic := 0, out := [], oc := 0 }
theorem core_f {α : Type} (f : TM → α) (hf : ∀ z, f (coreT z) = f z) {a b : TM} (h : coreT a = coreT b) : f a = f b := by rw [← hf a, h, hf]
theorem cores_ent {txs txs' : List TM} (h : txs'.map coreT = txs.map coreT) : txs'.map TM.ent = txs.map TM.ent := by
  have := congrArg (List.map TM.ent) h
  rw [List.map_map, List.map_map] at this
  exact this
theorem core_mem {txs txs' : List TM} (h : txs'.map coreT = txs.map coreT) {z : TM} (hz : z ∈ txs') : ∃ y ∈ txs, coreT z = coreT y := by
  have : coreT z ∈ txs.map coreT := by rw [← h]; exact List.mem_map_of_mem hz
  obtain ⟨y, hy, e⟩ := List.mem_map.1 this
  exact ⟨y, hy, e.symm⟩
def edF (x y : Nat) (z : TM) : TM := if z.n = y then addI x (if z.n = x then addO y z else z) else (if z.n = x then addO y z else z)
theorem edM_map (x y : Nat) (txs : List TM) : edM x y txs = txs.map (edF x y) := by
  unfold edM setTx
  rw [List.map_map]
  refine List.map_congr_left fun z _ => ?_
  show (if (if z.n = x then addO y z else z).n = y then addI x (if z.n = x then addO y z else z) else (if z.n = x then addO y z else z)) = edF x y z
  have : (if z.n = x then addO y z else z).n = z.n := by split <;> rfl
  rw [this]
  rfl
theorem edF_core (x y : Nat) (z : TM) : coreT (edF x y z) = coreT z := by
  unfold edF
  split <;> split <;> rfl
theorem edF_out (x y : Nat) (z : TM) (k : Int) : mHas k (edF x y z).out = (mHas k z.out || (decide (z.n = x) && decide (k = (y : Int)))) := by
  unfold edF
  by_cases h1 : z.n = x
  · by_cases h2 : z.n = y
    · rw [if_pos h2, if_pos h1]; show mHas k (mAdd y z.out z.oc) = _; rw [mHas_add]; simp [h1]
    · rw [if_neg h2, if_pos h1]; show mHas k (mAdd y z.out z.oc) = _; rw [mHas_add]; simp [h1]
  · by_cases h2 : z.n = y
    · rw [if_pos h2, if_neg h1]; show mHas k z.out = _; simp [h1]
    · rw [if_neg h2, if_neg h1]; simp [h1]
theorem edF_inn (x y : Nat) (z : TM) (k : Int) : mHas k (edF x y z).inn = (mHas k z.inn || (decide (z.n = y) && decide (k = (x : Int)))) := by
  unfold edF
  by_cases h1 : z.n = x
  · by_cases h2 : z.n = y
    · rw [if_pos h2, if_pos h1]; show mHas k (mAdd x z.inn z.ic) = _; rw [mHas_add]; simp [h2]
    · rw [if_neg h2, if_pos h1]; show mHas k z.inn = _; simp [h2]
  · by_cases h2 : z.n = y
    · rw [if_pos h2, if_neg h1]; show mHas k (mAdd x z.inn z.ic) = _; rw [mHas_add]; simp [h2]
    · rw [if_neg h2, if_neg h1]; simp [h2]
theorem edF_okO (x y : Nat) (z : TM) (h : EOk z.out z.oc) : EOk (edF x y z).out (edF x y z).oc := by
  unfold edF
  by_cases h1 : z.n = x
  · by_cases h2 : z.n = y
    · rw [if_pos h2, if_pos h1]; exact h.add _
    · rw [if_neg h2, if_pos h1]; exact h.add _
  · by_cases h2 : z.n = y
    · rw [if_pos h2, if_neg h1]; exact h
    · rw [if_neg h2, if_neg h1]; exact h
theorem edF_okI (x y : Nat) (z : TM) (h : EOk z.inn z.ic) : EOk (edF x y z).inn (edF x y z).ic := by
  unfold edF
  by_cases h1 : z.n = x
  · by_cases h2 : z.n = y
    · rw [if_pos h2, if_pos h1]; exact h.add _
    · rw [if_neg h2, if_pos h1]; exact h
  · by_cases h2 : z.n = y
    · rw [if_pos h2, if_neg h1]; exact h.add _
    · rw [if_neg h2, if_neg h1]; exact h
theorem edM_core (x y : Nat) (txs : List TM) : (edM x y txs).map coreT = txs.map coreT := by
  rw [edM_map, List.map_map]
  exact List.map_congr_left fun z _ => edF_core x y z
theorem Wf.ed {cl : Nat} {txs : List TM} (h : Wf cl txs) {x y : TM} (hx : x ∈ txs) (hy : y ∈ txs) (hxy : x.n ≠ y.n) : Wf cl (edM x.n y.n txs) := by
  have hent := cores_ent (edM_core x.n y.n txs)
  have hn : ∀ z, (edF x.n y.n z).n = z.n := fun z => core_f TM.n (fun _ => rfl) (edF_core x.n y.n z)
  refine ⟨by rw [map_n hent]; exact h.n, by rw [map_st hent]; exact h.st, ?_, ?_, ?_, ?_, ?_, ?_, ?_, ?_⟩
  all_goals rw [edM_map]
  · intro q hq
    obtain ⟨z, hz, rfl⟩ := List.mem_map.1 hq
    have : (edF x.n y.n z).st = z.st := core_f TM.st (fun _ => rfl) (edF_core x.n y.n z)
    rw [this]; exact h.lt z hz
  · intro q hq
    obtain ⟨z, hz, rfl⟩ := List.mem_map.1 hq
    exact edF_okI _ _ _ (h.inn z hz)
  · intro q hq
    obtain ⟨z, hz, rfl⟩ := List.mem_map.1 hq
    exact edF_okO _ _ _ (h.out z hz)
  · intro q hq k hk
    obtain ⟨z, hz, rfl⟩ := List.mem_map.1 hq
    rw [edF_inn, Bool.or_eq_true, Bool.and_eq_true, decide_eq_true_eq, decide_eq_true_eq] at hk
    rcases hk with hk | ⟨hk1, hk2⟩
    · obtain ⟨w, hw, e1, e2⟩ := h.cin z hz k hk
      exact ⟨_, List.mem_map_of_mem hw, by rw [hn]; exact e1, by rw [hn, hn]; exact e2⟩
    · exact ⟨_, List.mem_map_of_mem hx, by rw [hn]; exact hk2.symm, by rw [hn, hn, hk1]; exact hxy⟩
  · intro q hq k hk
    obtain ⟨z, hz, rfl⟩ := List.mem_map.1 hq
    rw [edF_out, Bool.or_eq_true, Bool.and_eq_true, decide_eq_true_eq, decide_eq_true_eq] at hk
    rcases hk with hk | ⟨hk1, hk2⟩
    · obtain ⟨w, hw, e1, e2⟩ := h.cou z hz k hk
      exact ⟨_, List.mem_map_of_mem hw, by rw [hn]; exact e1, by rw [hn, hn]; exact e2⟩
    · exact ⟨_, List.mem_map_of_mem hy, by rw [hn]; exact hk2.symm, by rw [hn, hn, hk1]; exact hxy.symm⟩
  · intro q hq q' hq'
    obtain ⟨z, hz, rfl⟩ := List.mem_map.1 hq
    obtain ⟨z', hz', rfl⟩ := List.mem_map.1 hq'
    rw [edF_out, edF_inn, hn, hn, h.dual z hz z' hz']
    congr 1
    rw [Bool.eq_iff_iff]
    simp only [Bool.and_eq_true, decide_eq_true_eq]
    omega
  · intro q hq
    obtain ⟨z, hz, rfl⟩ := List.mem_map.1 hq
    have h1 : (edF x.n y.n z).reads = z.reads := core_f TM.reads (fun _ => rfl) (edF_core x.n y.n z)
    have h2 : (edF x.n y.n z).rs = z.rs := core_f TM.rs (fun _ => rfl) (edF_core x.n y.n z)
    have h3 : (edF x.n y.n z).rc = z.rc := core_f TM.rc (fun _ => rfl) (edF_core x.n y.n z)
    rw [h1, h2, h3]; exact h.rs z hz
  · intro q hq
    obtain ⟨z, hz, rfl⟩ := List.mem_map.1 hq
    have h1 : (edF x.n y.n z).writes = z.writes := core_f TM.writes (fun _ => rfl) (edF_core x.n y.n z)
    have h2 : (edF x.n y.n z).ws = z.ws := core_f TM.ws (fun _ => rfl) (edF_core x.n y.n z)
    have h3 : (edF x.n y.n z).wc = z.wc := core_f TM.wc (fun _ => rfl) (edF_core x.n y.n z)
    rw [h1, h2, h3]; exact h.ws z hz
def edP (txs : List TM) (a b : Nat) : Bool := txs.any fun z => decide (z.n = a) && mHas (b : Int) z.out
theorem edP_mem {cl : Nat} {txs : List TM} (h : Wf cl txs) {x : TM} (hx : x ∈ txs) (b : Nat) : edP txs x.n b = mHas (b : Int) x.out := by
  unfold edP
  rw [Bool.eq_iff_iff, List.any_eq_true]
  constructor
  · rintro ⟨z, hz, hp⟩
    simp only [Bool.and_eq_true, decide_eq_true_eq] at hp
    have := n_inj h hz hx hp.1
    subst this
    exact hp.2
  · intro hp
    exact ⟨x, hx, by simp [hp]⟩
theorem edP_ed {cl : Nat} {txs : List TM} (h : Wf cl txs) {x y : TM} (hx : x ∈ txs) (a b : Nat) : edP (edM x.n y.n txs) a b = (edP txs a b || (decide (a = x.n) && decide (b = y.n))) := by
  have hn : ∀ z, (edF x.n y.n z).n = z.n := fun z => core_f TM.n (fun _ => rfl) (edF_core x.n y.n z)
  rw [edM_map, Bool.eq_iff_iff]
  unfold edP
  simp only [List.any_eq_true, Bool.or_eq_true, Bool.and_eq_true, decide_eq_true_eq, List.mem_map]
  constructor
  · rintro ⟨q, ⟨z, hz, rfl⟩, h1, h2⟩
    rw [hn] at h1
    rw [edF_out, Bool.or_eq_true, Bool.and_eq_true, decide_eq_true_eq, decide_eq_true_eq] at h2
    rcases h2 with h2 | ⟨h2, h3⟩
    · exact .inl ⟨z, hz, h1, h2⟩
    · exact .inr ⟨h1.symm.trans h2, by omega⟩
  · rintro (⟨z, hz, h1, h2⟩ | ⟨rfl, rfl⟩)
    · exact ⟨_, ⟨z, hz, rfl⟩, by rw [hn]; exact h1, by rw [edF_out, h2]; rfl⟩
    · exact ⟨_, ⟨x, hx, rfl⟩, by rw [hn], by rw [edF_out]; simp⟩
def othM (x y : TM) : Bool := ((y.n : Int) != (x.n : Int)) && (((y.done : Int) == 0) || decide ((x.begun : Int) < (y.done : Int)))
end Go.Si
set_option maxRecDepth 20000
namespace Go.Proofs.Ytggmifnkgcladaa
open Go Go.Vc
open Go.Si
instance (priority := low) _root_.Go.Vc.HasOwn.appR {L M : List Own} {b : Nat} {e : TypeId} {T : Ty} [h : HasOwn M b e T] : HasOwn (L ++ M) b e T := ⟨List.mem_append_right _ h.mem⟩
theorem app_ob {L M : List Own} (h1 : AllOb L) (h2 : AllOb M) : AllOb (L ++ M) := fun o ho => by
  rcases List.mem_append.1 ho with h | h
  · exact h1 o h
  · exact h2 o h
theorem core_n {a b : TM} (h : coreT a = coreT b) : a.n = b.n := core_f TM.n (fun _ => rfl) h
theorem core_b {a b : TM} (h : coreT a = coreT b) : a.b = b.b := core_f TM.b (fun _ => rfl) h
theorem core_st {a b : TM} (h : coreT a = coreT b) : a.st = b.st := core_f TM.st (fun _ => rfl) h
theorem core_done {a b : TM} (h : coreT a = coreT b) : a.done = b.done := core_f TM.done (fun _ => rfl) h
theorem core_begun {a b : TM} (h : coreT a = coreT b) : a.begun = b.begun := core_f TM.begun (fun _ => rfl) h
theorem core_find {txs txs' : List TM} (h : txs'.map coreT = txs.map coreT) {y : TM} (hy : y ∈ txs) : ∃ z ∈ txs', coreT z = coreT y := by
  obtain ⟨z, hz, e⟩ := core_mem h.symm hy
  exact ⟨z, hz, e.symm⟩
structure OthI (txs : List TM) (x : TM) (I : List Nat → List TM → Prop) (seen : Array Nat) (ks : List Nat) (cur : List TM) : Prop where
  i : I ks cur
  on : ∀ y ∈ txs, y.st ∈ seen → (othM x y = true ↔ y.n ∈ ks)
  sub : ∀ k ∈ ks, ∃ y ∈ txs, y.n = k ∧ y.st ∈ seen
theorem OthI.push {cl : Nat} {txs : List TM} (h : Wf cl txs) {x : TM} {I : List Nat → List TM → Prop} {seen : Array Nat} {ks : List Nat} {cur cur' : List TM} (hO : OthI txs x I seen ks cur) {y : TM} (hy : y ∈ txs) (hi : I (y.n :: ks) cur') (ho : othM x y = true) : OthI txs x I (seen.push y.st) (y.n :: ks) cur' := by
  refine ⟨hi, fun z hz hs => ?_, fun k hk => ?_⟩
  · rw [List.mem_cons]
    rcases Array.mem_push.1 hs with h1 | h1
    · rw [hO.on z hz h1]
      refine ⟨.inr, fun h2 => h2.elim (fun e => ?_) id⟩
      have := n_inj h hz hy e
      subst this
      exact (hO.on z hz h1).1 ho
    · have := st_inj h hz hy h1
      subst this
      exact ⟨fun _ => .inl rfl, fun _ => ho⟩
  · rcases List.mem_cons.1 hk with rfl | hk
    · exact ⟨y, hy, rfl, Array.mem_push.2 (.inr rfl)⟩
    · obtain ⟨z, hz, e, hs⟩ := hO.sub k hk
      exact ⟨z, hz, e, Array.mem_push.2 (.inl hs)⟩
theorem OthI.skip {cl : Nat} {txs : List TM} (h : Wf cl txs) {x : TM} {I : List Nat → List TM → Prop} {seen : Array Nat} {ks : List Nat} {cur : List TM} (hO : OthI txs x I seen ks cur) {y : TM} (hy : y ∈ txs) (hns : y.st ∉ seen) (ho : othM x y = false) : OthI txs x I (seen.push y.st) ks cur := by
  refine ⟨hO.i, fun z hz hs => ?_, fun k hk => ?_⟩
  · rcases Array.mem_push.1 hs with h1 | h1
    · exact hO.on z hz h1
    · have := st_inj h hz hy h1
      subst this
      rw [ho]
      refine ⟨fun h => (by cases h), fun hk => ?_⟩
      obtain ⟨w, hw, e, hws⟩ := hO.sub _ hk
      have := n_inj h hw hz e
      subst this
      exact absurd hws hns
  · obtain ⟨z, hz, e, hs⟩ := hO.sub k hk
    exact ⟨z, hz, e, Array.mem_push.2 (.inl hs)⟩
theorem c_p_ssi_Set_others (b ba nx sp cl : Nat) (txs : List TM) (hW : Wf cl txs) (x : TM) (hx : x ∈ txs) (BX : List Own) (hBX : AllOb BX) (f : FuncId) (cp : List Value) (Φc : List (World → Prop)) (I : List Nat → List TM → Prop) (hI0 : I [] txs) (hcore : ∀ ks cur, I ks cur → cur.map coreT = txs.map coreT) (hdo : ∀ ks cur y, I ks cur → y ∈ cur → y.n ∉ ks → othM x y = true → CallL Try.prog f (BX ++ SL b ba nx sp cl cur) Φc ([.is (.int .i64 (y.n : Nat)), .is (.pointer (some ⟨y.b, 0, none⟩))] ++ cp.map Ty.is) (fun z : List TM => I (y.n :: ks) z) (fun z => BX ++ SL b ba nx sp cl z) (fun _ => .is (.tuple #[]))) : CallL Try.prog f_p_ssi_Set_others (BX ++ SL b ba nx sp cl txs) Φc [.is (.pointer (some ⟨b, 0, none⟩)), .is (.int .i64 (x.n : Nat)), .is (.func (.func f) #[] cp.toArray)] (fun z : List Nat × List TM => I z.1 z.2 ∧ ∀ y ∈ txs, othM x y = true ↔ y.n ∈ z.1) (fun z => BX ++ SL b ba nx sp cl z.2) (fun _ => .is (.tuple #[])) :=
CallL.of (fn := Try.f33) Try.func33 (n := 50) rfl rfl rfl (fun _ _ => by kernel_rfl) fun E W hb0 => by
  repeat refine J.seq ?_
  refine J.plain ?_
  refine JO.t (ob_move rfl) rfl ?_
  refine JO.t (ob_nilCheck rfl) rfl ?_
  refine JO.t (ob_fieldAddr fo_ssi_Set_2 rfl) rfl ?_
  refine JO.t (ob_ld1 sz_map_int_p_ssi_tx rfl rfl) rfl ?_
  refine JO.t (ob_move rfl) rfl ?_
  refine JO.t (ob_mgetI un_map_int_p_ssi_tx un_int zo_p_ssi_tx rfl rfl (mget_mem hW.n hx)) rfl ?_
  refine JO.t (ob_assign rfl) rfl ?_
  refine JO.nil ?_
  repeat (first | refine JX.next ?_ | refine JX.normal_block ?_)
  refine J.sel [0, 1, 2, 6] (.cons rfl (.cons rfl (.cons rfl (.cons rfl .nil)))) ?_
  repeat refine J.seq ?_
  refine J.plain ?_
  refine JO.t (ob_move rfl) rfl ?_
  refine JO.t (ob_nilCheck rfl) rfl ?_
  refine JO.t (ob_fieldAddr fo_ssi_Set_2 rfl) rfl ?_
  refine JO.t (ob_ld1 sz_map_int_p_ssi_tx rfl rfl) rfl ?_
  refine JO.rangeI un_map_int_p_ssi_tx rfl rfl (fun r19 => ?_)
  refine JO.nil ?_
  repeat (first | refine JX.next ?_ | refine JX.normal_block ?_)
  refine J.sel [1, 2, 6, 19] (.cons rfl (.cons rfl (.cons rfl (.cons rfl .nil)))) ?_
  repeat refine J.seq ?_
  refine J.block ?_
  repeat refine J.seq ?_
  refine J.loopG (α := List Nat × List TM × Array Nat) (fun z => [(1, .is (.int .i64 (x.n : Nat))), (2, .is (.func (.func f) #[] cp.toArray)), (6, .is (.pointer (some ⟨x.b, 0, none⟩))), (19, .is (.pointer (some ⟨r19, 0, none⟩)))]) (fun z => ⟨r19, 0, .ob (.mapIter (some ba) cl z.2.2 cl)⟩ :: (BX ++ SL b ba nx sp cl (z.2.1))) (fun z => fun _ => True) (fun z => OthI txs x I z.2.2 z.1 z.2.1) (fun z => (lf txs z.2.2).length) ([], txs, #[]) [1, 2, 6, 19] (.cons rfl (.cons rfl (.cons rfl (.cons rfl .nil)))) rfl (fun _ => trivial) ⟨hI0, fun y hy hs => by simp at hs, fun k hk => by cases hk⟩ fun ⟨ks, cur, seen⟩ hO => ?_
  try dsimp only
  try dsimp only at cur
  try dsimp only at seen
  try dsimp only at hO
  have hent := cores_ent (hcore ks cur hO.i)
  repeat refine J.seq ?_
  refine J.plain ?_
  refine JO.next (l := cur.map TM.ent) (cl := cl) rfl (fun o => (by repeat (first | exact .here | apply Upd.there))) (List.mem_cons_of_mem _ (List.mem_append_right _ mem_all)) (fun e he => by rw [hent] at he; obtain ⟨y, hy, rfl⟩ := ent_mem he; exact hW.lt y hy) (Nat.le_refl _) rfl (fun go0 e0 seen0 last0 hgo0 hstop0 => ?_)
  refine JO.t (ob_nx rfl) rfl ?_
  refine JO.nil ?_
  repeat (first | refine JX.next ?_ | refine JX.normal_block ?_)
  refine J.sel [1, 2, 6, 19, 21] (.cons rfl (.cons rfl (.cons rfl (.cons rfl (.cons rfl .nil))))) ?_
  repeat refine J.seq ?_
  refine J.cond rfl (fun ht21 => ?_) (fun ht21 => ?_)
  ·
    try simp only [decide_eq_true_eq, decide_eq_false_iff_not] at ht21
    refine J.skip ?_
    repeat (first | refine JX.next ?_ | refine JX.normal_block ?_)
    repeat refine J.seq ?_
    refine J.block ?_
    obtain ⟨hem0, hens0, rfl, rfl⟩ := hgo0 ht21
    obtain ⟨q, hq, rfl⟩ := ent_mem hem0
    obtain ⟨y, hy, hyc⟩ := core_mem (hcore ks cur hO.i) hq
    obtain ⟨x2, hx2, hxc⟩ := core_find (hcore ks cur hO.i) hx
    have hns : y.st ∉ seen := by rw [← core_st hyc]; exact hens0
    have hlt2 : (lf txs (seen.push y.st)).length < (lf txs seen).length := lf_lt hW.st hy hns
    haveI : HasOwn (SL b ba nx sp cl cur) q.b ty_ssi_tx (.is (.agg q.cs.toArray)) := ⟨mem_b hq⟩
    haveI : HasOwn (SL b ba nx sp cl cur) x.b ty_ssi_tx (.is (.agg x2.cs.toArray)) := by rw [← core_b hxc]; exact ⟨mem_b hx2⟩
    have hoqy : othM x q = othM x y := by unfold othM; rw [core_n hyc, core_done hyc]
    have hoq2 : othM x q = othM x2 q := by unfold othM; rw [core_n hxc, core_begun hxc]
    have hxn : x2.n = x.n := core_n hxc
    repeat refine J.seq ?_
    refine J.plain ?_
    refine JO.t (ob_entry rfl (by repeat (first | exact List.mem_cons_self | exact mem_all | apply List.mem_cons_of_mem)) (List.mem_cons_of_mem _ (List.mem_append_right _ mem_all)) hem0 (st_nodup (by rw [map_st hent]; exact hW.st))) rfl ?_
    refine JO.t (ob_exI rfl rfl) rfl ?_
    refine JO.t (ob_exI rfl rfl) rfl ?_
    refine JO.t (ob_assign rfl) rfl ?_
    refine JO.t (ob_assign rfl) rfl ?_
    refine JO.nil ?_
    repeat (first | refine JX.next ?_ | refine JX.normal_block ?_)
    refine J.sel [1, 2, 6, 7, 8, 19] (.cons rfl (.cons rfl (.cons rfl (.cons rfl (.cons rfl (.cons rfl .nil)))))) ?_
    repeat refine J.seq ?_
    refine J.reg0 hmx (by kernel_rfl) (by kernel_rfl) ?_
    refine RT.t (ob_move rfl) ?_
    refine RT.t (ob_move rfl) ?_
    refine RT.t (ob_neq rfl rfl) ?_
    refine RT.t (ob_move rfl) ?_
    refine RT.g rfl rfl rfl (fun hg => ob_move (.inl rfl)) ?_
    refine RT.g rfl rfl rfl (fun hg => ob_nilCheck (.inr ⟨_, rfl, fun h => h⟩)) ?_
    refine RT.g rfl rfl rfl (fun hg => ob_fieldAddr fo_ssi_tx_1 (.inr ⟨_, rfl, fun h => h⟩)) ?_
    refine RT.g rfl rfl rfl (fun hg => ob_ld1 sz_int (.inr ⟨_, rfl, fun h => h⟩) rfl) ?_
    refine RT.g rfl rfl rfl (fun hg => ob_eql (.inr ⟨_, rfl, fun h => h⟩) (.inl rfl)) ?_
    refine RT.g rfl rfl rfl (fun hg => ob_move (.inr ⟨_, rfl, fun h => h⟩)) ?_
    refine RT.gg rfl rfl rfl (fun hg => (ob_move (.inl rfl))) ?_
    refine RT.gg rfl rfl rfl (fun hg => (ob_nilCheck (.inr ⟨_, rfl, fun h => h⟩))) ?_
    refine RT.gg rfl rfl rfl (fun hg => (ob_fieldAddr fo_ssi_tx_1 (.inr ⟨_, rfl, fun h => h⟩))) ?_
    refine RT.gg rfl rfl rfl (fun hg => (ob_ld1 sz_int (.inr ⟨_, rfl, fun h => h⟩) rfl)) ?_
    refine RT.gg rfl rfl rfl (fun hg => (ob_move (.inl rfl))) ?_
    refine RT.gg rfl rfl rfl (fun hg => (ob_nilCheck (.inr ⟨_, rfl, fun h => h⟩))) ?_
    refine RT.gg rfl rfl rfl (fun hg => (ob_fieldAddr fo_ssi_tx_0 (.inr ⟨_, rfl, fun h => h⟩))) ?_
    refine RT.gg rfl rfl rfl (fun hg => (ob_ld1 sz_int (.inr ⟨_, rfl, fun h => h⟩) rfl)) ?_
    refine RT.gg rfl rfl rfl (fun hg => (ob_gtr (.inr ⟨_, rfl, fun h => h⟩) (.inr ⟨_, rfl, fun h => h⟩))) ?_
    refine RT.g rfl rfl rfl (fun hg => ob_pickOr (.inr ⟨_, rfl, fun h => h⟩) (.inl rfl) (.inl rfl) (fun h => ⟨hg, h⟩)) ?_
    refine RT.t (ob_pickAnd rfl rfl rfl id) ?_
    refine RT.nil ?_
    refine FinS.nil0 ?_
    repeat (first | refine JX.next ?_ | refine JX.normal_block ?_)
    refine J.sel [1, 2, 6, 7, 8, 19, 45] (.cons rfl (.cons rfl (.cons rfl (.cons rfl (.cons rfl (.cons rfl (.cons rfl .nil))))))) ?_
    repeat refine J.seq ?_
    refine J.cond rfl (fun ht45 => ?_) (fun ht45 => ?_)
    ·
      try simp only [decide_eq_true_eq, decide_eq_false_iff_not] at ht45
      have hoq : othM x q = true := by rw [hoq2]; unfold othM; rw [hxn]; exact ht45
      have hoth : othM x y = true := by rw [← hoqy]; exact hoq
      have hnk : q.n ∉ ks := fun hm => by
        obtain ⟨w, hw, e, hs⟩ := hO.sub _ hm
        have := n_inj hW hw hy (by rw [e, core_n hyc])
        subst this
        exact hns hs
      repeat refine J.seq ?_
      refine J.plain ?_
      refine JO.t (ob_move rfl) rfl ?_
      refine JO.t (ob_move rfl) rfl ?_
      refine JO.t (ob_move rfl) rfl ?_
      refine JO.callLv (Lr := [⟨r19, 0, .ob (.mapIter (some ba) cl (seen.push q.st) cl)⟩]) rfl (hdo ks cur q hO.i hq hnk hoq) (fun d e => by injection e with e; show d < 50; omega) (List.perm_append_singleton _ _).symm (fun _ h => List.mem_cons_of_mem _ h) (.one rfl (.one rfl .nil)) ?_
      intro z hz
      refine JO.subL (L' := ⟨r19, 0, .ob (.mapIter (some ba) cl (seen.push q.st) cl)⟩ :: (BX ++ SL b ba nx sp cl (z))) (List.perm_append_singleton _ _).symm ?_
      refine JO.nil ?_
      repeat refine JX.normal_block ?_
      refine JX.roundG (x := (ks, cur, seen)) (q.n :: ks, z, seen.push q.st) ?_ ?_ [1, 2, 6, 19] ?_ ?_ ?_ ?_
      · exact (by simp only; rw [core_st hyc, core_n hyc]; exact hO.push hW hy (by rw [← core_n hyc]; exact hz) hoth)
      · exact (by show (lf txs (seen.push q.st)).length < (lf txs seen).length; rw [core_st hyc]; exact hlt2)
      · exact (.cons rfl (.cons rfl (.cons rfl (.cons rfl .nil))))
      · repeat (first | exact .all | exact .nil | refine Has.own (by repeat (first | exact .here | apply Tl.past | apply Tl.there)) ?_ | refine Has.cons (by repeat (first | exact .here | apply Pk.past | apply Pk.there)) ?_)
      · exact fun G hG => by repeat (first | exact hG | refine List.mem_cons_of_mem _ ?_)
      · exact fun _ _ _ => fun _ _ => trivial
    ·
      try simp only [decide_eq_true_eq, decide_eq_false_iff_not] at ht45
      refine J.skip ?_
      repeat refine JX.normal_block ?_
      refine JX.roundG (x := (ks, cur, seen)) (ks, cur, seen.push q.st) ?_ ?_ [1, 2, 6, 19] ?_ ?_ ?_ ?_
      · exact (by simp only; rw [core_st hyc]; exact hO.skip hW hy hns (by rw [← hoqy, hoq2]; unfold othM; rw [hxn]; exact ht45))
      · exact (by show (lf txs (seen.push q.st)).length < (lf txs seen).length; rw [core_st hyc]; exact hlt2)
      · exact (.cons rfl (.cons rfl (.cons rfl (.cons rfl .nil))))
      · repeat (first | exact .all | exact .nil | refine Has.own (by repeat (first | exact .here | apply Tl.past | apply Tl.there)) ?_ | refine Has.cons (by repeat (first | exact .here | apply Pk.past | apply Pk.there)) ?_)
      · exact fun G hG => by repeat (first | exact hG | refine List.mem_cons_of_mem _ ?_)
      · exact fun _ _ _ => fun _ _ => trivial
  ·
    try simp only [decide_eq_true_eq, decide_eq_false_iff_not] at ht21
    repeat refine J.seq ?_
    refine J.exit ?_
    repeat (first | refine JX.hit ?_ | refine JX.miss rfl ?_ | refine JX.exit_pass ?_)
    repeat (first | refine JX.next ?_ | refine JX.normal_block ?_)
    refine JX.normal_ret ?_
    obtain ⟨rfl, rfl, hall⟩ := hstop0 ht21
    have hall2 : ∀ y ∈ txs, othM x y = true ↔ y.n ∈ ks := fun y hy => hO.on y hy (by have := hall y.ent (by rw [hent]; exact List.mem_map_of_mem hy); exact this)
    exact JX.retL0 (Lr := [_]) (L1 := fun z : List Nat × List TM => BX ++ SL b ba nx sp cl z.2) rfl (ks, cur) ⟨hO.i, hall2⟩ (List.perm_append_singleton _ _).symm (ob_out (app_ob hBX SL_ob)) hb0 rfl
end Go.Proofs.Ytggmifnkgcladaa
namespace Go.Si
open Go Go.Vc Go.Proofs.Ytggmifnkgcladaa
theorem _root_.Go.Vc.CallL.toZ {P : Program} {f : FuncId} {L0 : List Own} {Φ0 : List (World → Prop)} {As : List Ty} {Z : Type} {Zp : Z → Prop} {L1 : Z → List Own} {R : Ty} {Lz : List Own} (z : Z) (hz : Zp z) (hL : L1 z = Lz) (h : CallL P f L0 Φ0 As (fun _ : Unit => True) (fun _ => Lz) (fun _ => R)) : CallL P f L0 Φ0 As Zp L1 (fun _ => R) :=
  ⟨h.enter, fun E w vs hw hM hnd hΦ ht => (h.calls E w vs hw hM hnd hΦ ht).mono fun e w' ⟨v, u, E', he, hE⟩ => ⟨v, z, E', he, ⟨hz, hE.k, hE.same, hE.wf, by rw [hL]; exact hE.l, by rw [hL]; exact hE.nd, by rw [hL]; exact hE.inn, hE.r⟩⟩⟩
theorem flat_perm {x : TM} : ∀ {txs : List TM}, (txs.map TM.n).Nodup → x ∈ txs → (txs.flatMap txL).Perm (txL x ++ (delTx x.n txs).flatMap txL)
  | [], _, h => by cases h
  | z :: txs, hn, hx => by
    rw [List.map_cons, List.nodup_cons] at hn
    rw [List.flatMap_cons]
    by_cases h : z.n = x.n
    · have hzx : z = x := by
        rcases List.mem_cons.1 hx with e | hx
        · exact e.symm
        · exact absurd (by rw [h]; exact List.mem_map_of_mem hx) hn.1
      subst hzx
      have hd : delTx z.n (z :: txs) = txs := by
        unfold delTx
        rw [List.filter_cons]
        have h1 : (!decide (z.n = z.n)) = false := by simp
        rw [h1, if_neg (by simp)]
        refine List.filter_eq_self.2 fun y hy => ?_
        have : y.n ≠ z.n := fun e => hn.1 (by rw [← e]; exact List.mem_map_of_mem hy)
        simp [this]
      rw [hd]
    · have hxt : x ∈ txs := by
        rcases List.mem_cons.1 hx with e | hx
        · exact absurd (by rw [e]) h
        · exact hx
      have hd : delTx x.n (z :: txs) = z :: delTx x.n txs := by
        unfold delTx
        rw [List.filter_cons]
        have h1 : (!decide (z.n = x.n)) = true := by simp [h]
        rw [h1, if_pos rfl]
      rw [hd, List.flatMap_cons]
      refine ((flat_perm hn.2 hxt).append_left _).trans ?_
      rw [← List.append_assoc, ← List.append_assoc]
      exact (List.perm_append_comm).append_right _
theorem del_set {k : Nat} {f : TM → TM} (hf : ∀ z, (f z).n = z.n) : ∀ (txs : List TM), delTx k (setTx k f txs) = delTx k txs
  | [] => rfl
  | z :: txs => by
    have ih := del_set hf txs (k := k)
    unfold delTx setTx at ih ⊢
    rw [List.map_cons, List.filter_cons, List.filter_cons, ih]
    by_cases h : z.n = k
    · rw [if_pos h]
      have h1 : (!decide ((f z).n = k)) = false := by rw [hf]; simp [h]
      have h2 : (!decide (z.n = k)) = false := by simp [h]
      rw [h1, h2, if_neg (by simp), if_neg (by simp)]
    · rw [if_neg h]
section
variable {b ba nx sp cl : Nat} {txs : List TM}
def KR (b ba nx sp cl : Nat) (txs : List TM) (x : TM) : List Own := ⟨b, ty_ssi_Set, .is (setV ba nx sp)⟩ :: ⟨ba, 0, .ob (mObj (txs.map TM.ent) cl)⟩ :: ⟨x.bi, 0, .ob (mObj x.inn x.ic)⟩ :: ⟨x.bo, 0, .ob (mObj x.out x.oc)⟩ :: (ownO x.ws ty_api_Write [] ++ (delTx x.n txs).flatMap txL)
theorem keep_perm (hn : (txs.map TM.n).Nodup) {x : TM} (hx : x ∈ txs) : (SL b ba nx sp cl txs).Perm ((⟨x.b, ty_ssi_tx, .is (.agg x.cs.toArray)⟩ :: ownO x.rs ty_api_Read []) ++ KR b ba nx sp cl txs x) := by
  unfold SL KR
  refine (((flat_perm hn hx).cons _).cons _).trans ?_
  have e1 : txL x = ⟨x.b, ty_ssi_tx, .is (.agg x.cs.toArray)⟩ :: ⟨x.bi, 0, .ob (mObj x.inn x.ic)⟩ :: ⟨x.bo, 0, .ob (mObj x.out x.oc)⟩ :: (ownO x.rs ty_api_Read [] ++ ownO x.ws ty_api_Write []) := by
    unfold txL
    rw [ownO_split x.rs]
  rw [e1]
  generalize ownO x.rs ty_api_Read [] = A
  generalize ownO x.ws ty_api_Write [] = B
  generalize (delTx x.n txs).flatMap txL = C
  generalize (⟨b, ty_ssi_Set, .is (setV ba nx sp)⟩ : Own) = s1
  generalize (⟨ba, 0, .ob (mObj (txs.map TM.ent) cl)⟩ : Own) = s2
  generalize (⟨x.b, ty_ssi_tx, .is (.agg x.cs.toArray)⟩ : Own) = s3
  generalize (⟨x.bi, 0, .ob (mObj x.inn x.ic)⟩ : Own) = s4
  generalize (⟨x.bo, 0, .ob (mObj x.out x.oc)⟩ : Own) = s5
  show (s1 :: s2 :: s3 :: s4 :: s5 :: ((A ++ B) ++ C)).Perm (s3 :: (A ++ s1 :: s2 :: s4 :: s5 :: (B ++ C)))
  refine ((List.Perm.swap s3 s2 _).cons s1).trans ((List.Perm.swap s3 s1 _).trans (List.Perm.cons _ ?_))
  rw [List.append_assoc]
  have : (s1 :: s2 :: s4 :: s5 :: (A ++ (B ++ C))) = [s1, s2, s4, s5] ++ A ++ (B ++ C) := by simp
  rw [this]
  have h2 : (A ++ s1 :: s2 :: s4 :: s5 :: (B ++ C)) = A ++ [s1, s2, s4, s5] ++ (B ++ C) := by simp
  rw [h2]
  exact (List.perm_append_comm).append_right _
theorem keep_back (hn : (txs.map TM.n).Nodup) {x : TM} (hx : x ∈ txs) (z : Option (Nat × List Value) × Nat) (l : List Rd) : (SL b ba nx sp cl (setTx x.n (setRd z l) txs)).Perm ((⟨x.b, ty_ssi_tx, .is (.agg (setRd z l x).cs.toArray)⟩ :: ownO z.1 ty_api_Read []) ++ KR b ba nx sp cl txs x) := by
  have h := keep_perm (b := b) (ba := ba) (nx := nx) (sp := sp) (cl := cl) (txs := setTx x.n (setRd z l) txs) (x := setRd z l x) (by rw [setTx_n (f := setRd z l) (fun _ => rfl)]; exact hn) (List.mem_map.2 ⟨x, hx, if_pos rfl⟩)
  have e : KR b ba nx sp cl (setTx x.n (setRd z l) txs) (setRd z l x) = KR b ba nx sp cl txs x := by
    unfold KR
    rw [setTx_ent (f := setRd z l) (fun _ => rfl)]
    show _ :: _ :: _ :: _ :: (_ ++ (delTx x.n (setTx x.n (setRd z l) txs)).flatMap txL) = _
    rw [del_set (f := setRd z l) (fun _ => rfl)]
    rfl
  rw [e] at h
  exact h
end
end Go.Si
set_option maxRecDepth 20000
namespace Go.Proofs.Ytggmifnkgcladaa
open Go Go.Vc
open Go.Si
def bxR (b k bR bT bS : Nat) (r : Rd) : List Own := [boxR bR r, ⟨bT, ty_int, .is (.int .i64 (k : Nat))⟩, ⟨bS, ty_p_ssi_Set, .is (.pointer (some ⟨b, 0, none⟩))⟩]
theorem bxR_ob {b k bR bT bS : Nat} {r : Rd} : AllOb (bxR b k bR bT bS r) := ob_cons (.inl ⟨_, rfl⟩) (ob_cons (.inl ⟨_, rfl⟩) (ob_cons (.inl ⟨_, rfl⟩) nil_ob))
structure IE (cl : Nat) (txs : List TM) (p : List Nat → Nat → Nat → Bool) (ks : List Nat) (cur : List TM) : Prop where
  core : cur.map coreT = txs.map coreT
  wf : Wf cl cur
  ed : ∀ a b, edP cur a b = (edP txs a b || p ks a b)
def hitR (r : Rd) (txs : List TM) (j : Nat) : Bool := txs.any fun y => decide (y.n = j) && y.writes.any (mtA r)
def pR (k : Nat) (r : Rd) (txs : List TM) (ks : List Nat) (a b : Nat) : Bool := decide (a = k) && (ks.contains b && hitR r txs b)
theorem hitR_mem {cl : Nat} {txs : List TM} (h : Wf cl txs) {y : TM} (hy : y ∈ txs) (r : Rd) : hitR r txs y.n = y.writes.any (mtA r) := by
  unfold hitR
  rw [Bool.eq_iff_iff, List.any_eq_true]
  constructor
  · rintro ⟨z, hz, hp⟩
    simp only [Bool.and_eq_true, decide_eq_true_eq] at hp
    have := n_inj h hz hy hp.1
    subst this
    exact hp.2
  · intro hp
    exact ⟨y, hy, by simp [hp]⟩
theorem core_writes {a b : TM} (h : coreT a = coreT b) : a.writes = b.writes := core_f TM.writes (fun _ => rfl) h
theorem core_reads {a b : TM} (h : coreT a = coreT b) : a.reads = b.reads := core_f TM.reads (fun _ => rfl) h
def rdT (r : Rd) (x y : TM) (cur : List TM) : List TM := if y.writes.any (mtA r) then edM x.n y.n cur else cur
theorem IE.stepR {cl : Nat} {txs cur : List TM} (h : Wf cl txs) {ks : List Nat} {r : Rd} {x y x' : TM} (hx : x ∈ txs) (hI : IE cl txs (pR x.n r txs) ks cur) (hx' : x' ∈ cur) (hxx : coreT x' = coreT x) (hy : y ∈ cur) (hne : x'.n ≠ y.n) : IE cl txs (pR x.n r txs) (y.n :: ks) (rdT r x' y cur) := by
  obtain ⟨y0, hy0, hyc⟩ := core_mem hI.core hy
  have hh : hitR r txs y.n = y.writes.any (mtA r) := by rw [core_n hyc, core_writes hyc]; exact hitR_mem h hy0 r
  have hxn : x'.n = x.n := core_n hxx
  unfold rdT
  split
  · rename_i hm
    refine ⟨by rw [edM_core]; exact hI.core, hI.wf.ed hx' hy hne, fun a b => ?_⟩
    rw [edP_ed hI.wf hx', hI.ed, hxn, Bool.or_assoc]
    congr 1
    unfold pR
    rw [Bool.eq_iff_iff]
    simp only [Bool.or_eq_true, Bool.and_eq_true, decide_eq_true_eq, List.contains_iff_mem, List.mem_cons]
    constructor
    · rintro (⟨h1, h2, h3⟩ | ⟨h1, h2⟩)
      · exact ⟨h1, .inr h2, h3⟩
      · exact ⟨h1, .inl h2, by rw [h2, hh]; exact hm⟩
    · rintro ⟨h1, h2 | h2, h3⟩
      · exact .inr ⟨h1, h2⟩
      · exact .inl ⟨h1, h2, h3⟩
  · rename_i hm
    refine ⟨hI.core, hI.wf, fun a b => ?_⟩
    rw [hI.ed]
    congr 1
    unfold pR
    rw [Bool.eq_iff_iff]
    simp only [Bool.and_eq_true, decide_eq_true_eq, List.contains_iff_mem, List.mem_cons]
    constructor
    · rintro ⟨h1, h2, h3⟩
      exact ⟨h1, .inr h2, h3⟩
    · rintro ⟨h1, h2 | h2, h3⟩
      · rw [h2, hh] at h3; exact absurd h3 hm
      · exact ⟨h1, h2, h3⟩
theorem ws_mem {b ba nx sp cl : Nat} {txs : List TM} {y : TM} (hy : y ∈ txs) {o : Own} (ho : o ∈ ownO y.ws ty_api_Write []) : o ∈ SL b ba nx sp cl txs := mem_tx hy (by rw [txL_eq]; refine List.mem_append_right _ ?_; rw [ownO_split y.rs]; exact List.mem_append_right _ ho)
theorem ws_sub {b ba nx sp cl : Nat} {txs : List TM} {y : TM} (hy : y ∈ txs) : (ownO y.ws ty_api_Write []).Sublist (SL b ba nx sp cl txs) := by
  refine List.Sublist.trans ?_ (tx_sub hy)
  rw [txL_eq, ownO_split y.rs]
  exact (List.sublist_append_right _ _).trans (List.sublist_append_right _ _)
theorem rs_mem {b ba nx sp cl : Nat} {txs : List TM} {y : TM} (hy : y ∈ txs) {o : Own} (ho : o ∈ ownO y.rs ty_api_Read []) : o ∈ SL b ba nx sp cl txs := mem_tx hy (by rw [txL_eq]; refine List.mem_append_right _ ?_; rw [ownO_split y.rs ty_api_Read (ownO y.ws ty_api_Write [])]; exact List.mem_append_left _ ho)
theorem rs_sub {b ba nx sp cl : Nat} {txs : List TM} {y : TM} (hy : y ∈ txs) : (ownO y.rs ty_api_Read []).Sublist (SL b ba nx sp cl txs) := by
  refine List.Sublist.trans ?_ (tx_sub hy)
  rw [txL_eq, ownO_split y.rs ty_api_Read (ownO y.ws ty_api_Write [])]
  exact (List.sublist_append_left _ _).trans (List.sublist_append_right _ _)
theorem box_nd {o : Own} {A B L : List Own} (hA : A.Sublist L) (h : ((o :: B ++ L).map (·.b)).Nodup) : ((A ++ [o]).map (·.b)).Nodup := by
  have h1 : ((o :: A).map (·.b)).Nodup := ((List.Sublist.cons_cons o (hA.trans (List.sublist_append_right B L))).map _).nodup h
  exact ((List.perm_append_comm (l₁ := A) (l₂ := [o])).map _).nodup_iff.2 h1
theorem c_p_ssi_Set_Read_1 (b ba nx sp cl : Nat) (txs : List TM) (hW : Wf cl txs) (U : List WrA) (hU : ∀ y ∈ txs, ∀ w ∈ y.writes, w ∈ U) (hwl : ∀ y ∈ txs, y.writes.length ≤ 4611686018427387904) (x y : TM) (hx : x ∈ txs) (hy : y ∈ txs) (hxy : x.n ≠ y.n) (r : Rd) (bR bT bS : Nat) : CallL Try.prog f_p_ssi_Set_Read_1 (bxR b x.n bR bT bS r ++ SL b ba nx sp cl txs) [WrF U] [.is (.int .i64 (y.n : Nat)), .is (.pointer (some ⟨y.b, 0, none⟩)), .is (.pointer (some ⟨bR, 0, none⟩)), .is (.pointer (some ⟨bS, 0, none⟩)), .is (.pointer (some ⟨bT, 0, none⟩))] (fun _ : Unit => True) (fun _ => bxR b x.n bR bT bS r ++ SL b ba nx sp cl (rdT r x y txs)) (fun _ => .is (.tuple #[])) :=
CallL.of (fn := Try.f34) Try.func34 (n := 17) rfl rfl rfl (fun _ _ => by kernel_rfl) fun E W hb0 => by
  show J _ _ _ (boxR bR r :: ⟨bT, ty_int, .is (.int .i64 (x.n : Nat))⟩ :: ⟨bS, ty_p_ssi_Set, .is (.pointer (some ⟨b, 0, none⟩))⟩ :: SL b ba nx sp cl txs) _ _ _
  refine J.nodup fun hnd => ?_
  haveI : HasOwn (SL b ba nx sp cl txs) y.b ty_ssi_tx (.is (.agg y.cs.toArray)) := ⟨mem_b hy⟩
  repeat refine J.seq ?_
  refine J.plain ?_
  refine JO.t (ob_move rfl) rfl ?_
  refine JO.t (ob_nilCheck rfl) rfl ?_
  refine JO.t (ob_fieldAddr fo_ssi_tx_3 rfl) rfl ?_
  refine JO.t (ob_ld1 sz_sl_api_Write rfl rfl) rfl ?_
  refine JO.t (ob_makeFunc .nil (.cons rfl .nil)) rfl ?_
  refine JO.t (ob_callB rfl (c_slices_ContainsFunc_sl_api_Write_api_Write (hW.ws y hy) (hwl y hy) 36 [.pointer (some ⟨bR, 0, none⟩)] [boxR bR r] boxR_ob [WrF U] (mtA r) (fun w hw => c_p_ssi_Set_Read_1_1 U bR r w (hU y hy w hw))) (ownO_ob _ _ boxR_ob) (fun o ho => by
      rw [ownO_split] at ho
      rcases List.mem_append.1 ho with ho | ho
      · exact List.mem_cons_of_mem _ (List.mem_cons_of_mem _ (List.mem_cons_of_mem _ (ws_mem hy ho)))
      · rw [List.mem_singleton.1 ho]; exact List.mem_cons_self) (fun _ _ _ => by rw [ownO_split]; exact box_nd (B := [_, _]) (ws_sub hy) hnd) (fun _ h => h) (.one rfl (.one rfl .nil))) rfl ?_
  refine JO.nil ?_
  repeat (first | refine JX.next ?_ | refine JX.normal_block ?_)
  refine J.sel [0, 3, 4, 12] (.cons rfl (.cons rfl (.cons rfl (.cons rfl .nil)))) ?_
  repeat refine J.seq ?_
  refine J.cond rfl (fun ht12 => ?_) (fun ht12 => ?_)
  ·
    try simp only [decide_eq_true_eq, decide_eq_false_iff_not] at ht12
    repeat refine J.seq ?_
    refine J.plain ?_
    refine JO.t (ob_ld1 sz_p_ssi_Set rfl rfl) rfl ?_
    refine JO.t (ob_ld1 sz_int rfl rfl) rfl ?_
    refine JO.t (ob_move rfl) rfl ?_
    refine JO.callL (Lr := bxR b x.n bR bT bS r) (c_p_ssi_Set_edge b ba nx sp cl txs hW.n x y hx hy hxy (hW.out x hx) (hW.inn y hy)) (fun d e => by injection e with e; show d < 17; omega) (List.perm_append_comm (l₁ := bxR b x.n bR bT bS r)) (fun _ h => by cases h) (.one rfl (.one rfl (.one rfl .nil))) ?_
    intro _ _
    refine JO.subL (L' := bxR b x.n bR bT bS r ++ SL b ba nx sp cl (edM x.n y.n txs)) List.perm_append_comm ?_
    refine JO.nil ?_
    refine JX.normal_ret ?_
    first
      | exact JX.retL0 (Lr := []) (L1 := fun _ : Unit => bxR b x.n bR bT bS r ++ SL b ba nx sp cl (rdT r x y txs)) rfl () trivial (by unfold rdT; rw [if_pos ht12, List.append_nil]) (ob_out (app_ob bxR_ob SL_ob)) hb0 rfl
      | exact JX.retL0 (Lr := []) (L1 := fun _ : Unit => bxR b x.n bR bT bS r ++ SL b ba nx sp cl (rdT r x y txs)) rfl () trivial (by unfold rdT; rw [if_neg (by rw [ht12]; simp), List.append_nil]; exact .refl _) (ob_out (app_ob bxR_ob SL_ob)) hb0 rfl
  ·
    try simp only [decide_eq_true_eq, decide_eq_false_iff_not] at ht12
    refine J.skip ?_
    refine JX.normal_ret ?_
    first
      | exact JX.retL0 (Lr := []) (L1 := fun _ : Unit => bxR b x.n bR bT bS r ++ SL b ba nx sp cl (rdT r x y txs)) rfl () trivial (by unfold rdT; rw [if_pos ht12, List.append_nil]) (ob_out (app_ob bxR_ob SL_ob)) hb0 rfl
      | exact JX.retL0 (Lr := []) (L1 := fun _ : Unit => bxR b x.n bR bT bS r ++ SL b ba nx sp cl (rdT r x y txs)) rfl () trivial (by unfold rdT; rw [if_neg (by rw [ht12]; simp), List.append_nil]; exact .refl _) (ob_out (app_ob bxR_ob SL_ob)) hb0 rfl
end Go.Proofs.Ytggmifnkgcladaa
set_option maxRecDepth 20000
namespace Go.Proofs.Ytggmifnkgcladaa
open Go Go.Vc
open Go.Si
theorem perm3 {a b c : Own} {S A K : List Own} (h : S.Perm (A ++ K)) : (a :: b :: c :: S).Perm (A ++ (a :: b :: c :: K)) := by
  refine (((h.cons c).cons b).cons a).trans ?_
  have : (a :: b :: c :: (A ++ K)) = [a, b, c] ++ A ++ K := by simp
  rw [this, show A ++ (a :: b :: c :: K) = A ++ [a, b, c] ++ K by simp]
  exact List.perm_append_comm.append_right _
theorem kept_core {txs txs' : List TM} (h : txs'.map coreT = txs.map coreT) : keptM txs' = keptM txs := by
  have := congrArg (fun l : List TM => (l.map rlen).sum) h
  simp only [List.map_map] at this
  exact this
theorem kept_set {x : TM} {st : Option (Nat × List Value) × Nat} {l : List Rd} : ∀ {txs : List TM}, (txs.map TM.n).Nodup → keptM (setTx x.n (setRd st l) txs) ≤ keptM txs + l.length
  | [], _ => Nat.zero_le _
  | z :: txs, hn => by
    rw [List.map_cons, List.nodup_cons] at hn
    have ih := kept_set (x := x) (st := st) (l := l) hn.2
    show keptM ((if z.n = x.n then setRd st l z else z) :: setTx x.n (setRd st l) txs) ≤ keptM (z :: txs) + l.length
    by_cases h : z.n = x.n
    · rw [if_pos h, setTx_none (by rw [← h]; exact hn.1)]
      unfold keptM
      rw [List.map_cons, List.sum_cons, List.map_cons, List.sum_cons]
      show l.length + _ ≤ _
      omega
    · rw [if_neg h]
      unfold keptM at ih ⊢
      rw [List.map_cons, List.sum_cons, List.map_cons, List.sum_cons]
      omega
theorem kpL_len (l : List Rd) (r : Rd) : (kpL l r).length ≤ l.length + 1 := by
  unfold kpL
  split
  · omega
  · split
    · have := List.length_filter_le (fun k => !sameT r k) l
      simp; omega
    · simp
theorem _root_.Go.Si.Wf.rd {cl : Nat} {txs : List TM} (h : Wf cl txs) {x : TM} (hx : x ∈ txs) {st : Option (Nat × List Value) × Nat} {l : List Rd} (hG : Grows Rd.cells 8 l st.1 st.2) : Wf cl (setTx x.n (setRd st l) txs) :=
  h.map (fun z => if z.n = x.n then setRd st l z else z) (fun z => by split <;> rfl) (fun z => by split <;> exact ⟨rfl, rfl, rfl, rfl⟩) (fun z hz => by split; exact hG; exact h.rs z hz) (fun z hz => by split <;> exact h.ws z hz)
def RdZ (cl : Nat) (txs : List TM) (k : Int) (r : Rd) (z : List TM × Int) : Prop :=
  match liveM k txs with
  | none => z = (txs, 41)
  | some x => ∃ (st : Option (Nat × List Value) × Nat) (ks : List Nat) (cur : List TM), Grows Rd.cells 8 (kpL x.reads r) st.1 st.2 ∧ IE cl (setTx x.n (setRd st (kpL x.reads r)) txs) (pR x.n (kpR x.reads r) (setTx x.n (setRd st (kpL x.reads r)) txs)) ks cur ∧
      (∀ y ∈ setTx x.n (setRd st (kpL x.reads r)) txs, othM x y = true ↔ y.n ∈ ks) ∧ z = (if 256 < keptM cur then (abM k cur, 22) else (jgT k cur, jgE cur))
theorem set_writes {k : Nat} {st : Option (Nat × List Value) × Nat} {l : List Rd} {txs : List TM} {y : TM} (hy : y ∈ setTx k (setRd st l) txs) : ∃ z ∈ txs, z.writes = y.writes := by
  obtain ⟨z, hz, rfl⟩ := List.mem_map.1 hy
  refine ⟨z, hz, ?_⟩
  split <;> rfl
theorem edP_start (cl : Nat) {txs : List TM} (h : Wf cl txs) (k : Nat) (r : Rd) : IE cl txs (pR k r txs) [] txs := ⟨rfl, h, fun a b => by simp [pR]⟩
theorem c_p_ssi_Set_Read (b ba nx sp cl : Nat) (txs : List TM) (hW : Wf cl txs) (k : Int) (r : Rd) (U : List WrA) (hU : ∀ y ∈ txs, ∀ w ∈ y.writes, w ∈ U) (hwl : ∀ y ∈ txs, y.writes.length ≤ 4611686018427387904) (hrl : ∀ y ∈ txs, y.reads.length < 1048576) (hkp : keptM txs ≤ 1152921504606846976) : CallL Try.prog f_p_ssi_Set_Read (SL b ba nx sp cl txs) [WrF U] [.is (.pointer (some ⟨b, 0, none⟩)), .is (.int .i64 k), .is (rdA r)] (RdZ cl txs k r) (fun z => SL b ba nx sp cl z.1) (fun z => .is (.int .i64 z.2)) :=
CallL.of (fn := Try.f19) Try.func19 (n := 34) rfl rfl rfl (fun _ _ => by kernel_rfl) fun E W hb0 => by
  repeat refine J.seq ?_
  refine J.plain ?_
  refine JO.box rfl rfl fun b3 => ?_
  refine JO.box rfl rfl fun b4 => ?_
  refine JO.box rfl rfl fun b5 => ?_
  refine JO.t (ob_assign rfl) rfl ?_
  refine JO.nil ?_
  repeat (first | refine JX.next ?_ | refine JX.normal_block ?_)
  refine J.sel [3, 4, 5] (.cons rfl (.cons rfl (.cons rfl .nil))) ?_
  refine J.nodup fun hnd => ?_
  have hndS : ((SL b ba nx sp cl txs).map (·.b)).Nodup := (((List.sublist_append_right [_, _, _] (SL b ba nx sp cl txs))).map _).nodup hnd
  repeat refine J.seq ?_
  refine J.plain ?_
  refine JO.t (ob_ld1 sz_p_ssi_Set rfl rfl) rfl ?_
  refine JO.t (ob_ld1 sz_int rfl rfl) rfl ?_
  refine JO.t (ob_callB rfl (c_p_ssi_Set_active b ba nx sp cl txs k) SL_ob (fun o ho => List.mem_cons_of_mem _ (List.mem_cons_of_mem _ (List.mem_cons_of_mem _ ho))) (fun _ _ _ => hndS) (fun _ h => by cases h) (.one rfl (.one rfl .nil))) rfl ?_
  refine JO.t (ob_move rfl) rfl ?_
  refine JO.t (ob_exI rfl rfl) rfl ?_
  refine JO.t (ob_exI rfl rfl) rfl ?_
  refine JO.t (ob_assign rfl) rfl ?_
  refine JO.t (ob_assign rfl) rfl ?_
  refine JO.nil ?_
  repeat (first | refine JX.next ?_ | refine JX.normal_block ?_)
  refine J.sel [3, 4, 5, 7, 8] (.cons rfl (.cons rfl (.cons rfl (.cons rfl (.cons rfl .nil))))) ?_
  repeat refine J.seq ?_
  refine J.plain ?_
  refine JO.t (ob_move rfl) rfl ?_
  refine JO.t (ob_neq rfl rfl) rfl ?_
  refine JO.nil ?_
  repeat (first | refine JX.next ?_ | refine JX.normal_block ?_)
  refine J.sel [3, 4, 5, 7, 8, 16] (.cons rfl (.cons rfl (.cons rfl (.cons rfl (.cons rfl (.cons rfl .nil)))))) ?_
  repeat refine J.seq ?_
  refine J.cond rfl (fun ht16 => ?_) (fun ht16 => ?_)
  ·
    try simp only [decide_eq_true_eq, decide_eq_false_iff_not] at ht16
    repeat refine J.seq ?_
    refine J.plain ?_
    refine JO.t (ob_move rfl) rfl ?_
    refine JO.t (ob_assign rfl) rfl ?_
    refine JO.nil ?_
    repeat (first | refine JX.next ?_ | refine JX.normal_block ?_)
    refine J.sel [6] (.cons rfl .nil) ?_
    repeat refine J.seq ?_
    refine J.ret ?_
    repeat (first | refine JX.ret_pass ?_ | refine JX.ret_block ?_)
    obtain ⟨hl0, he0⟩ := act_dead ht16
    exact JX.retL1 (Lr := [_, _, _]) (L1 := fun z : List TM × Int => SL b ba nx sp cl z.1) (R := fun z => .is (.int .i64 z.2)) rfl (txs, 41) (by unfold RdZ; rw [hl0]) (List.perm_append_comm (l₁ := [_, _, _])) SL_out rfl hb0 rfl (Sub.isEq (by rw [he0]; rfl))
  ·
    try simp only [decide_eq_true_eq, decide_eq_false_iff_not] at ht16
    refine J.skip ?_
    repeat (first | refine JX.next ?_ | refine JX.normal_block ?_)
    obtain ⟨x, hx, rfl, hxd, hxa, hxl, hxP⟩ := act_live ht16
    repeat refine J.seq ?_
    refine J.plain ?_
    refine JO.t (ob_move rfl) rfl ?_
    refine JO.t (ob_ldN (cs := [_, _, _, _, _, _, _, _]) sz_api_Read rfl rfl rfl) rfl ?_
    refine JO.callL (Lr := ⟨b5, ty_api_Read, .is (rdA r)⟩ :: ⟨b4, ty_int, .is (.int .i64 (x.n : Nat))⟩ :: ⟨b3, ty_p_ssi_Set, .is (.pointer (some ⟨b, 0, none⟩))⟩ :: KR b ba nx sp cl txs x) (c_p_ssi_tx_keep x (hW.rs x hx) (hrl x hx) r) (fun d e => by injection e with e; show d < 34; omega) (perm3 (keep_perm hW.n hx)) (fun _ h => by cases h) (.sub rfl (Sub.isEq hxP) (.one rfl .nil)) ?_
    intro st hst
    refine JO.subL (L' := ⟨b5, ty_api_Read, .is (rdA r)⟩ :: ⟨b4, ty_int, .is (.int .i64 (x.n : Nat))⟩ :: ⟨b3, ty_p_ssi_Set, .is (.pointer (some ⟨b, 0, none⟩))⟩ :: SL b ba nx sp cl (setTx x.n (setRd st (kpL x.reads r)) txs)) (perm3 (keep_back hW.n hx st (kpL x.reads r))) ?_
    refine JO.m (obm_store rfl rfl (by repeat (first | exact .here | apply Upd.there)) (by first | exact cnt_is rfl rfl | exact cnt_ex) (by first | exact cnt_is rfl rfl | exact cnt_ex | exact cnt_aggO) ss_api_Read) (by rfl) ?_
    refine JO.nil ?_
    repeat (first | refine JX.next ?_ | refine JX.normal_block ?_)
    refine J.sel [3, 4, 5] (.cons rfl (.cons rfl (.cons rfl .nil))) ?_
    have hW1 : Wf cl (setTx x.n (setRd st (kpL x.reads r)) txs) := hW.rd hx hst
    have hx1 : setRd st (kpL x.reads r) x ∈ (setTx x.n (setRd st (kpL x.reads r)) txs) := List.mem_map.2 ⟨x, hx, if_pos rfl⟩
    repeat refine J.seq ?_
    refine J.plain ?_
    refine JO.t (ob_ld1 sz_p_ssi_Set rfl rfl) rfl ?_
    refine JO.t (ob_ld1 sz_int rfl rfl) rfl ?_
    refine JO.t (ob_makeFunc .nil (.cons rfl (.cons rfl (.cons rfl .nil)))) rfl ?_
    refine JO.callL (Lr := []) (c_p_ssi_Set_others b ba nx sp cl (setTx x.n (setRd st (kpL x.reads r)) txs) hW1 (setRd st (kpL x.reads r) x) hx1 (bxR b x.n b5 b4 b3 (kpR x.reads r)) bxR_ob 34 [.pointer (some ⟨b5, 0, none⟩), .pointer (some ⟨b3, 0, none⟩), .pointer (some ⟨b4, 0, none⟩)] [WrF U] (IE cl (setTx x.n (setRd st (kpL x.reads r)) txs) (pR x.n (kpR x.reads r) (setTx x.n (setRd st (kpL x.reads r)) txs))) (edP_start cl hW1 _ _) (fun ks cur h => h.core) (fun ks cur y hI hy hnk ho => by
      obtain ⟨x2, hx2, hxc⟩ := core_find hI.core hx1
      have hn2 : x2.n = x.n := (core_n hxc : x2.n = (setRd st (kpL x.reads r) x).n)
      have hne : x2.n ≠ y.n := fun e => by
        unfold othM at ho
        rw [Bool.and_eq_true, bne_iff_ne] at ho
        exact ho.1 (by rw [← e, hn2]; rfl)
      have hUc : ∀ q ∈ cur, ∀ w ∈ q.writes, w ∈ U := fun q hq w hw => by
        obtain ⟨q1, hq1, hqc⟩ := core_mem hI.core hq
        obtain ⟨q2, hq2, hq3⟩ := set_writes hq1
        exact hU q2 hq2 w (by rw [hq3, ← core_writes hqc]; exact hw)
      have hwc : ∀ q ∈ cur, q.writes.length ≤ 4611686018427387904 := fun q hq => by
        obtain ⟨q1, hq1, hqc⟩ := core_mem hI.core hq
        obtain ⟨q2, hq2, hq3⟩ := set_writes hq1
        rw [core_writes hqc, ← hq3]; exact hwl q2 hq2
      have hc := c_p_ssi_Set_Read_1 b ba nx sp cl cur hI.wf U hUc hwc x2 y hx2 hy hne (kpR x.reads r) b5 b4 b3
      rw [hn2] at hc
      exact CallL.toZ (rdT (kpR x.reads r) x2 y cur) (IE.stepR (x := setRd st (kpL x.reads r) x) hW1 hx1 hI hx2 hxc hy hne) rfl hc)) (fun d e => by injection e with e; show d < 34; omega) (by rw [List.append_nil]; exact .refl _) (fun _ h => h) (.one rfl (.one rfl (.one rfl .nil))) ?_
    intro zz hzz
    refine JO.nil ?_
    repeat (first | refine JX.next ?_ | refine JX.normal_block ?_)
    refine J.sel [3, 4] (.cons rfl (.cons rfl .nil)) ?_
    obtain ⟨ks, cur⟩ := zz
    obtain ⟨hI, hks⟩ := hzz
    refine J.subS (L' := boxR b5 (kpR x.reads r) :: ⟨b4, ty_int, .is (.int .i64 (x.n : Nat))⟩ :: ⟨b3, ty_p_ssi_Set, .is (.pointer (some ⟨b, 0, none⟩))⟩ :: SL b ba nx sp cl cur) (by rw [List.append_nil]; exact List.Sublist.refl _) ?_
    refine J.nodup fun hnd2 => ?_
    have hkc : keptM cur ≤ 4611686018427387904 := by
      have h1 : keptM cur = keptM (setTx x.n (setRd st (kpL x.reads r)) txs) := kept_core hI.core
      have h2 := kept_set (x := x) (st := st) (l := kpL x.reads r) hW.n
      have h3 := kpL_len x.reads r
      have h4 := hrl x hx
      omega
    repeat refine J.seq ?_
    refine J.plain ?_
    refine JO.t (ob_ld1 sz_p_ssi_Set rfl rfl) rfl ?_
    refine JO.t (ob_callB rfl (c_p_ssi_Set_Kept b ba nx sp cl cur hI.wf.st hI.wf.lt hI.wf.rs hkc) SL_ob (fun o ho => List.mem_cons_of_mem _ (List.mem_cons_of_mem _ (List.mem_cons_of_mem _ ho))) (fun _ _ _ => (((List.sublist_append_right [_, _, _] (SL b ba nx sp cl cur))).map _).nodup hnd2) (fun _ h => by cases h) (.one rfl .nil)) rfl ?_
    refine JO.t (ob_gtr rfl rfl) rfl ?_
    refine JO.nil ?_
    repeat (first | refine JX.next ?_ | refine JX.normal_block ?_)
    refine J.sel [3, 4, 27] (.cons rfl (.cons rfl (.cons rfl .nil))) ?_
    repeat refine J.seq ?_
    refine J.cond rfl (fun ht27 => ?_) (fun ht27 => ?_)
    ·
      try simp only [decide_eq_true_eq, decide_eq_false_iff_not] at ht27
      repeat refine J.seq ?_
      refine J.plain ?_
      refine JO.t (ob_ld1 sz_p_ssi_Set rfl rfl) rfl ?_
      refine JO.t (ob_ld1 sz_int rfl rfl) rfl ?_
      refine JO.callL (Lr := bxR b x.n b5 b4 b3 (kpR x.reads r)) (c_p_ssi_Set_Abort b ba nx sp cl cur hI.wf (x.n : Int)) (fun d e => by injection e with e; show d < 34; omega) (List.perm_append_comm (l₁ := bxR b x.n b5 b4 b3 (kpR x.reads r))) (fun _ h => by cases h) (.one rfl (.one rfl .nil)) ?_
      intro _ _
      refine JO.nil ?_
      repeat (first | refine JX.next ?_ | refine JX.normal_block ?_)
      refine J.sel [] .nil ?_
      repeat refine J.seq ?_
      refine J.plain ?_
      refine JO.t (ob_assign rfl) rfl ?_
      refine JO.nil ?_
      repeat (first | refine JX.next ?_ | refine JX.normal_block ?_)
      refine J.sel [6] (.cons rfl .nil) ?_
      repeat refine J.seq ?_
      refine J.ret ?_
      repeat (first | refine JX.ret_pass ?_ | refine JX.ret_block ?_)
      exact JX.retL1 (Lr := bxR b x.n b5 b4 b3 (kpR x.reads r)) (L1 := fun z : List TM × Int => SL b ba nx sp cl z.1) (R := fun z => .is (.int .i64 z.2)) rfl (abM x.n cur, 22) (by unfold RdZ; rw [hxl]; exact ⟨st, ks, cur, hst, hI, hks, by rw [if_pos (by omega)]⟩) (.refl _) SL_out rfl hb0 rfl (Sub.isEq rfl)
    ·
      try simp only [decide_eq_true_eq, decide_eq_false_iff_not] at ht27
      refine J.skip ?_
      repeat (first | refine JX.next ?_ | refine JX.normal_block ?_)
      repeat refine J.seq ?_
      refine J.plain ?_
      refine JO.t (ob_ld1 sz_p_ssi_Set rfl rfl) rfl ?_
      refine JO.t (ob_ld1 sz_int rfl rfl) rfl ?_
      refine JO.callL (Lr := bxR b x.n b5 b4 b3 (kpR x.reads r)) (c_p_ssi_Set_judge b ba nx sp cl cur hI.wf (x.n : Int)) (fun d e => by injection e with e; show d < 34; omega) (List.perm_append_comm (l₁ := bxR b x.n b5 b4 b3 (kpR x.reads r))) (fun _ h => by cases h) (.one rfl (.one rfl .nil)) ?_
      intro _ _
      refine JO.t (ob_assign rfl) rfl ?_
      refine JO.nil ?_
      repeat (first | refine JX.next ?_ | refine JX.normal_block ?_)
      refine J.sel [6] (.cons rfl .nil) ?_
      repeat refine J.seq ?_
      refine J.ret ?_
      repeat (first | refine JX.ret_pass ?_ | refine JX.ret_block ?_)
      exact JX.retL1 (Lr := bxR b x.n b5 b4 b3 (kpR x.reads r)) (L1 := fun z : List TM × Int => SL b ba nx sp cl z.1) (R := fun z => .is (.int .i64 z.2)) rfl (jgT x.n cur, jgE cur) (by unfold RdZ; rw [hxl]; exact ⟨st, ks, cur, hst, hI, hks, by rw [if_neg (by omega)]⟩) (.refl _) SL_out rfl hb0 rfl (Sub.isEq rfl)
end Go.Proofs.Ytggmifnkgcladaa
