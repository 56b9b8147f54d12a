/- The document on values: what may be, comparison, rows that are the same. No condition. -/
import Derived.Test.YtgpikmonklainaaXA
set_option maxRecDepth 20000
namespace Go.Proofs.Ytgpikmonklainaa
open Go Go.Vc
open Go.Vl
def bad1 (v : V3) : Bool := (((decide (v.k < 0) || decide (3 < v.k)) || ((v.k != 3) && !seq v.s ⟨#[]⟩)) || ((v.k == 0) && (v.n != 0))) || ((v.k == 3) && (v.n != 0))
def bad2 (v : V3) : Bool := ((v.k == 2) && (v.n != 0)) && (v.n != 1)
def lowF (a b : V3) : Bool := decide (a.k < b.k) || ((a.k == b.k) && (decide (a.n < b.n) || ((a.n == b.n) && slt a.s b.s)))
def sameV : List V3 → List V3 → Bool
  | [], [] => true
  | x :: xs, y :: ys => veq x.k x.n x.s y.k y.n y.s && sameV xs ys
  | _, _ => false
theorem sameV_iff : ∀ xs ys : List V3, sameV xs ys = true ↔ xs = ys
  | [], [] => by simp [sameV]
  | x :: xs, y :: ys => by rw [sameV, Bool.and_eq_true, veq_iff, sameV_iff xs ys, List.cons.injEq]
  | [], _ :: _ => by simp [sameV]
  | _ :: _, [] => by simp [sameV]
theorem sameV_drop {xs ys : List V3} {i : Nat} (hx : i < xs.length) (hy : i < ys.length) : sameV (xs.drop i) (ys.drop i) = (veq (xs.getD i v3D).k (xs.getD i v3D).n (xs.getD i v3D).s (ys.getD i v3D).k (ys.getD i v3D).n (ys.getD i v3D).s && sameV (xs.drop (i + 1)) (ys.drop (i + 1))) := by
  rw [List.drop_eq_getElem_cons hx, List.drop_eq_getElem_cons hy, sameV]
  simp [hx, hy]
theorem c_ref01_Same (xs ys : List V3) (hl : xs.length ≤ 9223372036854775806) : CallTy Try.prog f_ref01_Same [.rep (SlG V3.cells 3 xs), .rep (SlG V3.cells 3 ys)] (.is (.bool (sameV xs ys))) :=
  CallTy.of (fn := Try.f29) Try.func29 (n := 26) rfl rfl rfl (fun _ _ => by kernel_rfl) fun E W => by
  refine J.openSl (s := 0) rfl (fun a len cap b o hlen ha => ?_)
  refine J.openSl (s := 1) rfl (fun ya yl yc yb yo hyl hya => ?_)
  subst hlen hyl
  repeat refine J.seq ?_
  refine J.plain ?_
  refine JO.t (ob_assign rfl) rfl ?_
  refine JO.nil ?_
  repeat (first | refine JX.next ?_ | refine JX.normal_block ?_)
  refine J.sel [0, 1] (.cons rfl (.cons rfl .nil)) ?_
  repeat refine J.seq ?_
  refine J.plain ?_
  refine JO.t (ob_move rfl) rfl ?_
  refine JO.t (ob_len un_sl_api_Value rfl) rfl ?_
  refine JO.t (ob_move rfl) rfl ?_
  refine JO.t (ob_len un_sl_api_Value rfl) rfl ?_
  refine JO.t (ob_neq rfl rfl) rfl ?_
  refine JO.nil ?_
  repeat (first | refine JX.next ?_ | refine JX.normal_block ?_)
  refine J.sel [0, 1, 10] (.cons rfl (.cons rfl (.cons rfl .nil))) ?_
  repeat refine J.seq ?_
  refine J.cond rfl (fun ht10 => ?_) (fun ht10 => ?_)
  ·
    try simp only [decide_eq_true_eq, decide_eq_false_iff_not] at ht10
    repeat refine J.seq ?_
    refine J.plain ?_
    refine JO.t (ob_assign rfl) rfl ?_
    refine JO.nil ?_
    repeat (first | refine JX.next ?_ | refine JX.normal_block ?_)
    refine J.sel [4] (.cons rfl .nil) ?_
    repeat refine J.seq ?_
    refine J.ret ?_
    repeat (first | refine JX.ret_pass ?_ | refine JX.ret_block ?_)
    exact JX.ret1is rfl rfl (by cases hq : sameV xs ys; rfl; have := congrArg List.length ((sameV_iff xs ys).1 hq); simp at ht10; omega)
  ·
    try simp only [decide_eq_true_eq, decide_eq_false_iff_not] at ht10
    refine J.skip ?_
    repeat (first | refine JX.next ?_ | refine JX.normal_block ?_)
    have hll : xs.length = ys.length := by have h := ht10; simp at h; omega
    repeat refine J.seq ?_
    refine J.plain ?_
    refine JO.t (ob_assign rfl) rfl ?_
    refine JO.nil ?_
    repeat (first | refine JX.next ?_ | refine JX.normal_block ?_)
    refine J.sel [0, 1, 5] (.cons rfl (.cons rfl (.cons rfl .nil))) ?_
    repeat refine J.seq ?_
    refine J.block ?_
    repeat refine J.seq ?_
    refine J.loopF (α := Nat) (fun i => [(0, .is (.slice a xs.length cap)), (1, .is (.slice ya ys.length yc)), (5, .is (.int .i64 (i : Nat)))]) (fun i => i ≤ xs.length ∧ sameV (xs.drop i) (ys.drop i) = sameV xs ys) (fun i => xs.length - i) 0 [0, 1, 5] (.cons rfl (.cons rfl (.cons rfl .nil))) ⟨by omega, rfl⟩ fun i ⟨hi, hs⟩ => ?_
    repeat refine J.seq ?_
    refine J.plain ?_
    refine JO.t (ob_move rfl) rfl ?_
    refine JO.t (ob_move rfl) rfl ?_
    refine JO.t (ob_len un_sl_api_Value rfl) rfl ?_
    refine JO.t (ob_lss rfl rfl) rfl ?_
    refine JO.nil ?_
    repeat (first | refine JX.next ?_ | refine JX.normal_block ?_)
    refine J.sel [0, 1, 5, 14] (.cons rfl (.cons rfl (.cons rfl (.cons rfl .nil)))) ?_
    repeat refine J.seq ?_
    refine J.cond rfl (fun ht14 => ?_) (fun ht14 => ?_)
    ·
      try simp only [decide_eq_true_eq, decide_eq_false_iff_not] at ht14
      refine J.skip ?_
      repeat (first | refine JX.next ?_ | refine JX.normal_block ?_)
      repeat refine J.seq ?_
      refine J.block ?_
      repeat refine J.seq ?_
      refine J.reg0 hmx (by kernel_rfl) (by kernel_rfl) ?_
      refine RT.t (ob_move rfl) ?_
      refine RT.t (ob_move rfl) ?_
      refine RT.t (ob_indexAddr el_sl_api_Value rfl (ha (by omega)) rfl (by omega) (by omega)) ?_
      refine RT.t (ob_loadG (enc := V3.cells) (sz := 3) (len := xs.length) (i := i) (y := xs.getD i v3D) (cs := V3.cells (xs.getD i v3D)) sz_api_Value rfl (by repeat (first | exact List.mem_cons_self | apply List.mem_cons_of_mem)) (ha (by omega)) (v3_get (by omega)) (by omega) rfl) ?_
      refine RT.t (ob_move rfl) ?_
      refine RT.t (ob_move rfl) ?_
      refine RT.t (ob_indexAddr el_sl_api_Value rfl (hya (by omega)) rfl (by omega) (by omega)) ?_
      refine RT.t (ob_loadG (enc := V3.cells) (sz := 3) (len := ys.length) (i := i) (y := ys.getD i v3D) (cs := V3.cells (ys.getD i v3D)) sz_api_Value rfl (by repeat (first | exact List.mem_cons_self | apply List.mem_cons_of_mem)) (hya (by omega)) (v3_get (by omega)) (by omega) rfl) ?_
      refine RT.t (ob_vneq veq_api_Value rfl rfl) ?_
      refine RT.nil ?_
      refine FinS.nil0 ?_
      repeat (first | refine JX.next ?_ | refine JX.normal_block ?_)
      refine J.sel [0, 1, 5, 25] (.cons rfl (.cons rfl (.cons rfl (.cons rfl .nil)))) ?_
      repeat refine J.seq ?_
      refine J.cond rfl (fun ht25 => ?_) (fun ht25 => ?_)
      ·
        try simp only [decide_eq_true_eq, decide_eq_false_iff_not] at ht25
        repeat refine J.seq ?_
        refine J.plain ?_
        refine JO.t (ob_assign rfl) rfl ?_
        refine JO.nil ?_
        repeat (first | refine JX.next ?_ | refine JX.normal_block ?_)
        refine J.sel [4] (.cons rfl .nil) ?_
        repeat refine J.seq ?_
        refine J.ret ?_
        repeat (first | refine JX.ret_pass ?_ | refine JX.ret_block ?_)
        exact JX.ret1is rfl rfl (by rw [← hs, sameV_drop (by omega) (by omega), show veq _ _ _ _ _ _ = false by simpa using ht25]; rfl)
      ·
        try simp only [decide_eq_true_eq, decide_eq_false_iff_not] at ht25
        refine J.skip ?_
        repeat (first | refine JX.next ?_ | refine JX.normal_block ?_)
        repeat refine J.seq ?_
        refine J.plain ?_
        refine JO.t (ob_move rfl) rfl ?_
        refine JO.t (ob_addc (cc := ((i + 1 : Nat) : Int)) rfl rfl (by omega) (by omega) (by omega)) rfl ?_
        refine JO.t (ob_assign rfl) rfl ?_
        refine JO.nil ?_
        repeat refine JX.normal_block ?_
        refine JX.roundS (i + 1) ?_ ?_ [0, 1, 5] ?_ ?_ ?_
        · exact ⟨by omega, by have h1 := sameV_drop (xs := xs) (ys := ys) (i := i) (by omega) (by omega); rw [show veq _ _ _ _ _ _ = true by simpa using ht25] at h1; rw [← hs, h1]; rfl⟩
        · exact (by omega)
        · exact (.cons rfl (.cons rfl (.cons rfl .nil)))
        · repeat (first | exact .slnil | apply List.Sublist.cons_cons | apply List.Sublist.cons)
        · repeat (first | exact .slnil | apply List.Sublist.cons_cons | apply List.Sublist.cons)
    ·
      try simp only [decide_eq_true_eq, decide_eq_false_iff_not] at ht14
      repeat refine J.seq ?_
      refine J.exit ?_
      repeat (first | refine JX.hit ?_ | refine JX.miss rfl ?_ | refine JX.exit_pass ?_)
      repeat (first | refine JX.next ?_ | refine JX.normal_block ?_)
      repeat refine J.seq ?_
      refine J.plain ?_
      refine JO.t (ob_assign rfl) rfl ?_
      refine JO.nil ?_
      repeat (first | refine JX.next ?_ | refine JX.normal_block ?_)
      refine J.sel [4] (.cons rfl .nil) ?_
      repeat refine J.seq ?_
      refine J.ret ?_
      repeat (first | refine JX.ret_pass ?_ | refine JX.ret_block ?_)
      exact JX.ret1is rfl rfl (by rw [← hs, List.drop_eq_nil_of_le (by omega), List.drop_eq_nil_of_le (by omega)]; rfl)
end Go.Proofs.Ytgpikmonklainaa
