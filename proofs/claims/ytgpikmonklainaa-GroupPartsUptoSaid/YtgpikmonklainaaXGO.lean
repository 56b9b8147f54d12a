/- group: rows compared by their places. No condition. -/
import Derived.Test.YtgpikmonklainaaXGN
import Derived.Test.YtgpikmonklainaaXGH
import Derived.Test.YtgpikmonklainaaXB
set_option maxRecDepth 20000
namespace Go.Proofs.Ytgpikmonklainaa
open Go Go.Vc
open Go.Vl Go.Od
def GKy (kps : List RV) (ka : Option Addr) (kc b : Nat) (w : World) : Prop := HeapIs b [.slice ka kps.length kc] ty_sl_sl_api_Value w ∧ RowG RV.c 1 kps ka kps.length w ∧ RVF kps w
abbrev rwA (kps : List RV) (i : Nat) : List V3 := (kps.getD i rv0).row
def cfK (kps : List RV) (i j : Nat) : Int := rowsC (rwA kps i) (rwA kps j)
theorem swoR {α : Type} {c : α → α → Int} (T : TO c) (f : Nat → α) (n : Nat) : Swo n (ltF fun i j => c (f i) (f j)) := by
  refine ⟨fun x y _ _ h => ?_, fun x y z _ _ _ h1 h2 => ?_⟩
  · have h : c (f x) (f y) < 0 := of_decide_eq_true h
    have n1 := T.neg (f x) (f y)
    exact decide_eq_false (show ¬ c (f y) (f x) < 0 by omega)
  · have h1 : ¬ c (f x) (f y) < 0 := of_decide_eq_false h1
    have h2 : ¬ c (f y) (f z) < 0 := of_decide_eq_false h2
    refine decide_eq_false fun h3 => ?_
    have h3 : c (f x) (f z) < 0 := h3
    have n1 := T.neg (f x) (f y)
    by_cases h0 : c (f x) (f y) = 0
    · rw [(T.zero _ _).1 h0] at h3
      exact h2 h3
    · exact h2 (T.tr _ (f x) _ (by omega) h3)
theorem swoK (kps : List RV) (n : Nat) : Swo n (ltF (cfK kps)) := swoR to_V.lex (rwA kps) n
theorem c_group_Rows_1 (kps : List RV) (ka : Option Addr) (kc b4 i j : Nat) (hb : ∀ p ∈ kps, p.row.length ≤ 1048576) (hn : kps.length ≤ 1048576) (hi : i < kps.length) (hj : j < kps.length) : CallL Try.prog f_group_Rows_1 [] [GKy kps ka kc b4] [.is (.int .i64 (i : Nat)), .is (.int .i64 (j : Nat)), .is (.pointer (some ⟨b4, 0, none⟩))] (fun _ : Unit => True) (fun _ => []) (fun _ => .is (.int .i64 (cfK kps i j))) :=
CallL.of (fn := Try.f35) Try.func35 (n := 15) rfl rfl rfl (fun _ _ => by kernel_rfl) fun E W hb0 => by
  refine J.fact (HeapIs b4 [.slice ka kps.length kc] ty_sl_sl_api_Value) (fun E w hG _ => fun w2 hk => (hG (GKy kps ka kc b4) (by repeat (first | exact List.mem_cons_self | apply List.mem_cons_of_mem)) w2 hk).1) ?_
  refine J.fact (RowG RV.c 1 kps ka kps.length) (fun E w hG _ => fun w2 hk => (hG (GKy kps ka kc b4) (by repeat (first | exact List.mem_cons_self | apply List.mem_cons_of_mem)) w2 hk).2.1) ?_
  refine J.fact (RVF kps) (fun E w hG _ => fun w2 hk => (hG (GKy kps ka kc b4) (by repeat (first | exact List.mem_cons_self | apply List.mem_cons_of_mem)) w2 hk).2.2) ?_
  refine J.knG (enc := RV.c) (sz := 1) (xs := kps) (a := ka) (len := kps.length) (by repeat (first | exact List.mem_cons_self | apply List.mem_cons_of_mem)) (fun kb ko _ hka => ?_)
  have hb1 : (kps.getD i rv0).row.length ≤ 1048576 := hb _ (getD_mem hi)
  repeat refine J.seq ?_
  refine J.plain ?_
  refine JO.t (ob_assign rfl) rfl ?_
  refine JO.nil ?_
  repeat (first | refine JX.next ?_ | refine JX.normal_block ?_)
  refine J.sel [0, 1, 2] (.cons rfl (.cons rfl (.cons rfl .nil))) ?_
  repeat refine J.seq ?_
  refine J.reg0 hmx (by kernel_rfl) (by kernel_rfl) ?_
  refine RT.t (ob_ldF1 sz_sl_sl_api_Value rfl (by repeat (first | exact List.mem_cons_self | apply List.mem_cons_of_mem)) rfl) ?_
  refine RT.t (ob_move rfl) ?_
  refine RT.t (ob_indexAddr el_sl_sl_api_Value rfl (hka (by omega)) rfl (by omega) (by omega)) ?_
  refine RT.t (ob_loadG1 (enc := RV.c) (sz := 1) (i := i) (j := 0) (y := kps.getD i rv0) (u := (kps.getD i rv0).v) sz_sl_api_Value rfl (by repeat (first | exact List.mem_cons_self | apply List.mem_cons_of_mem)) (hka (by omega)) (getD_some (by omega)) (by omega) rfl) ?_
  refine RT.t (ob_ldF1 sz_sl_sl_api_Value rfl (by repeat (first | exact List.mem_cons_self | apply List.mem_cons_of_mem)) rfl) ?_
  refine RT.t (ob_move rfl) ?_
  refine RT.t (ob_indexAddr el_sl_sl_api_Value rfl (hka (by omega)) rfl (by omega) (by omega)) ?_
  refine RT.t (ob_loadG1 (enc := RV.c) (sz := 1) (i := j) (j := 0) (y := kps.getD j rv0) (u := (kps.getD j rv0).v) sz_sl_api_Value rfl (by repeat (first | exact List.mem_cons_self | apply List.mem_cons_of_mem)) (hka (by omega)) (getD_some (by omega)) (by omega) rfl) ?_
  refine RT.t (ob_call rfl (c_order_Rows (kps.getD i rv0).row (kps.getD j rv0).row (by omega)) (.sub rfl (Sub.rvS (p := kps.getD i rv0) (getD_mem hi) (by repeat (first | exact List.mem_cons_self | apply List.mem_cons_of_mem))) (.sub rfl (Sub.rvS (p := kps.getD j rv0) (getD_mem hj) (by repeat (first | exact List.mem_cons_self | apply List.mem_cons_of_mem))) .nil))) ?_
  refine RT.t (ob_assign rfl) ?_
  refine RT.nil ?_
  refine FinS.nil0 ?_
  repeat (first | refine JX.next ?_ | refine JX.normal_block ?_)
  refine J.sel [5] (.cons rfl .nil) ?_
  repeat refine J.seq ?_
  refine J.ret ?_
  repeat (first | refine JX.ret_pass ?_ | refine JX.ret_block ?_)
  exact JX.retL1 (Zp := fun _ : Unit => True) (L0 := []) (L1 := fun _ => []) (R := fun _ => .is _) (Lr := []) rfl () trivial (.refl _) rfl rfl hb0 rfl (Sub.isEq rfl)
theorem fn2K (kps : List RV) (ka : Option Addr) (kc b4 : Nat) (hb : ∀ p ∈ kps, p.row.length ≤ 1048576) (hn : kps.length ≤ 1048576) : Fn2 Try.prog (.func (.func f_group_Rows_1) #[] #[.pointer (some ⟨b4, 0, none⟩)]) (GKy kps ka kc b4) kps.length (cfK kps) :=
  ⟨f_group_Rows_1, [], [.pointer (some ⟨b4, 0, none⟩)], rfl, fun _ _ => by kernel_rfl, fun i j hi hj E w hwf hG => by
    have h := (c_group_Rows_1 kps ka kc b4 i j hb hn hi hj).calls E w [.int .i64 (i : Nat), .int .i64 (j : Nat), .pointer (some ⟨b4, 0, none⟩)] hwf (fun o ho => absurd ho List.not_mem_nil) .nil (fun F hF => by rw [List.mem_singleton.1 hF]; exact hG) ⟨rfl, rfl, rfl, trivial⟩
    refine Calls.mono h ?_
    rintro e w' ⟨v, z, E', rfl, he⟩
    exact ⟨v, rfl, he.k.mono fun b _ h => by simp at h, he.r⟩⟩
end Go.Proofs.Ytgpikmonklainaa
