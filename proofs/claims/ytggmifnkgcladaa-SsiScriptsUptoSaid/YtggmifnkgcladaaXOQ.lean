/- Ssi: one call on both, told in plain words; and on none. No condition. -/
import Derived.Test.YtggmifnkgcladaaXON
namespace Go.Proofs.Ytggmifnkgcladaa
open Go Go.Vc Go.Si Go.Vl
def opA (A : List AT) (n : Nat) (o : OpA) : List AT × Nat × Int :=
  if o.k = 1 then (beginA A n, n + 1, 0) else if o.k = 2 then ((readA A o.t o.r).1, n, (readA A o.t o.r).2) else if o.k = 3 then ((writeA A o.t o.w.abs).1, n, (writeA A o.t o.w.abs).2) else if o.k = 4 then commitA A n o.t else if o.k = 5 then ((abortA A o.t).1, n, (abortA A o.t).2) else (A, n, 0)
theorem opA_1 {A : List AT} {n : Nat} {o : OpA} (h : o.k = 1) : opA A n o = (beginA A n, n + 1, 0) := if_pos h
theorem opA_2 {A : List AT} {n : Nat} {o : OpA} (h : o.k = 2) : opA A n o = ((readA A o.t o.r).1, n, (readA A o.t o.r).2) := by unfold opA; rw [if_neg (by omega), if_pos h]
theorem opA_3 {A : List AT} {n : Nat} {o : OpA} (h : o.k = 3) : opA A n o = ((writeA A o.t o.w.abs).1, n, (writeA A o.t o.w.abs).2) := by unfold opA; rw [if_neg (by omega), if_neg (by omega), if_pos h]
theorem opA_4 {A : List AT} {n : Nat} {o : OpA} (h : o.k = 4) : opA A n o = commitA A n o.t := by unfold opA; rw [if_neg (by omega), if_neg (by omega), if_neg (by omega), if_pos h]
theorem opA_5 {A : List AT} {n : Nat} {o : OpA} (h : o.k = 5) : opA A n o = ((abortA A o.t).1, n, (abortA A o.t).2) := by unfold opA; rw [if_neg (by omega), if_neg (by omega), if_neg (by omega), if_neg (by omega), if_pos h]
theorem opA_n {A : List AT} {n : Nat} {o : OpA} (h1 : o.k ≠ 1) (h2 : o.k ≠ 2) (h3 : o.k ≠ 3) (h4 : o.k ≠ 4) (h5 : o.k ≠ 5) : opA A n o = (A, n, 0) := by unfold opA; rw [if_neg h1, if_neg h2, if_neg h3, if_neg h4, if_neg h5]
theorem opA_bd {A : List AT} {n i : Nat} {o : OpA} (h : Bd A 60 i) (hk : o.k = 1 → A.length < 60) : Bd (opA A n o).1 60 (i + 1) := by
  unfold opA
  split
  · have hb := (h.mono (Nat.le_refl _) (Nat.le_succ i)).begin n
    refine ⟨?_, hb.r, hb.w⟩
    unfold beginA; rw [List.length_append]
    have := hk (by assumption)
    simp only [List.length_cons, List.length_nil]; omega
  split
  · exact h.read _ _
  split
  · exact h.write _ _
  split
  · exact (h.mono (Nat.le_refl _) (Nat.le_succ i)).commit _ _
  split
  · exact (h.mono (Nat.le_refl _) (Nat.le_succ i)).abort _
  · exact h.mono (Nat.le_refl _) (Nat.le_succ i)
theorem opA_sp {A : List AT} {n : Nat} {o : OpA} : (opA A n o).2.1 ≤ n + 1 := by
  unfold opA commitA
  repeat' split
  all_goals first | exact Nat.le_refl _ | exact Nat.le_succ _
theorem SRel.mono {q : SS} {A : List AT} {n : Nat} {U V : List WrA} (h : SRel q A n U) (hUV : ∀ x ∈ U, x ∈ V) : SRel q A n V := ⟨h.wf, h.sim, h.nx, h.sp, h.ok, fun y hy w hw => hUV w (h.us y hy w hw)⟩
theorem wG_abs {o : OpA} {so sn : Option (Nat × List Value)} {co cn : Nat} (h1 : so.isSome = o.w.o.a.isSome) (h2 : sn.isSome = o.w.n.a.isSome) : (wG o.w.t o.w.o.row o.w.n.row so sn co cn).abs = o.w.abs := by
  show Wr.mk o.w.t (if (adO so).isSome then some o.w.o.row else none) (if (adO sn).isSome then some o.w.n.row else none) = _
  rw [adO_some, adO_some, h1, h2]; rfl
section
variable {q : SS} {p : RS} {A A' : List AT} {n n' b ba : Nat} {U Us : List WrA} {o : OpA} {e : Int}
theorem oneS_real (h : SRel q A n U) (hR : Rm A) (hn : n < 4611686018427387904) (hwo : o.w.o.row.length ≤ 1048576) (hwn : o.w.n.row.length ≤ 1048576) (he : opA A n o = (A', n', e)) : OneS o (.pointer (some ⟨b, 0, none⟩)) e ((A.length + 1 : Nat) : Int) SS (q.L b ba) (fun z => z.L b ba) [WrF U] (fun z x => SRel z A' n' (x :: U)) := by
  refine ⟨q.ob, fun z => z.ob, fun hk => ?_, fun hk => ?_, fun hk so sn co cn hGo hGn h1 h2 => ?_, fun hk => ?_, fun hk => ?_, fun k1 k2 k3 k4 k5 => ?_⟩
  · rw [opA_1 hk] at he
    injection he with e1 e2
    injection e2 with e2 e3
    refine ⟨e3.symm, (k_Begin h hR hn).weak (fun F hF => by cases hF) |>.map id (fun z hz => ?_) (fun _ _ => rfl) (fun _ _ => rfl)⟩
    rw [← e1, ← e2]; exact SRel.mono hz (fun _ => List.mem_cons_of_mem _)
  · rw [opA_2 hk] at he
    injection he with e1 e2
    injection e2 with e2 e3
    refine (k_Read h hR o.t o.r (Prod.ext e1 e3)).map id (fun z hz => ?_) (fun _ _ => rfl) (fun _ _ => rfl)
    rw [← e2]; exact SRel.mono hz (fun _ => List.mem_cons_of_mem _)
  · rw [opA_3 hk] at he
    injection he with e1 e2
    injection e2 with e2 e3
    refine (k_Write h hR o.t o.w.t o.w.o.row o.w.n.row so sn co cn hGo hGn hwo hwn (A' := A') (e := e) ?_).map id (fun z hz => ?_) (fun _ _ => rfl) (fun _ _ => rfl)
    · rw [wG_abs h1 h2]; exact Prod.ext e1 e3
    · rw [← e2]; exact hz
  · rw [opA_4 hk] at he
    exact ((k_Commit h hn o.t he).weak (fun F hF => by cases hF)).map id (fun z hz => SRel.mono hz (fun _ => List.mem_cons_of_mem _)) (fun _ _ => rfl) (fun _ _ => rfl)
  · rw [opA_5 hk] at he
    injection he with e1 e2
    injection e2 with e2 e3
    refine ((k_Abort h o.t (Prod.ext e1 e3)).weak (fun F hF => by cases hF)).map id (fun z hz => ?_) (fun _ _ => rfl) (fun _ _ => rfl)
    rw [← e2]; exact SRel.mono hz (fun _ => List.mem_cons_of_mem _)
  · rw [opA_n k1 k2 k3 k4 k5] at he
    injection he with e1 e2
    injection e2 with e2 e3
    exact ⟨e3.symm, q, by rw [← e1, ← e2]; exact SRel.mono h (fun _ => List.mem_cons_of_mem _), rfl⟩
theorem oneT_real (h : RRl p A n Us) (hR : Rm A) (hn : n < 4611686018427387904) (hw : o.w ∈ Us) (he : opA A n o = (A', n', e)) : OneT o (.pointer (some ⟨b, 0, none⟩)) e ((A.length + 1 : Nat) : Int) RS (p.L b) (fun z => z.L b) [WrF Us] (fun z => RRl z A' n' Us) := by
  refine ⟨p.ob, fun z => z.ob, fun hk => ?_, fun hk => ?_, fun hk => ?_, fun hk => ?_, fun hk => ?_, fun k1 k2 k3 k4 k5 => ?_⟩
  · rw [opA_1 hk] at he
    injection he with e1 e2
    injection e2 with e2 e3
    refine ((r_Begin h hR (Nat.le_of_lt hn)).weak (fun F hF => by cases hF)).map id (fun z hz => ?_) (fun _ _ => rfl) (fun _ _ => rfl)
    rw [← e1, ← e2]; exact hz
  · rw [opA_2 hk] at he
    injection he with e1 e2
    injection e2 with e2 e3
    refine (r_Read h hR o.t o.r (Prod.ext e1 e3)).map id (fun z hz => ?_) (fun _ _ => rfl) (fun _ _ => rfl)
    rw [← e2]; exact hz
  · rw [opA_3 hk] at he
    injection he with e1 e2
    injection e2 with e2 e3
    refine (r_Write h hR o.t o.w hw (Prod.ext e1 e3)).map id (fun z hz => ?_) (fun _ _ => rfl) (fun _ _ => rfl)
    rw [← e2]; exact hz
  · rw [opA_4 hk] at he
    exact r_Commit h hR (Nat.le_of_lt hn) o.t he
  · rw [opA_5 hk] at he
    injection he with e1 e2
    injection e2 with e2 e3
    refine ((r_Abort h hR o.t (Prod.ext e1 e3)).weak (fun F hF => by cases hF)).map id (fun z hz => ?_) (fun _ _ => rfl) (fun _ _ => rfl)
    rw [← e2]; exact hz
  · rw [opA_n k1 k2 k3 k4 k5] at he
    injection he with e1 e2
    injection e2 with e2 e3
    exact ⟨p, by rw [← e1, ← e2]; exact h, rfl⟩
end
def nilE (o : OpA) : Int := if o.k = 2 ∨ o.k = 3 ∨ o.k = 4 ∨ o.k = 5 then 2 else 0
theorem oneS_nil (o : OpA) : OneS o (.pointer none) (nilE o) 0 Unit [] (fun _ => []) [] (fun _ _ => True) := by
  have h0 : o.k = 2 ∨ o.k = 3 ∨ o.k = 4 ∨ o.k = 5 → nilE o = 2 := fun h => if_pos h
  refine ⟨nil_ob, fun _ => nil_ob, fun hk => ⟨if_neg (by omega), ?_⟩, fun hk => ?_, fun hk so sn co cn _ _ _ _ => ?_, fun hk => ?_, fun hk => ?_, fun k1 k2 k3 k4 k5 => ⟨if_neg (by omega), (), trivial, rfl⟩⟩
  · exact n_p_ssi_Set_Begin.toL () trivial rfl (fun _ _ _ h => h)
  · rw [h0 (by omega)]
    exact (n_p_ssi_Set_Read o.t o.r).toL () trivial rfl (fun _ _ _ h => h)
  · rw [h0 (by omega)]
    refine (n_p_ssi_Set_Write o.t _).toL ((), wr0) trivial rfl (fun E v w h => ?_)
    rw [show v = _ from h]
    exact fun w' _ => ⟨rfl, wr0_ok w'⟩
  · rw [h0 (by omega)]
    exact (n_p_ssi_Set_Commit o.t).toL () trivial rfl (fun _ _ _ h => h)
  · rw [h0 (by omega)]
    exact (n_p_ssi_Set_Abort o.t).toL () trivial rfl (fun _ _ _ h => h)
theorem oneT_nil (o : OpA) : OneT o (.pointer none) (nilE o) 0 Unit [] (fun _ => []) [] (fun _ => True) := by
  have h0 : o.k = 2 ∨ o.k = 3 ∨ o.k = 4 ∨ o.k = 5 → nilE o = 2 := fun h => if_pos h
  refine ⟨nil_ob, fun _ => nil_ob, fun hk => ?_, fun hk => ?_, fun hk => ?_, fun hk => ?_, fun hk => ?_, fun k1 k2 k3 k4 k5 => ⟨(), trivial, rfl⟩⟩
  · exact n_p_ref20_Set_Begin.toL () trivial rfl (fun _ _ _ h => h)
  · rw [h0 (by omega)]
    exact (n_p_ref20_Set_Read o.t o.r).toL () trivial rfl (fun _ _ _ h => h)
  · rw [h0 (by omega)]
    exact (n_p_ref20_Set_Write o.t o.w).toL () trivial rfl (fun _ _ _ h => h)
  · rw [h0 (by omega)]
    exact (n_p_ref20_Set_Commit o.t).toL () trivial rfl (fun _ _ _ h => h)
  · rw [h0 (by omega)]
    exact (n_p_ref20_Set_Abort o.t).toL () trivial rfl (fun _ _ _ h => h)
theorem k_none (o : OpA) (Us : List WrA) (hw : o.w ∈ Us) (hwo : o.w.o.row.length ≤ 1048576) (hwn : o.w.n.row.length ≤ 1048576) : CallL Try.prog f_law20_one [] [WrF Us] [.is (.pointer none), .is (.pointer none), .is (.agg (OpA.cells o).toArray)] (fun _ : Unit => True) (fun _ => []) (fun _ => .is (.tuple #[.int .i64 (nilE o), .int .i64 (nilE o)])) :=
  (c_law20_one o Us hw hwo hwn _ _ _ 0 Unit Unit [] [] _ _ [] [] _ _ (oneS_nil o) (oneT_nil o)).mapR (fun _ => ()) (fun _ _ => trivial) (fun _ _ => rfl) (fun z _ E v w h => (Pers.now h).1)
theorem one_more {Φ : List (World → Prop)} {E : Nat → Prop} {w : World} {e : Int} {x : WrA} {U : List WrA} (hG : ∀ G ∈ Φ, Pers E w G) (h1 : OneR e x (.tuple #[.int .i64 e, .int .i64 e]) ∈ Φ) (h2 : WrF U ∈ Φ) : Pers E w (WrF (x :: U)) := fun w1 hk v hv => by
  rcases List.mem_cons.1 hv with rfl | hv
  · exact (hG _ h1 w1 hk).2 _ (List.mem_singleton_self _)
  · exact hG _ h2 w1 hk v hv
structure LT where
  i : Nat
  q : SS
  p : RS
  A : List AT
  n : Nat
  U : List WrA
end Go.Proofs.Ytggmifnkgcladaa
