/- Parse. No condition. -/
import Derived.Test.YtbedigkncjbggaaGreatDoorXQ11
import Derived.Test.YtbedigkncjbggaaGreatDoorXQ12
import Derived.Test.YtbedigkncjbggaaGreatDoorXG7
import Derived.Test.YtbedigkncjbggaaGreatDoorXQ5
import Derived.Test.YtbedigkncjbggaaGreatDoorXQ2
set_option maxRecDepth 20000
namespace Go.Proofs.YtbedigkncjbggaaGreatDoor
open Go Go.Vc
open Go.Pz
abbrev zSt : Ty := .is (stV st0 nilv nilv nilv nilv nilv nilv nilv nilv nilv)
theorem SrZero {N : Nat} {L : List Own} {Φ : List (World → Prop)} : Sub L Φ zSt (.rep (StR N st0)) := Sub.st rfl fun X w hf w' hk => ⟨Zb (FrS.nil _), Zb (FrS.nil _), Zb trivial, Zb trivial, Zb trivial, Zb (FrS.nil _), ZV, Zb trivial, ZV⟩
theorem Zd8 (w : World) : (zeroValue 59).run Tryz.prog w = .ok (.agg #[]) w := by
  have hz := Z4w
  unfold zeroOf at hz
  cases hq : Tryz.prog.info? 59 with
  | none => rw [hq] at hz; cases hz
  | some i =>
    rw [hq] at hz
    simp only [Option.bind_some] at hz
    simp [zeroValue, typeInfo, hq, hz]
def RecS (b2 b3 : Nat) (T2 : Ty) (e3 : Int) (u u' : FrameMode) (T2' : Ty) (e3' : Int) : Prop := CallRec Tryz.prog Z1Y [⟨b2, Zy, T2⟩, ⟨b3, Z1q, .is (.int .i64 e3)⟩] ([.pointer (some ⟨b2, 0, none⟩), .pointer (some ⟨b3, 0, none⟩)].map Ty.is) u u' [⟨b2, Zy, T2'⟩, ⟨b3, Z1q, .is (.int .i64 e3')⟩]
theorem ZeO (b2 b3 : Nat) (T2 : Ty) (h2 : T2.out = true) (e3 : Int) : RecS b2 b3 T2 e3 .returning .returning T2 e3 :=
  CallRec.of (fn := Tryz.f25) .none Tryz.func25 rfl (n := 11) rfl rfl rfl (fun _ _ => by kernel_rfl) fun E W hb0 => by
  refine Jt (ZbU (d := .struct #[]) (by kernel_rfl) rfl Zd8 rfl) rfl ?_
  refine Jt (Z0 rfl) rfl ?_
  refine Jt (Z1F rfl) rfl ?_
  refine Jt (Z1G rfl) rfl ?_
  refine JO.alloc Z4w rfl fun b4 => ?_
  refine JO.m (Z3 rfl rfl (by repeat first | exact .here | apply Ut) (by first | exact cI rfl rfl | exact cE) (by first | exact cI rfl rfl | exact cE | exact cO) Z6t) (by rfl) ?_
  refine Jt (Z2 rfl) rfl ?_
  apply Ni
  repeat first | apply Nx | apply Nb
  refine Sl [0, 1, 3] (.cons rfl (.cons rfl (.cons rfl .nil))) ?_
  repeat apply Sq
  apply Pn
  refine Jt (Z0 rfl) rfl ?_
  apply Ni
  repeat first | apply Nx | apply Nb
  refine Sl [0, 1, 9] (.cons rfl (.cons rfl (.cons rfl .nil))) ?_
  repeat apply Sq
  refine Cd rfl (fun ht9 => ?_) (fun ht9 => ?_)
  · cases ht9
  · apply Sk
    refine JX.normal_ret ?_
    exact JX.retL0 (Lr := [_]) (L1 := fun _ : Unit => [⟨b2, Zy, T2⟩, ⟨b3, Z1q, .is (.int .i64 e3)⟩]) rfl () trivial (List.perm_append_comm (l₁ := [_]) (l₂ := [_, _])) (by simp [h2, Ty.out]) hb0 rfl
theorem Z9S (b2 b3 : Nat) (T2 : Ty) (h2 : Cnt T2 14) (e3 : Int) : RecS b2 b3 T2 e3 (.panicking flt) (.panicking [{ v := .iface Z6T (.agg #[]), recovered := true }]) zSt 30 :=
  CallRec.of (fn := Tryz.f25) .some Tryz.func25 rfl (n := 11) rfl rfl rfl (fun _ _ => by kernel_rfl) fun E W hb0 => by
  refine Jt (Zc3 (d := .struct #[]) (by kernel_rfl) rfl rfl) rfl ?_
  refine Jt (Z0 rfl) rfl ?_
  refine Jt (Z1F rfl) rfl ?_
  refine Jt (Z1G rfl) rfl ?_
  refine JO.alloc Z4w rfl fun b4 => ?_
  refine JO.m (Z3 rfl rfl (by repeat first | exact .here | apply Ut) (by first | exact cI rfl rfl | exact cE) (by first | exact cI rfl rfl | exact cE | exact cO) Z6t) (by rfl) ?_
  refine Jt (Z2 rfl) rfl ?_
  apply Ni
  repeat first | apply Nx | apply Nb
  refine Sl [0, 1, 3] (.cons rfl (.cons rfl (.cons rfl .nil))) ?_
  repeat apply Sq
  apply Pn
  refine Jt (Z0 rfl) rfl ?_
  apply Ni
  repeat first | apply Nx | apply Nb
  refine Sl [0, 1, 9] (.cons rfl (.cons rfl (.cons rfl .nil))) ?_
  repeat apply Sq
  refine Cd rfl (fun ht9 => ?_) (fun ht9 => ?_)
  · repeat apply Sq
    apply Pn
    refine Jt (Zs (cs := [_, _, _, _, _, _, _, _, _, _, _, _, _, _]) Z1S .nil rfl rfl) rfl ?_
    refine JO.m (Z3 rfl rfl (by repeat first | exact .here | apply Ut) h2 (by exact Z18 rfl rfl) Zk) (by rfl) ?_
    refine JO.m (Z3 rfl rfl (by repeat first | exact .here | apply Ut) (by exact Z18 rfl rfl) (by exact Z18 rfl rfl) Z3m) (by rfl) ?_
    apply Ni
    refine JX.normal_ret ?_
    exact JX.retL0 (Lr := [_]) (L1 := fun _ : Unit => [⟨b2, Zy, zSt⟩, ⟨b3, Z1q, .is (.int .i64 30)⟩]) rfl () trivial (List.perm_append_comm (l₁ := [_]) (l₂ := [_, _])) rfl hb0 rfl
  · cases ht9
theorem Z91 (b : Nat) (a : Option Addr) (cap : Nat) : CallP Tryz.prog Z32 [⟨b, Z1Z, .is (.agg #[.slice a 0 cap])⟩] [] [.is (.pointer (some ⟨b, 0, none⟩))] True flt (fun _ : Unit => False) (fun _ => []) (fun _ => .is (.tuple #[])) :=
 CallP.of (fn := Tryz.f26) Tryz.func26 (n := 43) rfl rfl rfl (fun _ _ => by kernel_rfl) fun E W hb0 => by
 repeat apply Sq
 apply Pn
 refine JO.alloc ZU rfl fun b2 => ?_
 apply Ni
 repeat first | apply Nx | apply Nb
 refine Sl [0, 2] (.cons rfl (.cons rfl .nil)) ?_
 repeat apply Sq
 refine J.regS 17 hmx (by kernel_rfl) (by kernel_rfl) ?_
 refine Rq (Z0 rfl) ?_
 refine Rq (Z0 rfl) ?_
 refine Rq (Z5 rfl) ?_
 refine Rq (Z1 Zg rfl) ?_
 refine Rq (Z7 Zq rfl rfl) ?_
 refine Rq (ZG ZM rfl) ?_
 refine Rq (Z2t rfl rfl) ?_
 refine Rq (Z0 rfl) ?_
 refine Rg rfl rfl rfl (fun hg => Z0 (.inl rfl)) ?_
 refine Rg rfl rfl rfl (fun hg => Z5 (.inr ⟨_, rfl, id⟩)) ?_
 refine Rg rfl rfl rfl (fun hg => Z1 Zg (.inr ⟨_, rfl, id⟩)) ?_
 refine Rg rfl rfl rfl (fun hg => Z7 Zq (.inr ⟨_, rfl, id⟩) rfl) ?_
 refine RT.g (T := .is (.bool true)) rfl rfl rfl (fun hg => absurd hg (by decide)) ?_
 refine RT.g (T := .is (.bool true)) rfl rfl rfl (fun hg => absurd hg (by decide)) ?_
 refine RT.g (T := .is (.bool true)) rfl rfl rfl (fun hg => absurd hg (by decide)) ?_
 refine RT.g (T := .is (.bool true)) rfl rfl rfl (fun hg => absurd hg (by decide)) ?_
 refine Rq (ZK rfl rfl rfl id) ?_
 apply Rn
 refine FinS.tail0 ?_
 refine JO.callPK (Lr := _) (Z8 (.pointer (some ⟨b, 0, none⟩)) _) rfl (Z15 _) ZP (.one rfl (.one rfl .nil)) (fun hbad => ?_) ?_
 · exact JX.pnI trivial
 intro z hz
 exact absurd hz (by decide)
theorem Zhw (ts : List T3) (bb oo cap : Nat) : Value.slice (some ⟨bb, oo, none⟩) ts.length cap = Tk.sl ⟨ts, bb, oo, cap⟩ ts := by
 have hk : Tk.k ⟨ts, bb, oo, cap⟩ ts = 0 := Nat.sub_self _
 have hj : Tk.j ⟨ts, bb, oo, cap⟩ ts = 0 := by unfold Tk.j; rw [hk]; split <;> rfl
 show _ = Value.slice (some ⟨bb, oo + 3 * Tk.j ⟨ts, bb, oo, cap⟩ ts, none⟩) ts.length (cap - Tk.k ⟨ts, bb, oo, cap⟩ ts)
 rw [hk, hj]; rfl
theorem Zh6 {l : List T3 × Int} (h : ¬ l.2 = 0) : readS l = (st0, l.2) := by unfold readS; rw [if_neg (by simpa using h)]
theorem Zdr {l : List T3 × Int} (h : l.2 = 0) (hn : wholeP l.1 = none) : readS l = (st0, 30) := by unfold readS; rw [if_pos (by simpa using h)]; unfold readT; rw [hn]
theorem Zi8 {l : List T3 × Int} {s : Pz.St} (h : l.2 = 0) (hn : wholeP l.1 = some s) (hd : deepS s = true) : readS l = (st0, 31) := by unfold readS; rw [if_pos (by simpa using h)]; unfold readT; rw [hn]; simp only; rw [if_pos hd]
theorem Zhh {l : List T3 × Int} {s : Pz.St} (h : l.2 = 0) (hn : wholeP l.1 = some s) (hd : deepS s = false) : readS l = (s, 0) := by unfold readS; rw [if_pos (by simpa using h)]; unfold readT; rw [hn]; simp only; rw [if_neg (by rw [hd]; decide)]
theorem Zfr {ts : List T3} (h : stmtP (exprP (ts.length + 1)) ts = none) : wholeP ts = none := by unfold wholeP; rw [h]; rfl
theorem Zeq {ts : List T3} {z : Pz.St × List T3} (h : stmtP (exprP (ts.length + 1)) ts = some z) (hs : ¬ (skT 5 Z2Q z.2).length = 0) : wholeP ts = none := by
 unfold wholeP; rw [h, Option.bind_some]; split
 · rename_i h2; rw [h2] at hs; exact absurd rfl hs
 · rfl
theorem Zeh {ts : List T3} {z : Pz.St × List T3} (h : stmtP (exprP (ts.length + 1)) ts = some z) (hs : (skT 5 Z2Q z.2).length = 0) : wholeP ts = some z.1 := by
 unfold wholeP; rw [h, Option.bind_some]; rw [List.length_eq_zero_iff.1 hs]
section
variable {P : Program} {c : Ctx} {K : List (Nat × Ty)} {L : List Own} {Φ : List (World → Prop)} {Q : Exit → Act → World → Prop}
theorem Z4E {α : Type} {En : Enc α} {G : GoS} {xs : List α} {v : Value} {w : World} (h : SlE En G xs v w) : v.oneCell' = true := by obtain ⟨ps, a, len, cap, _, rfl, _⟩ := h; rfl
theorem Zb9 {xs : List Ex} {v : Value} {w : World} (h : ExsR xs v w) : v.oneCell' = true := by obtain ⟨a, len, cap, rfl, _⟩ := h; rfl
theorem J.openOwnSt {N b : Nat} {e : TypeId} {st : Pz.St} {y : Code} (hj : ∀ vc vn vr vi vf vw vg vo vs : Value, (∀ u ∈ [vc, vn, vr, vi, vf, vw, vg, vo, vs], u.oneCell' = true) → J P c K (⟨b, e, .is (stV st vc vn vr vi vf vw vg vo vs)⟩ :: L) (SlE coE (FC N) st.cols vc :: SlE stE (FN N) st.names vn :: SlE rwE noS st.rows vr :: SlE itE noS st.items vi :: SlE srE noS st.from_ vf :: SlE exE (FX N) st.where_ vw :: ExsR st.group vg :: SlE kyE noS st.order vo :: ExsR st.sets vs :: Φ) y Q) : J P c K (⟨b, e, .rep (StR N st)⟩ :: L) Φ y Q := by
  refine ⟨fun X a w hs => ?_⟩
  obtain ⟨hb, v, hv, hp⟩ := hs.l _ List.mem_cons_self
  obtain ⟨vc, vn, vr, vi, vf, vw, vg, vo, vs, rfl, h1, h2, h3, h4, h5, h6, h7, h8, h9⟩ := Zhp (show Pers X w (StR N st v) from hp)
  refine (hj vc vn vr vi vf vw vg vo vs ?_).out X a w ⟨hs.n, hs.d, hs.wf, hs.k, ?_, hs.ld, ?_, hs.x, hs.xs, hs.keeps, ?_⟩
  · intro u hu
    simp only [List.mem_cons, List.mem_nil_iff, or_false] at hu
    rcases hu with rfl | rfl | rfl | rfl | rfl | rfl | rfl | rfl | rfl
    · exact Z4E h1.now
    · exact Z4E h2.now
    · exact Z4E h3.now
    · exact Z4E h4.now
    · exact Z4E h5.now
    · exact Z4E h6.now
    · exact Zb9 h7.now
    · exact Z4E h8.now
    · exact Zb9 h9.now
  · intro o ho
    rcases List.mem_cons.1 ho with rfl | ho
    · exact ⟨hb, _, hv, rfl⟩
    · exact hs.l o (List.mem_cons_of_mem _ ho)
  · intro F hF
    simp only [List.mem_cons] at hF
    rcases hF with rfl | rfl | rfl | rfl | rfl | rfl | rfl | rfl | rfl | hF <;> first | assumption | exact hs.f F hF
  · intro o ho
    rcases List.mem_cons.1 ho with rfl | ho
    · exact hs.may ⟨b, e, .rep (StR N st)⟩ List.mem_cons_self
    · exact hs.may o (List.mem_cons_of_mem _ ho)
end
theorem Z9N {st : Pz.St} {vc vn vr vi vf vw vg vo vs : Value} (h : ∀ u ∈ [vc, vn, vr, vi, vf, vw, vg, vo, vs], u.oneCell' = true) : Cnt (.is (stV st vc vn vr vi vf vw vg vo vs)) 14 := Z18 rfl (by
 simp only [List.mem_cons, List.mem_nil_iff, or_false, forall_eq_or_imp, forall_eq] at h
 simp [Value.cells, h]
 all_goals exact ⟨rfl, rfl, rfl, rfl, rfl⟩)
abbrev lx (s : ByteArray) : List T3 × Int := lexL s.data.toList
theorem Zah (N : Nat) (s : ByteArray) : CallL Tryz.prog Z33 (Z := Unit) [] [NH N, GF, AF] [.is (.string s)] (fun _ => True) (fun _ => []) (fun _ => .tup2 (.rep (StR N (readS (lx s)).1)) (.is (.int .i64 (readS (lx s)).2))) :=
CallL.ofD (N := N) List.mem_cons_self (fn := Tryz.f13) Tryz.func13 (n := 34) rfl rfl rfl (fun _ _ => by kernel_rfl) fun E W hNW hb0 => by
  repeat apply Sq
  apply Pn
  refine JO.alloc ZU rfl fun b2 => ?_
  refine JO.alloc Zbv rfl fun b3 => ?_
  apply Ni
  repeat first | apply Nx | apply Nb
  refine Sl [0, 2, 3] (.cons rfl (.cons rfl (.cons rfl .nil))) ?_
  repeat apply Sq
  apply Pn
  refine Jt (Z0 rfl) rfl ?_
  refine Jt (Z2h rfl (ZeR _) (by simp) (.one rfl .nil)) rfl ?_
  refine Jt (Z0 rfl) rfl ?_
  refine Jt (Z1F rfl) rfl ?_
  refine Jt (Z1G rfl) rfl ?_
  refine Jt (Z2 rfl) rfl ?_
  refine JO.m (Z3 rfl rfl (by repeat first | exact .here | apply Ut) (by first | exact cI rfl rfl | exact cE) (by first | exact cI rfl rfl | exact cE | exact cO) Z3m) (by rfl) ?_
  apply Ni
  repeat first | apply Nx | apply Nb
  refine Sl [2, 3, 4] (.cons rfl (.cons rfl (.cons rfl .nil))) ?_
  repeat apply Sq
  apply Pn
  refine Jt (Z7 Z1W rfl rfl) rfl ?_
  refine Jt (Z1C rfl rfl) rfl ?_
  apply Ni
  repeat first | apply Nx | apply Nb
  refine Sl [2, 3, 4, 12] (.cons rfl (.cons rfl (.cons rfl (.cons rfl .nil)))) ?_
  repeat apply Sq
  refine Cd rfl (fun ht12 => ?_) (fun ht12 => ?_)
  ·
    try simp only [dT, dF] at ht12
    repeat apply Sq
    refine J.regSm 2 3 ([⟨b3, Z1q, .is (.int .i64 (lx s).2)⟩, ⟨b2, Zy, zSt⟩]) ([⟨b3, Z1q, .is (.int .i64 (lx s).2)⟩]) rfl rfl rfl rfl hmx (by kernel_rfl) rfl rfl (by kernel_rfl) (fun E w h m hm => h m (by rw [List.mem_singleton.1 hm]; exact List.mem_cons_self)) (fun E w h m hm => h m (by rw [List.mem_singleton.1 hm]; exact List.mem_cons_self)) ?_
    refine Rq (Zs (cs := [_, _, _, _, _, _, _, _, _, _, _, _, _, _]) Z1S .nil rfl rfl) ?_
    refine Rq (Z7 Z1W rfl rfl) ?_
    refine RT.store (BigOb.store rfl (Z3 rfl rfl (by repeat first | exact .here | apply Ut) (by exact Z18 rfl rfl) (by exact Z18 rfl rfl) Zk)) ?_
    apply Rn
    refine JO.m (Z3 rfl rfl (by repeat first | exact .here | apply Ut) (by first | exact cI rfl rfl | exact cE) (by first | exact cI rfl rfl | exact cE | exact cO) Z3m) (by rfl) ?_
    apply Ni
    repeat first | apply Nx | apply Nb
    refine Sl [2, 3] (.cons rfl (.cons rfl .nil)) ?_
    repeat apply Sq
    apply Rt
    repeat first | apply Rp | apply Rb
    refine JX.ret0D ?_
    exact JX.retLCC (Lr := _) (L1 := fun _ : Unit => []) (A := .rep (StR N st0)) (B := .int .i64 (lx s).2) (R := fun _ => .tup2 (.rep (StR N (readS (lx s)).1)) (.is (.int .i64 (readS (lx s)).2))) rfl () trivial (.refl _) rfl hb0 rfl rfl Ze Z1W (by repeat first | exact Mh | apply Mt) (by repeat first | exact Mh | apply Mt) (Z13 rfl) rfl rfl SrZero (by show Ty.tup2 (.rep (StR N (readS (lx s)).1)) (.is (.int .i64 (readS (lx s)).2)) = _; rw [Zh6 (l := lx s) (by simpa using ht12)])
  ·
    try simp only [dT, dF] at ht12
    apply Sk
    repeat first | apply Nx | apply Nb
    have hq : (lx s).2 = 0 := by first | exact ht12 | simpa using ht12
    repeat apply Sq
    apply Pn
    refine Jt (Z2z .nil (.cons rfl (.cons rfl .nil))) rfl ?_
    refine JO.defer rfl ?_
    apply Ni
    repeat first | apply Nx | apply Nb
    refine Sl [2, 3, 4] (.cons rfl (.cons rfl (.cons rfl .nil))) ?_
    refine J.openSlC (s := 4) rfl (fun a len cap bb oo hl ha hlc => ?_)
    have h9 : (lx s).1.length ≤ 2049 := Zbq _
    by_cases hn : (lx s).1 = []
    · have hz0 : (lx s).1 = [] := hn
      repeat apply Sq
      apply Pn
      refine Jt (Z0 rfl) rfl ?_
      refine Jt (Zs (cs := [_]) Z5Y (.cons rfl .nil) rfl rfl) rfl ?_
      refine JO.box rfl rfl fun b18 => ?_
      refine Jt (Z2 rfl) rfl ?_
      apply Ni
      repeat first | apply Nx | apply Nb
      refine Sl [2, 3, 5] (.cons rfl (.cons rfl (.cons rfl .nil))) ?_
      repeat apply Sq
      apply Pn
      refine Jt (Z0 rfl) rfl ?_
      refine JO.callPK (Lr := [_, _]) (Z91 b18 a cap) rfl (by rw [show len = 0 by rw [← hl, hn]; rfl]; exact .refl _) ZP (.one rfl .nil) (fun _ => ?_) (fun _ h => h.elim)
      (repeat (first | refine JX.pan_pass ?_ | refine JX.pan_block ?_))
      refine JX.panD (f := Z1Y) (cap := [.pointer (some ⟨b2, 0, none⟩), .pointer (some ⟨b3, 0, none⟩)]) (L0 := [⟨b2, Zy, zSt⟩, ⟨b3, Z1q, .is (.int .i64 (lx s).2)⟩]) (Lr := []) (Z9S b2 b3 _ (by exact Z18 rfl rfl) _) rfl (.swap _ _ _) ?_
      exact JX.retLCC (Lr := _) (L1 := fun _ : Unit => []) (A := .rep (StR N st0)) (B := .int .i64 30) (R := fun _ => .tup2 (.rep (StR N (readS (lx s)).1)) (.is (.int .i64 (readS (lx s)).2))) rfl () trivial (.refl _) rfl hb0 rfl rfl Ze Z1W (by repeat first | exact Mh | apply Mt) (by repeat first | exact Mh | apply Mt) (Z13 rfl) rfl rfl SrZero (by show Ty.tup2 (.rep (StR N (readS (lx s)).1)) (.is (.int .i64 (readS (lx s)).2)) = _; rw [Zdr hq (by rw [hz0]; rfl)])
    have ha2 := ha (by rw [← hl]; exact fun h => hn (List.length_eq_zero_iff.1 h))
    subst ha2 hl
    rw [Zhw]
    repeat apply Sq
    apply Pn
    refine Jt (Z0 rfl) rfl ?_
    refine Jt (Zs (cs := [_]) Z5Y (.cons rfl .nil) rfl rfl) rfl ?_
    refine JO.box rfl rfl fun b18 => ?_
    refine Jt (Z2 rfl) rfl ?_
    apply Ni
    repeat first | apply Nx | apply Nb
    refine Sl [2, 3, 5] (.cons rfl (.cons rfl (.cons rfl .nil))) ?_
    repeat apply Sq
    apply Pn
    refine Jt (Z0 rfl) rfl ?_
    refine JO.callPK (Lr := [_, _]) (Z51 N ⟨(lx s).1, bb, oo, cap⟩ hlc h9 b18 (lx s).1 (List.suffix_refl _) ((lx s).1.length + 1) (Nat.lt_succ_self _)) rfl (.refl _) (fun F hF => by repeat (first | (rcases Mc.1 hF with rfl | hF; · (repeat first | exact Mh | apply Mt)) | (cases hF; done))) (.one rfl .nil) (fun hbad => ?_) ?_
    · (repeat (first | refine JX.pan_pass ?_ | refine JX.pan_block ?_))
      refine JX.panD (f := Z1Y) (cap := [.pointer (some ⟨b2, 0, none⟩), .pointer (some ⟨b3, 0, none⟩)]) (L0 := [⟨b2, Zy, zSt⟩, ⟨b3, Z1q, .is (.int .i64 (lx s).2)⟩]) (Lr := []) (Z9S b2 b3 _ (by exact Z18 rfl rfl) _) rfl (.swap _ _ _) ?_
      exact JX.retLCC (Lr := _) (L1 := fun _ : Unit => []) (A := .rep (StR N st0)) (B := .int .i64 30) (R := fun _ => .tup2 (.rep (StR N (readS (lx s)).1)) (.is (.int .i64 (readS (lx s)).2))) rfl () trivial (.refl _) rfl hb0 rfl rfl Ze Z1W (by repeat first | exact Mh | apply Mt) (by repeat first | exact Mh | apply Mt) (Z13 rfl) rfl rfl SrZero (by show Ty.tup2 (.rep (StR N (readS (lx s)).1)) (.is (.int .i64 (readS (lx s)).2)) = _; rw [Zdr hq (Zfr hbad)])
    intro z hz
    have hzs : z.2 <:+ (lx s).1 := ZfP (Z2w _) hz
    try dsimp only [nA, cA]
    refine JO.m (Z3 rfl rfl (by repeat first | exact .here | apply Ut) (by exact Z18 rfl rfl) (by exact Z22) Zk) (by rfl) ?_
    apply Ni
    repeat first | apply Nx | apply Nb
    refine Sl [2, 3, 5] (.cons rfl (.cons rfl (.cons rfl .nil))) ?_
    repeat apply Sq
    apply Pn
    refine Jt (Z0 rfl) rfl ?_
    refine JO.callK (Lr := [_, _]) (Z9 ⟨(lx s).1, bb, oo, cap⟩ hlc b18 z.2 hzs Z2Q) rfl (.refl _) (fun F hF => by repeat (first | (rcases Mc.1 hF with rfl | hF; · (repeat first | exact Mh | apply Mt)) | (cases hF; done))) (.one rfl (.one rfl .nil)) ?_
    intro _ _
    try dsimp only [nA, cA]
    apply Ni
    repeat first | apply Nx | apply Nb
    refine Sl [2, 3, 5] (.cons rfl (.cons rfl (.cons rfl .nil))) ?_
    repeat apply Sq
    apply Pn
    refine Jt (Z0 rfl) rfl ?_
    refine Jt (Z0 rfl) rfl ?_
    refine Jt (Z5 rfl) rfl ?_
    refine Jt (Z1 Zg rfl) rfl ?_
    refine Jt (Z7 Zq rfl rfl) rfl ?_
    refine Jt (ZG ZM rfl) rfl ?_
    refine Jt (Z1p rfl rfl) rfl ?_
    refine JO.callPK (Lr := _) (Z8 (.pointer (some ⟨b18, 0, none⟩)) _) rfl (Z15 _) (fun F hF => by repeat (first | (rcases Mc.1 hF with rfl | hF; · (repeat first | exact Mh | apply Mt)) | (cases hF; done))) (.one rfl (.one rfl .nil)) (fun hbad => ?_) ?_
    · (repeat (first | refine JX.pan_pass ?_ | refine JX.pan_block ?_))
      refine JX.panD (f := Z1Y) (cap := [.pointer (some ⟨b2, 0, none⟩), .pointer (some ⟨b3, 0, none⟩)]) (L0 := [⟨b2, Zy, .rep (StR N z.1)⟩, ⟨b3, Z1q, .is (.int .i64 (lx s).2)⟩]) (Lr := [_]) (Z9S b2 b3 _ Z22 _) rfl (List.reverse_perm _).symm ?_
      exact JX.retLCC (Lr := _) (L1 := fun _ : Unit => []) (A := .rep (StR N st0)) (B := .int .i64 30) (R := fun _ => .tup2 (.rep (StR N (readS (lx s)).1)) (.is (.int .i64 (readS (lx s)).2))) rfl () trivial (.refl _) rfl hb0 rfl rfl Ze Z1W (by repeat first | exact Mh | apply Mt) (by repeat first | exact Mh | apply Mt) (Z13 rfl) rfl rfl SrZero (by show Ty.tup2 (.rep (StR N (readS (lx s)).1)) (.is (.int .i64 (readS (lx s)).2)) = _; rw [Zdr hq (Zeq hz (by simpa using hbad))])
    intro _ hw0
    try dsimp only [nA, cA]
    apply Ni
    repeat first | apply Nx | apply Nb
    refine Sl [2, 3] (.cons rfl (.cons rfl .nil)) ?_
    refine J.front b2 (by repeat (first | exact .here | apply Front.there)) ?_
    refine J.openOwnSt fun vc vn vr vi vf vw vg vo vs h1c => ?_
    have hwp : wholeP (lx s).1 = some z.1 := Zeh hz (by simpa using hw0)
    repeat apply Sq
    apply Pn
    refine JO.callK (Lr := [_, _]) (Zbf N b2 z.1 vc vn vr vi vf vw vg vo vs (ZaF hz) (fun x hx => Nat.le_trans (Zci (Z2w _) (Z9M _) (Nat.le_refl _) hz x hx) (by omega))) rfl (.refl _) (fun F hF => by repeat (first | (rcases Mc.1 hF with rfl | hF; · (repeat first | exact Mh | apply Mt)) | (cases hF; done))) (.one rfl .nil) ?_
    intro _ _
    try dsimp only [nA, cA]
    apply Ni
    repeat first | apply Nx | apply Nb
    refine Sl [2, 3, 31] (.cons rfl (.cons rfl (.cons rfl .nil))) ?_
    repeat apply Sq
    refine Cd rfl (fun ht31 => ?_) (fun ht31 => ?_)
    ·
      try simp only [dT, dF] at ht31
      repeat apply Sq
      apply Pn
      refine Jt (Zs (cs := [_, _, _, _, _, _, _, _, _, _, _, _, _, _]) Z1S .nil rfl rfl) rfl ?_
      refine JO.m (Z3 rfl rfl (by repeat first | exact .here | apply Ut) (by exact Z9N h1c) (by exact Z18 rfl rfl) Zk) (by rfl) ?_
      refine JO.m (Z3 rfl rfl (by repeat first | exact .here | apply Ut) (by first | exact cI rfl rfl | exact cE) (by first | exact cI rfl rfl | exact cE | exact cO) Z3m) (by rfl) ?_
      apply Ni
      repeat first | apply Nx | apply Nb
      refine Sl [2, 3] (.cons rfl (.cons rfl .nil)) ?_
      repeat apply Sq
      apply Rt
      repeat first | apply Rp | apply Rb
      refine JX.retD (f := Z1Y) (cap := [.pointer (some ⟨b2, 0, none⟩), .pointer (some ⟨b3, 0, none⟩)]) (L0 := [⟨b2, Zy, zSt⟩, ⟨b3, Z1q, .is (.int .i64 31)⟩]) (Lr := [_]) (ZeO b2 b3 _ rfl _) (.cons _ (.swap _ _ _)) ?_
      exact JX.retLCC (Lr := _) (L1 := fun _ : Unit => []) (A := .rep (StR N st0)) (B := .int .i64 31) (R := fun _ => .tup2 (.rep (StR N (readS (lx s)).1)) (.is (.int .i64 (readS (lx s)).2))) rfl () trivial (.refl _) rfl hb0 rfl rfl Ze Z1W (by repeat first | exact Mh | apply Mt) (by repeat first | exact Mh | apply Mt) (Z13 rfl) rfl rfl SrZero (by show Ty.tup2 (.rep (StR N (readS (lx s)).1)) (.is (.int .i64 (readS (lx s)).2)) = _; rw [Zi8 hq hwp ht31])
    ·
      try simp only [dT, dF] at ht31
      apply Sk
      repeat first | apply Nx | apply Nb
      repeat apply Sq
      apply Pn
      refine Jt (Z11 (cs := [_, _, _, _, _, _, _, _, _, _, _, _, _, _]) Ze rfl rfl rfl) rfl ?_
      refine JO.m (Z3 rfl rfl (by repeat first | exact .here | apply Ut) (by exact Z9N h1c) (by exact Z9N h1c) Zk) (by rfl) ?_
      refine JO.m (Z3 rfl rfl (by repeat first | exact .here | apply Ut) (by first | exact cI rfl rfl | exact cE) (by first | exact cI rfl rfl | exact cE | exact cO) Z3m) (by rfl) ?_
      apply Ni
      repeat first | apply Nx | apply Nb
      refine Sl [2, 3] (.cons rfl (.cons rfl .nil)) ?_
      repeat apply Sq
      apply Rt
      repeat first | apply Rp | apply Rb
      refine JX.retD (f := Z1Y) (cap := [.pointer (some ⟨b2, 0, none⟩), .pointer (some ⟨b3, 0, none⟩)]) (L0 := [⟨b2, Zy, .is (stV z.1 vc vn vr vi vf vw vg vo vs)⟩, ⟨b3, Z1q, .is (.int .i64 0)⟩]) (Lr := [_]) (ZeO b2 b3 _ rfl _) (.cons _ (.swap _ _ _)) ?_
      exact JX.retLCC (Lr := _) (L1 := fun _ : Unit => []) (A := .rep (StR N z.1)) (B := .int .i64 0) (R := fun _ => .tup2 (.rep (StR N (readS (lx s)).1)) (.is (.int .i64 (readS (lx s)).2))) rfl () trivial (.refl _) rfl hb0 rfl rfl Ze Z1W (by repeat first | exact Mh | apply Mt) (by repeat first | exact Mh | apply Mt) (Z13 rfl) rfl rfl (Sub.st rfl fun X w hf w' hk => ⟨hf _ (by repeat first | exact Mh | apply Mt) w' hk, hf _ (by repeat first | exact Mh | apply Mt) w' hk, hf _ (by repeat first | exact Mh | apply Mt) w' hk, hf _ (by repeat first | exact Mh | apply Mt) w' hk, hf _ (by repeat first | exact Mh | apply Mt) w' hk, hf _ (by repeat first | exact Mh | apply Mt) w' hk, hf _ (by repeat first | exact Mh | apply Mt) w' hk, hf _ (by repeat first | exact Mh | apply Mt) w' hk, hf _ (by repeat first | exact Mh | apply Mt) w' hk⟩) (by show Ty.tup2 (.rep (StR N (readS (lx s)).1)) (.is (.int .i64 (readS (lx s)).2)) = _; rw [Zhh hq hwp ht31])
end Go.Proofs.YtbedigkncjbggaaGreatDoor
set_option maxRecDepth 20000
namespace Go.Proofs.YtbedigkncjbggaaGreatDoor
open Go Go.Vc
theorem Zet {p : UInt8 → Bool} (h : ∀ n : Nat, n < 256 → p (UInt8.ofNat n) = true) (b : UInt8) : p b = true := by
 have := h b.toNat b.toNat_lt
 rwa [UInt8.ofNat_toNat] at this
abbrev low (b : UInt8) : UInt8 := lowC false b
def lowOK (b : UInt8) : Bool := (isSp (low b) == isSp b) && (wordB (low b) == wordB b) && (digB (low b) == digB b) && (letB (low b) == letB b) && ((low b == 39) == (b == 39)) && (Lib.upperB (low b) == Lib.upperB b) && (Lib.lowerB (low b) == Lib.lowerB b) && (!digB b || low b == b) && (letB b || low b == b)
end Go.Proofs.YtbedigkncjbggaaGreatDoor
set_option maxRecDepth 20000
namespace Go.Proofs.YtbedigkncjbggaaGreatDoor
open Go Go.Vc
theorem Z8P (p : UInt8 → Bool) (l m : List UInt8) : (l ++ m).take (runN p l) = l.take (runN p l) := List.take_append_of_le_length (Z4s p l)
theorem Zbl (p : UInt8 → Bool) (l m : List UInt8) : (l ++ m).drop (runN p l) = l.drop (runN p l) ++ m := List.drop_append_of_le_length (Z4s p l)
end Go.Proofs.YtbedigkncjbggaaGreatDoor
set_option maxRecDepth 20000
namespace Go.Proofs.YtbedigkncjbggaaGreatDoor
open Go Go.Vc
structure Sep (c : UInt8) : Prop where
  wd : wordB c = false
  dg : digB c = false
  lt : letB c = false
  nq : (c == 39) = false
  sg : ∀ b l, tryL (b :: c :: l) 2 = false
theorem Zeu {c : UInt8} (h1 : wordB c = false) (h2 : digB c = false) (h3 : letB c = false) (h4 : (c == 39) = false) (h5 : ∀ n : Nat, n < 256 → (!(tryL [UInt8.ofNat n, c] 2)) = true) : Sep c :=
 ⟨h1, h2, h3, h4, fun b l => by
  have := Zet (p := fun b => !(tryL [b, c] 2)) h5 b
  have e : tryL (b :: c :: l) 2 = tryL [b, c] 2 := by unfold tryL; simp
  rw [e]
  simpa using this⟩
theorem Z9b : Sep 41 := Zeu (by decide +kernel) (by decide +kernel) (by decide +kernel) (by decide +kernel) (by decide +kernel)
theorem Z90 : Sep 32 := Zeu (by decide +kernel) (by decide +kernel) (by decide +kernel) (by decide +kernel) (by decide +kernel)
section
variable {c : UInt8} (hc : Sep c)
theorem Z5N {p : UInt8 → Bool} (h10 : p c = false) (k : List UInt8) : ∀ l : List UInt8, runN p (l ++ c :: k) = runN p l
  | [] => by
    show runN p (c :: k) = 0
    simp [runN, h10]
  | b :: l => by
    rw [List.cons_append, runN, runN, Z5N h10 k l]
theorem ZeI {p : UInt8 → Bool} (h10 : p c = false) (k : List UInt8) : ∀ l : List UInt8, headP p (l ++ c :: k) = headP p l
 | [] => h10
 | _ :: _ => rfl
include hc in
theorem Zfy (l k : List UInt8) : numL (l ++ c :: k) = numL l := by
 have e : numE (l ++ c :: k) = numE l := by
  unfold numE
  rw [Z5N hc.dg, Z8P, Zbl, ZeI hc.lt]
 unfold numL
 rw [e, Z5N hc.dg, Z8P]
include hc in
theorem Z7N (k : List UInt8) : ∀ (l acc : List UInt8), (textL l acc).1.2 = 0 → textL (l ++ c :: k) acc = textL l acc
  | [], acc, h => by cases h
  | [b], acc, h => by
    by_cases hq : (b == 39) = true
    · have : b = 39 := by simpa using hq
      subst this
      show textL (39 :: c :: k) acc = textL [39] acc
      have e : ∀ (d : UInt8) (l : List UInt8), (d == 39) = false → textL (39 :: d :: l) acc = (endT acc, 1) := fun d l hd => by rw [textL, if_pos (by rfl), if_pos (by simp [bne, hd])]
      rw [e c k hc.nq]
      rw [textL]; rfl
    · rw [Z48 b [] acc (by simpa using hq)] at h
      cases h
  | b :: d :: l, acc, h => by
    by_cases hq : (b == 39) = true
    · have : b = 39 := by simpa using hq
      subst this
      rw [List.cons_append, List.cons_append]
      by_cases hd : (d == 39) = true
      · have : d = 39 := by simpa using hd
        subst this
        have e : ∀ l : List UInt8, textL (39 :: 39 :: l) acc = ((textL l (acc ++ [39])).1, (textL l (acc ++ [39])).2 + 2) := fun l => by rw [textL]; rfl
        rw [e] at h
        rw [e, e, Z7N k l _ h]
      · have hd' : (d == 39) = false := by simpa using hd
        have e : ∀ (d : UInt8) (l : List UInt8), (d == 39) = false → textL (39 :: d :: l) acc = (endT acc, 1) := fun d l hd => by rw [textL, if_pos (by rfl), if_pos (by simp [bne, hd])]
        rw [e _ _ hd', e _ _ hd']
    · have hq' : (b == 39) = false := by simpa using hq
      rw [Z48 b _ acc hq'] at h
      have := Z7N k (d :: l) (acc ++ [b]) h
      rw [List.cons_append] at this
      rw [List.cons_append, List.cons_append, Z48 b _ acc hq', Z48 b _ acc hq', this]
include hc in
theorem ZeN (b : UInt8) (l k : List UInt8) : signL ((b :: l) ++ c :: k) = signL (b :: l) := by
  have e1 : tryL ((b :: l) ++ c :: k) 1 = tryL (b :: l) 1 := by
    unfold tryL
    simp
  have e2 : tryL ((b :: l) ++ c :: k) 2 = tryL (b :: l) 2 := by
    cases l with
    | nil =>
      rw [List.cons_append, List.nil_append, hc.sg]
      rfl
    | cons d l =>
      unfold tryL
      simp
  unfold signL
  rw [e1, e2]
  by_cases h2 : tryL (b :: l) 2 = true
  · rw [if_pos h2, if_pos h2]
    cases l with
    | nil => simp [tryL] at h2
    | cons d l => rfl
  rw [if_neg h2, if_neg h2]
  rfl
include hc in
theorem Zee {b : UInt8} {l k : List UInt8} (h : (stepL (b :: l)).1.2 = 0) : stepL ((b :: l) ++ c :: k) = stepL (b :: l) := by
  rw [List.cons_append]
  by_cases h1 : letB b = true
  · have e : ∀ l : List UInt8, stepL (b :: l) = (wordL ((b :: l).take (runN wordB (b :: l))), runN wordB (b :: l)) := fun l => by rw [stepL, if_pos h1]
    rw [e, e, ← List.cons_append, Z5N hc.wd, Z8P]
  by_cases h2 : digB b = true
  · have e : ∀ l : List UInt8, stepL (b :: l) = (numL (b :: l), runN digB (b :: l)) := fun l => by rw [stepL, if_neg h1, if_pos h2]
    rw [e, e, ← List.cons_append, Z5N hc.dg, Zfy hc]
  by_cases h3 : (b == 39) = true
  · have e : ∀ l : List UInt8, stepL (b :: l) = ((textL l []).1, (textL l []).2 + 1) := fun l => by rw [stepL, if_neg h1, if_neg h2, if_pos h3]
    rw [e] at h
    rw [e, e, Z7N hc k l [] h]
  have e : ∀ l : List UInt8, stepL (b :: l) = signL (b :: l) := fun l => by rw [stepL, if_neg h1, if_neg h2, if_neg h3]
  rw [e, e, ← List.cons_append, ZeN hc]
theorem ZcM (m : List UInt8) : ∀ l : List UInt8, runN isSp l = l.length → runN isSp (l ++ m) = l.length + runN isSp m
  | [], _ => by simp
  | b :: l, h => by
    unfold runN at h
    split at h
    · rename_i hb
      rw [List.cons_append, runN, if_pos hb, ZcM m l (by simpa using h)]
      simp only [List.length_cons]
      omega
    · simp at h
theorem Zbi (k : List UInt8) : ∀ l : List UInt8, runN isSp l ≠ l.length → runN isSp (l ++ c :: k) = runN isSp l
  | [], h => absurd rfl h
  | b :: l, h => by
    rw [List.cons_append, runN, runN]
    split
    · rename_i hb
      rw [Zbi k l (fun e => h (by rw [runN, if_pos hb, e]; rfl))]
    · rfl
include hc in
theorem Z75 (k : List UInt8) : ∀ (n : Nat) (l : List UInt8), l.length ≤ n → (allA l).2 = 0 → allA (l ++ c :: k) = finA (allA l).1 (allA (c :: k))
  | n, l, hn, h => by
    by_cases hs : runN isSp l = l.length
    · have e1 : allA l = ([], 0) := by
        rw [← Z3u, hs, List.drop_length]; rfl
      have e2 : allA (l ++ c :: k) = allA (c :: k) := by
        rw [← Z3u (l ++ c :: k), ZcM (c :: k) l hs, ← Z3u (c :: k)]
        congr 1
        rw [List.drop_append, List.drop_eq_nil_of_le (by omega), List.nil_append]
        congr 1
        omega
      rw [e1, e2, Zbj]
    · have hle := Z4s isSp l
      have e0 : allA (l ++ c :: k) = allA (l.drop (runN isSp l) ++ c :: k) := by
        rw [← Z3u (l ++ c :: k), Zbi k l hs, Zbl]
      have e1 := Z3u l
      have hsp := Zcm l
      have hlen : (l.drop (runN isSp l)).length ≤ n := by rw [List.length_drop]; omega
      rw [e0, ← e1]
      rw [← e1] at h
      cases hd : l.drop (runN isSp l) with
      | nil =>
        have := congrArg List.length hd
        rw [List.length_drop] at this
        simp at this
        omega
      | cons b r =>
        rw [hd] at h hsp hlen
        rw [Z4N hsp (by simp)] at h ⊢
        by_cases he : (stepL (b :: r)).1.2 = 0
        · have hne : ((stepL (b :: r)).1.2 != 0) = false := by simp [he]
          rw [hne] at h ⊢
          simp only [Bool.false_eq_true, if_false] at h ⊢
          have hp := Z7l he
          have hl2 := Z85 (b :: r)
          have hr : (allA ((b :: r).drop (stepL (b :: r)).2)).2 = 0 := by
            unfold finA at h
            by_cases h9 : ((allA ((b :: r).drop (stepL (b :: r)).2)).2 != 0) = true
            · rw [if_pos h9] at h; exact h
            · simpa using h9
          have hsp2 : runN isSp ((b :: r) ++ c :: k) = 0 := by
            have hb : ¬ isSp b = true := fun hb => by rw [runN, if_pos hb] at hsp; omega
            rw [List.cons_append, runN, if_neg hb]
          rw [Z4N hsp2 (by simp), Zee hc he, hne]
          simp only [Bool.false_eq_true, if_false]
          rw [List.drop_append_of_le_length hl2]
          match n, hlen with
          | 0, hlen => simp at hlen
          | n + 1, hlen =>
            rw [Z75 k n _ (by rw [List.length_drop]; omega) hr, Zbh]
            have : finA [(stepL (b :: r)).1.1] (allA ((b :: r).drop (stepL (b :: r)).2)) = ([(stepL (b :: r)).1.1] ++ (allA ((b :: r).drop (stepL (b :: r)).2)).1, 0) := by
              unfold finA
              rw [if_neg (by simp [hr])]
            rw [this]
        · rw [if_pos (by simpa using he)] at h
          exact absurd h he
end
theorem Z9v {c : UInt8} (hc : Sep c) {l k : List UInt8} (h : l.length + k.length + 1 ≤ 2048) (he : (lexL l).2 = 0) (hk : (lexL (c :: k)).2 = 0) : lexL (l ++ c :: k) = ((lexL l).1 ++ (lexL (c :: k)).1, 0) := by
 have e1 : lexL l = allA l := by unfold lexL; rw [if_neg (by simp; omega)]; rfl
 have e2 : lexL (c :: k) = allA (c :: k) := by unfold lexL; rw [if_neg (by simp; omega)]; rfl
 have e3 : lexL (l ++ c :: k) = allA (l ++ c :: k) := by unfold lexL; rw [if_neg (by simp; omega)]; rfl
 rw [e1] at he
 rw [e2] at hk
 rw [e1, e2, e3, Z75 hc k l.length l (Nat.le_refl _) he]
 unfold finA
 rw [if_neg (by simp [hk])]
theorem Z8G {c : UInt8} (hc : Sep c) {l k : List UInt8} (h : (lexL (l ++ c :: k)).2 = 0) : l.length + k.length + 1 ≤ 2048 := by
 unfold lexL at h
 split at h
 · cases h
 · rename_i h1; simp at h1; omega
theorem ZgG {c : UInt8} (hc : isSp c = true) {l : List UInt8} (h : l.length + 1 ≤ 2048) : lexL (c :: l) = lexL l := by
 have e2 : lexL (c :: l) = allA (c :: l) := by unfold lexL; rw [if_neg (by simp; omega)]; rfl
 have e1 : lexL l = allA l := by unfold lexL; rw [if_neg (by simp; omega)]; rfl
 rw [e1, e2, ← Z3u (c :: l), runN, if_pos hc, List.drop_succ_cons, Z3u]
def smlB (b : UInt8) : Bool := decide (97 ≤ (b.toNat : Int)) && decide ((b.toNat : Int) ≤ 122)
def upC (q : Bool) (b : UInt8) : UInt8 := if !q && smlB b then b - 32 else b
def upL : Bool → List UInt8 → List UInt8
 | _, [] => []
 | q, b :: l => upC (flipQ q b) b :: upL (flipQ q b) l
end Go.Proofs.YtbedigkncjbggaaGreatDoor
set_option maxRecDepth 20000
namespace Go.Proofs.YtbedigkncjbggaaGreatDoor
open Go Go.Vc Go.Pz
abbrev prS (l : List UInt8) : St × Int := readS (lexL l)
theorem ZcS {l : List UInt8} (h : (lexL l).2 ≠ 0) : prS l = (st0, (lexL l).2) := by
 show readS _ = _
 unfold readS; rw [if_neg (by simpa using h)]
theorem Z6Q {l : List UInt8} (h : (lexL l).2 = 0) : prS l = readT (lexL l).1 := by
 show readS _ = _
 unfold readS; rw [if_pos (by simpa using h)]
theorem Zfp {ts : List T3} (h : (readT ts).2 = 0) : ∃ s r, stmtP (exprP (ts.length + 1)) ts = some (s, r) ∧ skT 5 Z2Q r = [] ∧ deepS s = false ∧ readT ts = (s, 0) := by
  unfold readT at h ⊢
  split at h
  · cases h
  rename_i s hs
  split at h
  · cases h
  rename_i hd
  unfold wholeP at hs
  obtain ⟨z, h1, h2⟩ := bnd hs
  split at h2
  · rename_i h3; injection h2 with h2; subst h2
    exact ⟨z.1, z.2, h1, h3, by simpa using hd, by rw [if_neg hd]⟩
  · cases h2
abbrev tsemi : T3 := ⟨5, Z2Q, 0⟩
abbrev trp : T3 := ⟨5, s_rp, 0⟩
instance : DecidableEq T3 := fun a b => decidable_of_iff (a.k = b.k ∧ a.t = b.t ∧ a.n = b.n) ⟨fun ⟨h1, h2, h3⟩ => by cases a; cases b; simp_all, fun h => by subst h; exact ⟨rfl, rfl, rfl⟩⟩
theorem Z4f {l : List UInt8} (h : (prS l).2 = 0) : (lexL l).2 = 0 := by
 by_cases e : (lexL l).2 = 0
 · exact e
 · rw [ZcS e] at h; exact absurd h e
end Go.Proofs.YtbedigkncjbggaaGreatDoor
set_option maxRecDepth 20000
namespace Go.Pz
open Go Go.Vc
theorem Z2J {k : Int} {s : ByteArray} {t : T3} {r : List T3} (h : isT k s (t :: r) = true) : wantP k s (t :: r) = some ((), r) := by
 unfold wantP; rw [if_pos h]; rfl
theorem Z5g {k : Int} {t : T3} {r : List T3} (h : (t.k == k) = true) : takeP k (t :: r) = some (t, r) := by
 rw [takeP, if_pos h]
theorem Z83 {t : T3} {r : List T3} (h : (t.k == 2) = true) : nameP (t :: r) = some (t.t, r) := by
 unfold nameP; rw [Z5g h]; rfl
theorem ZfE : Stop [] := fun _ _ _ => rfl
abbrev kw (s : ByteArray) : T3 := ⟨1, s, 0⟩
abbrev nm_ (s : ByteArray) : T3 := ⟨2, s, 0⟩
abbrev sg (s : ByteArray) : T3 := ⟨5, s, 0⟩
abbrev n_t : ByteArray := ⟨#[116]⟩
abbrev n_x : ByteArray := ⟨#[120]⟩
def Ends (r : List T3) : Prop := r = [] ∨ ∃ t, r = [t] ∧ isT 5 Z2Q [t] = true
theorem Zct {r : List T3} (h : Ends r) {k : Int} {s : ByteArray} (hk : (5 == k && (Z2Q.data.toList == s.data.toList)) = false) : isT k s r = false := by
 rcases h with rfl | ⟨t, rfl, ht⟩
 · rfl
 · exact Z4 ht hk
abbrev delL (L : List T3) : List T3 := kw Z4r :: kw Z5A :: nm_ n_t :: kw Z6I :: L
abbrev updL (L : List T3) : List T3 := kw Z4t :: nm_ n_t :: kw Zdc :: nm_ n_x :: sg s_eq :: L
abbrev insL (L : List T3) : List T3 := kw Z3J :: kw Z94 :: nm_ n_t :: kw Z5t :: sg s_lp :: L
abbrev selL (L : List T3) : List T3 := kw Z3L :: sg s_lp :: L
theorem Zhi (e : Ps Ex) (L : List T3) : stmtP e (delL L) = (e L).map fun z => ({ stK 6 with tb := n_t, where_ := [z.1] }, z.2) := by
 unfold stmtP
 rw [Z5g (by decide)]
 simp only [Option.bind_some]
 rw [if_neg (by decide), if_neg (by decide), if_neg (by decide), if_neg (by decide), if_pos (by decide)]
 unfold removeP
 rw [Z2J (by rfl)]
 simp only [Option.bind_some]
 rw [Z83 (by rfl)]
 simp only [Option.bind_some]
 unfold whereP
 rw [if_pos (by rfl)]
 simp only [List.tail_cons, Option.map_map]
 rfl
theorem ZhH (e : Ps Ex) {L r : List T3} {x : Ex} (h : e L = some (x, r)) (hr : Ends r) : stmtP e (updL L) = some ({ stK 5 with tb := n_t, names := [n_x], sets := [x] }, r) := by
  have hs : setP e (nm_ n_x :: sg s_eq :: L) = some ((n_x, x), r) := by
    unfold setP
    rw [Z83 (by rfl)]
    simp only [Option.bind_some]
    rw [Z2J (by rfl)]
    simp only [Option.bind_some]
    rw [h]; rfl
  have hg : ∀ n, listG (setP e) n r = some ([], r) := fun n => by
    cases n with
    | zero => rfl
    | succ n => rw [listG, if_neg (by rw [Zct hr (by decide)]; decide)]
  unfold stmtP
  rw [Z5g (by decide)]
  simp only [Option.bind_some]
  rw [if_neg (by decide), if_neg (by decide), if_neg (by decide), if_pos (by decide)]
  unfold updateP
  rw [Z83 (by rfl)]
  simp only [Option.bind_some]
  rw [Z2J (by rfl)]
  simp only [Option.bind_some]
  unfold listP
  rw [hs]
  simp only [Option.bind_some]
  rw [hg]
  simp only [Option.bind_some]
  rw [if_pos (by decide)]
  simp only [Option.bind_some]
  unfold whereP
  rw [if_neg (by rw [Zct hr (by decide)]; decide)]
  rfl
theorem Zhc (e : Ps Ex) {L : List T3} {x : Ex} {q : List T3} (h : e L = some (x, sg s_rp :: q)) (hq : isT 5 ZQ q = false) : stmtP e (insL L) = some ({ stK 3 with tb := n_t, rows := [[x]] }, q) := by
  have hg : ∀ n, listG e n (sg s_rp :: q) = some ([], sg s_rp :: q) := fun n => by
    cases n with
    | zero => rfl
    | succ n => rw [listG, if_neg (by exact Bool.false_ne_true)]
  have hw : withinP e (sg s_lp :: L) = some ([x], q) := by
    unfold withinP listP
    rw [Z2J (by rfl)]
    simp only [Option.bind_some]
    rw [h]
    simp only [Option.bind_some]
    rw [hg]
    simp only [Option.bind_some]
    rw [if_pos (by decide)]
    simp only [Option.bind_some]
    rw [Z2J (by rfl)]; rfl
  have hg2 : ∀ n, listG (withinP e) n q = some ([], q) := fun n => by
    cases n with
    | zero => rfl
    | succ n => rw [listG, if_neg (by rw [hq]; decide)]
  unfold stmtP
  rw [Z5g (by decide)]
  simp only [Option.bind_some]
  rw [if_neg (by decide), if_pos (by decide)]
  unfold insertP
  rw [Z2J (by rfl)]
  simp only [Option.bind_some]
  rw [Z83 (by rfl)]
  simp only [Option.bind_some]
  rw [if_neg (by exact Bool.false_ne_true)]
  unfold insRows
  rw [Z2J (by rfl)]
  simp only [Option.bind_some]
  unfold listP
  rw [hw]
  simp only [Option.bind_some]
  rw [hg2]
  simp only [Option.bind_some]
  rw [if_pos (by decide)]
  rfl
theorem Zhq (e : Ps Ex) {L : List T3} {x : Ex} {q : List T3} (h : e L = some (x, sg s_rp :: q)) (hb : binR q = (0, 0)) (hi : isT 1 w_IS q = false) : orP e (sg s_lp :: L) = some (x, q) := by
  have ha : atomP e (sg s_lp :: L) = some (x, q) := by
    rw [atomP, if_neg (by decide), if_neg (by decide), if_neg (by decide), if_neg (by decide), Z2J (by rfl)]
    simp only [Option.bind_some]
    rw [h]
    simp only [Option.bind_some]
    rw [Z2J (by rfl)]; rfl
  have hf : factorP e (sg s_lp :: L) = some (x, q) := by
    rw [factorP, if_neg (by exact Bool.false_ne_true)]; exact ha
  have hn : opOf 1 [(w_OR, 17)] q = none ∧ opOf 1 [(Z1E, 16)] q = none ∧ opOf 5 cmpO q = none ∧ opOf 5 addO q = none ∧ opOf 5 mulO q = none := by
    cases cls q with
    | no h0 h1 h2 h3 h4 h5 => exact ⟨h1, h2, h3, h4, h5⟩
    | or h0 => rw [hb] at h0; cases h0
    | and h0 => rw [hb] at h0; cases h0
    | cmp _ _ h0 => rw [hb] at h0; cases h0
    | add _ _ h0 => rw [hb] at h0; cases h0
    | mul _ _ h0 => rw [hb] at h0; cases h0
  obtain ⟨h1, h2, h3, h4, h5⟩ := hn
  have hp : prodP e (sg s_lp :: L) = some (x, q) := by
    unfold prodP; rw [Z3i, hf]; simp only [Option.bind_some]; exact Z4U h5
  have hs : sumP e (sg s_lp :: L) = some (x, q) := by
    unfold sumP; rw [Z3i, hp]; simp only [Option.bind_some]; exact Z4U h4
  have hc : cmpP e x q = some (x, q) := by
    unfold cmpP; rw [h3]; dsimp only; rw [if_neg (by rw [hi]; decide)]
  have hno : notP e (sg s_lp :: L) = some (x, q) := by
    rw [notP, if_neg (by exact Bool.false_ne_true), hs]; simp only [Option.bind_some]; exact hc
  have han : andP e (sg s_lp :: L) = some (x, q) := by
    unfold andP; rw [Z3i, hno]; simp only [Option.bind_some]; exact Z4U h2
  unfold orP; rw [Z3i, han]; simp only [Option.bind_some]; exact Z4U h1
abbrev fromT : List T3 := [kw Z5A, nm_ n_t]
theorem ZhL (e : Ps Ex) {L : List T3} {x : Ex} (h : e L = some (x, sg s_rp :: fromT)) : stmtP (orP e) (selL L) = some ({ stK 4 with items := [⟨false, x⟩], from_ := [⟨n_t, n_t, []⟩] }, []) := by
  have hi : itemP (orP e) (sg s_lp :: L) = some (⟨false, x⟩, fromT) := by
    unfold itemP
    rw [if_neg (by exact Bool.false_ne_true), Zhq e h (by decide) (by decide)]; rfl
  have hg : ∀ n, listG (itemP (orP e)) n fromT = some ([], fromT) := fun n => by
    cases n with
    | zero => rfl
    | succ n => rw [listG, if_neg (by decide)]
  unfold stmtP
  rw [Z5g (by decide)]
  simp only [Option.bind_some]
  rw [if_neg (by decide), if_neg (by decide), if_pos (by decide)]
  unfold queryP listP
  rw [hi]
  simp only [Option.bind_some]
  rw [hg]
  simp only [Option.bind_some]
  rw [if_pos (by decide)]
  simp only [Option.bind_some]
  rw [Z2J (by rfl)]
  rfl
theorem Zds {L : List T3} (ha : (readT (delL L)).2 = 0) (hb : (readT (selL (L ++ sg s_rp :: fromT))).2 = 0) :
    ∃ x, (readT (delL L)).1.where_ = [x] ∧ (readT (selL (L ++ sg s_rp :: fromT))).1 = { stK 4 with items := [⟨false, x⟩], from_ := [⟨n_t, n_t, []⟩] }
      ∧ ((readT (insL (L ++ [sg s_rp]))).2 = 0 → (readT (insL (L ++ [sg s_rp]))).1 = { stK 3 with tb := n_t, rows := [[x]] })
      ∧ ((readT (updL L)).2 = 0 → (readT (updL L)).1 = { stK 5 with tb := n_t, names := [n_x], sets := [x] }) := by
  have hw : ∀ {ts : List T3}, (readT ts).2 = 0 → ∃ s r, stmtP (exprP (ts.length + 1)) ts = some (s, r) ∧ skT 5 Z2Q r = [] ∧ (readT ts).1 = s := fun {ts} h => by
    unfold readT at h ⊢
    split at h
    · cases h
    rename_i s hs
    split at h
    · cases h
    rename_i hd
    unfold wholeP at hs
    obtain ⟨z, h1, h2⟩ := bnd hs
    split at h2
    · rename_i h3; injection h2 with h2; subst h2
      exact ⟨z.1, z.2, h1, h3, by rw [if_neg hd]⟩
    · cases h2
  obtain ⟨s, r, h1, h2, h3⟩ := hw ha
  rw [Zhi] at h1
  obtain ⟨z, h4, h5⟩ := mpd h1
  obtain ⟨x, r'⟩ := z
  injection h5 with h5 h6
  dsimp only at h6; subst h6
  have hr : Ends r' := by
    unfold skT at h2
    split at h2
    · rename_i hi
      obtain ⟨t, r', rfl, _⟩ := Z3O hi
      simp at h2; subst h2
      exact .inr ⟨t, rfl, hi⟩
    · exact .inl h2
  have hs : ∀ q m, Stop q → L.length + 5 ≤ m → exprP m (L ++ q) = some (x, r' ++ q) := fun q m hq hm => Z9g hq _ _ (by simp; omega) _ _ h4
  have hr0 : r' = [] := by
    obtain ⟨s2, r2, k1, k2, k3⟩ := hw hb
    rcases hr with h | ⟨t, rfl, ht⟩
    · exact h
    exfalso
    have e1 := hs (sg s_rp :: fromT) ((L ++ sg s_rp :: fromT).length + 2) (Z9J _) (by simp)
    have e2 : stmtP (exprP ((selL (L ++ sg s_rp :: fromT)).length + 1)) (selL (L ++ sg s_rp :: fromT)) = none := by
      have hf : factorP (exprP ((L ++ sg s_rp :: fromT).length + 2)) (sg s_lp :: (L ++ sg s_rp :: fromT)) = none := by
        rw [factorP, if_neg (by exact Bool.false_ne_true), atomP, if_neg (by decide), if_neg (by decide), if_neg (by decide), if_neg (by decide), Z2J (by rfl)]
        simp only [Option.bind_some]
        rw [e1]
        simp only [Option.bind_some]
        have : wantP 5 s_rp ([t] ++ sg s_rp :: fromT) = none := by
          unfold wantP
          rw [if_neg (by rw [show isT 5 s_rp ([t] ++ sg s_rp :: fromT) = isT 5 s_rp [t] from rfl, Z4 ht (by decide)]; decide)]
        rw [this]; rfl
      have ho : orP (exprP ((L ++ sg s_rp :: fromT).length + 2)) (sg s_lp :: (L ++ sg s_rp :: fromT)) = none := by
        have hno : notP (exprP ((L ++ sg s_rp :: fromT).length + 2)) (sg s_lp :: (L ++ sg s_rp :: fromT)) = none := by
          rw [notP, if_neg (by exact Bool.false_ne_true)]
          unfold sumP prodP
          rw [Z3i, Z3i, hf]; rfl
        unfold orP andP
        rw [Z3i, Z3i, hno]; rfl
      have hi : itemP (exprP ((selL (L ++ sg s_rp :: fromT)).length + 1)) (sg s_lp :: (L ++ sg s_rp :: fromT)) = none := by
        unfold itemP
        rw [if_neg (by exact Bool.false_ne_true)]
        have : exprP ((selL (L ++ sg s_rp :: fromT)).length + 1) (sg s_lp :: (L ++ sg s_rp :: fromT)) = none := ho
        rw [this]; rfl
      unfold stmtP
      rw [Z5g (by decide)]
      simp only [Option.bind_some]
      rw [if_neg (by decide), if_neg (by decide), if_pos (by decide)]
      unfold queryP listP
      rw [hi]; rfl
    rw [e2] at k1; cases k1
  subst hr0
  refine ⟨x, ?_, ?_, fun hc => ?_, fun hd => ?_⟩
  · rw [h3, ← h5]
  · obtain ⟨s2, r2, k1, k2, k3⟩ := hw hb
    rw [k3]
    have e1 := hs (sg s_rp :: fromT) ((L ++ sg s_rp :: fromT).length + 2) (Z9J _) (by simp)
    have e2 := ZhL (exprP ((L ++ sg s_rp :: fromT).length + 2)) e1
    have : some (s2, r2) = some (_, _) := k1.symm.trans e2
    injection this with this; injection this
  · obtain ⟨s2, r2, k1, k2, k3⟩ := hw hc
    rw [k3]
    have e2 := Zhc (exprP ((insL (L ++ [sg s_rp])).length + 1)) (q := []) (hs [sg s_rp] _ (Z9J _) (by simp)) rfl
    have : some (s2, r2) = some (_, _) := k1.symm.trans e2
    injection this with this; injection this
  · obtain ⟨s2, r2, k1, k2, k3⟩ := hw hd
    rw [k3]
    have e1 := hs [] ((updL L).length + 1) ZfE (by simp)
    rw [List.append_nil] at e1
    have e2 := ZhH (exprP ((updL L).length + 1)) e1 (.inl rfl)
    have : some (s2, r2) = some (_, _) := k1.symm.trans e2
    injection this with this; injection this
end Go.Pz
set_option maxRecDepth 20000
namespace Go.Proofs.YtbedigkncjbggaaGreatDoor
open Go Go.Vc
open Go.Pz
theorem c_PF (N : Nat) (s : ByteArray) : CallF Tryz.prog Z33 [NH N, GF, AF] [.is (.string s)] (.tup2 (.rep (StR N (prS s.data.toList).1)) (.is (.int .i64 (prS s.data.toList).2))) := CallL.toF (Zah N s) rfl
abbrev aw1 : ByteArray := ⟨#[115, 101, 108, 101, 99, 116, 32, 42, 32, 102, 114, 111, 109, 32, 116, 32, 119, 104, 101, 114, 101, 32, 97, 32, 61, 32, 49, 32, 97, 110, 100, 32, 110, 111, 116, 32, 98]⟩
abbrev aw2 : ByteArray := ⟨#[97, 32, 60, 32, 98, 32, 60, 32, 99]⟩
theorem Zi9 : ∃ S0 : Pz.St, S0.kind = 4 ∧ (∃ y, S0.items = [y] ∧ y.all = true) ∧ (∃ x, S0.where_ = [x] ∧ x.K = 16) ∧ S0.limit = -1 ∧ CallF Tryz.prog Z33 [NH 0, GF, AF] [.is (.string aw1)] (.tup2 (.rep (StR 0 S0)) (.is (.int .i64 0))) := by
  have h0 : (prS aw1.data.toList).2 = 0 := by decide +kernel
  have h1 : (prS aw1.data.toList).1.kind = 4 := by decide +kernel
  have h2 : (match (prS aw1.data.toList).1.items with | [y] => y.all | _ => false) = true := by decide +kernel
  have h3 : (match (prS aw1.data.toList).1.where_ with | [x] => x.K == 16 | _ => false) = true := by decide +kernel
  have h4 : (prS aw1.data.toList).1.limit = -1 := by decide +kernel
  have hc := c_PF 0 aw1
  generalize prS aw1.data.toList = p at h0 h1 h2 h3 h4 hc
  obtain ⟨S0, e⟩ := p
  dsimp only at h0 h1 h2 h3 h4 hc
  subst h0
  refine ⟨S0, h1, ?_, ?_, h4, hc⟩
  · split at h2
    · rename_i y hy; exact ⟨y, hy, h2⟩
    · cases h2
  · split at h3
    · rename_i x hx; exact ⟨x, hx, by simpa using h3⟩
    · cases h3
theorem ZhZ : ∃ S0 : Pz.St, CallF Tryz.prog Z33 [NH 0, GF, AF] [.is (.string aw2)] (.tup2 (.rep (StR 0 S0)) (.is (.int .i64 30))) := by
 have h0 : (prS aw2.data.toList).2 = 30 := by decide +kernel
 have hc := c_PF 0 aw2
 generalize prS aw2.data.toList = p at h0 hc
 obtain ⟨S0, e⟩ := p
 dsimp only at h0 hc
 subst h0
 exact ⟨S0, hc⟩
theorem Zg7 {ps : List (Cel exE)} {l : List Ex} (h : ∃ w, CelF exE ps w) (hm : ps.map Cel.x = l) {i : Nat} (hi : i < ps.length) (hi' : i < l.length) : (ps[i].cs)[0]? = some (.int .i64 (l[i]).K) := by
 obtain ⟨w, hw⟩ := h
 subst hm
 have h1 : ExR ps[i].x (.agg (ps[i].cs).toArray) w := hw _ (List.getElem_mem hi)
 generalize ps[i].cs = cs at h1
 rw [List.getElem_map]
 generalize ps[i].x = x at h1
 cases x
 unfold ExR at h1
 obtain ⟨a, len, cap, e, _⟩ := h1
 rw [Z3p e]; rfl
theorem Zaq  : CallF Tryz.prog Zaf [NH 0, GF, AF] [] (.is (.bool true)) :=
CallF.of (fn := Tryz.f12) Tryz.func12 (n := 56) rfl rfl rfl (fun _ _ => by kernel_rfl) fun E W => by
 obtain ⟨S1, hk1, ⟨y1, hy1, hy2⟩, ⟨x1, hx1, hx2⟩, hlim, hP1⟩ := Zi9
 obtain ⟨S2, hP2⟩ := ZhZ
 repeat apply Sq
 apply Pn
 refine Jt (Z2 rfl) rfl ?_
 apply Ni
 repeat first | apply Nx | apply Nb
 refine Sl [] .nil ?_
 repeat apply Sq
 apply Pn
 refine Jt (Z2h rfl hP1 (fun F hF => by repeat (first | (rcases Mc.1 hF with rfl | hF; · (repeat first | exact Mh | apply Mt)) | (cases hF; done))) (.one rfl .nil)) rfl ?_
 refine Jt (Z0 rfl) rfl ?_
 refine Jt (Z1F rfl) rfl ?_
 refine Jt (Z1G rfl) rfl ?_
 refine JO.alloc ZU rfl fun b1 => ?_
 refine JO.m (Z3 rfl rfl (by repeat first | exact .here | apply Ut) (by exact Z18 rfl rfl) (by exact Z22) Zk) (by rfl) ?_
 refine Jt (Z2 rfl) rfl ?_
 apply Ni
 repeat first | apply Nx | apply Nb
 refine Sl [1, 2] (.cons rfl (.cons rfl .nil)) ?_
 repeat apply Sq
 apply Pn
 refine Jt (Z2h rfl hP2 (fun F hF => by repeat (first | (rcases Mc.1 hF with rfl | hF; · (repeat first | exact Mh | apply Mt)) | (cases hF; done))) (.one rfl .nil)) rfl ?_
 refine Jt (Z0 rfl) rfl ?_
 refine Jt (Z1F rfl) rfl ?_
 refine Jt (Z1G rfl) rfl ?_
 refine JO.alloc ZU rfl fun b3 => ?_
 refine JO.m (Z3 rfl rfl (by repeat first | exact .here | apply Ut) (by exact Z18 rfl rfl) (by exact Z22) Zk) (by rfl) ?_
 refine Jt (Z2 rfl) rfl ?_
 apply Ni
 repeat first | apply Nx | apply Nb
 refine Sl [1, 2, 4] (.cons rfl (.cons rfl (.cons rfl .nil))) ?_
 refine J.front b1 (by repeat (first | exact .here | apply Front.there)) ?_
 refine J.openOwnSt fun vc vn vr vi vf vw vg vo vs h1c => ?_
 refine J.shapeE (xs := S1.items) (v := vi) (by repeat first | exact Mh | apply Mt) (fun pi ai li ci bi oi_ hpi hvi hli hai => ?_)
 refine J.shapeE (xs := S1.where_) (v := vw) (by repeat first | exact Mh | apply Mt) (fun pw aw lw cw bw ow_ hpw hvw hlw haw => ?_)
 refine J.pureF (F := CelF itE pi) (by repeat first | exact Mh | apply Mt) (fun pui => ?_)
 refine J.pureF (F := CelF exE pw) (by repeat first | exact Mh | apply Mt) (fun puw => ?_)
 subst hvi hvw
 rw [hy1] at hpi
 rw [hx1] at hpw
 have li1 : li = 1 := by rw [← hli, ← List.length_map (f := Cel.x), hpi]; rfl
 have lw1 : lw = 1 := by rw [← hlw, ← List.length_map (f := Cel.x), hpw]; rfl
 repeat apply Sq
 refine J.reg0 hmx (by kernel_rfl) (by kernel_rfl) ?_
 refine Rq (Z0 rfl) ?_
 refine Rq (Z1p rfl rfl) ?_
 refine Rq (Z0 rfl) ?_
 refine Rg rfl rfl rfl (fun hg => Z1 Z7t (.inl rfl)) ?_
 refine Rg rfl rfl rfl (fun hg => Z7 Zz (.inr ⟨_, rfl, id⟩) rfl) ?_
 refine Rg rfl rfl rfl (fun hg => Z1p (.inr ⟨_, rfl, id⟩) (.inl rfl)) ?_
 refine Rq (ZK rfl rfl rfl id) ?_
 refine Rq (Z0 rfl) ?_
 refine Rg rfl rfl rfl (fun hg => Z1 Z21 (.inl rfl)) ?_
 refine Rg rfl rfl rfl (fun hg => Z7 Z2f (.inr ⟨_, rfl, id⟩) rfl) ?_
 refine Rg rfl rfl rfl (fun hg => ZG Z2N (.inr ⟨_, rfl, id⟩)) ?_
 refine Rg rfl rfl rfl (fun hg => Z1p (.inr ⟨_, rfl, id⟩) (.inl rfl)) ?_
 refine Rq (ZK rfl rfl rfl id) ?_
 refine Rq (Z0 rfl) ?_
 refine Rg rfl rfl rfl (fun hg => Z1 Z21 (.inl rfl)) ?_
 refine Rg rfl rfl rfl (fun hg => Z7 Z2f (.inr ⟨_, rfl, id⟩) rfl) ?_
 refine Rg rfl rfl rfl (fun hg => Zj Z3t (.inr ⟨_, rfl, id⟩) (hai (by omega)) (.inl rfl) (by omega) (by omega)) ?_
 refine Rg rfl rfl rfl (fun hg => Z1 Z7w (.inr ⟨_, rfl, id⟩)) ?_
 refine Rg rfl rfl rfl (fun hg => Z1n (sz := 9) (i := 0) (j := 0) (enc := @Cel.cs _ itE) (y := pi[0]) (u := .bool y1.all) ZcP (.inr ⟨_, rfl, id⟩) (by repeat first | exact Mh | apply Mt) (hai (by omega)) (List.getElem?_eq_getElem (by omega : 0 < pi.length)) rfl (ZcL (l := [y1]) pui hpi (by omega) Nat.zero_lt_one)) ?_
 refine Rq (ZK rfl rfl rfl id) ?_
 refine Rq (Z0 rfl) ?_
 refine Rg rfl rfl rfl (fun hg => Z1 Z1s (.inl rfl)) ?_
 refine Rg rfl rfl rfl (fun hg => Z7 Zv (.inr ⟨_, rfl, id⟩) rfl) ?_
 refine Rg rfl rfl rfl (fun hg => ZG ZC (.inr ⟨_, rfl, id⟩)) ?_
 refine Rg rfl rfl rfl (fun hg => Z1p (.inr ⟨_, rfl, id⟩) (.inl rfl)) ?_
 refine Rq (ZK rfl rfl rfl id) ?_
 refine Rq (Z0 rfl) ?_
 refine Rg rfl rfl rfl (fun hg => Z1 Z1s (.inl rfl)) ?_
 refine Rg rfl rfl rfl (fun hg => Z7 Zv (.inr ⟨_, rfl, id⟩) rfl) ?_
 refine Rg rfl rfl rfl (fun hg => Zj Z1f (.inr ⟨_, rfl, id⟩) (haw (by omega)) (.inl rfl) (by omega) (by omega)) ?_
 refine Rg rfl rfl rfl (fun hg => Z1 Z4Y (.inr ⟨_, rfl, id⟩)) ?_
 refine Rg rfl rfl rfl (fun hg => Z1n (sz := 8) (i := 0) (j := 0) (enc := @Cel.cs _ exE) (y := pw[0]) (u := .int .i64 x1.K) Zz (.inr ⟨_, rfl, id⟩) (by repeat first | exact Mh | apply Mt) (haw (by omega)) (List.getElem?_eq_getElem (by omega : 0 < pw.length)) rfl (Zg7 (l := [x1]) puw hpw (by omega) Nat.zero_lt_one)) ?_
 refine Rg rfl rfl rfl (fun hg => Z1p (.inr ⟨_, rfl, id⟩) (.inl rfl)) ?_
 refine Rq (ZK rfl rfl rfl id) ?_
 refine Rq (Z0 rfl) ?_
 refine Rg rfl rfl rfl (fun hg => Z1 Z2G (.inl rfl)) ?_
 refine Rg rfl rfl rfl (fun hg => Z7 Zz (.inr ⟨_, rfl, id⟩) rfl) ?_
 refine Rg rfl rfl rfl (fun hg => Z1p (.inr ⟨_, rfl, id⟩) (.inl rfl)) ?_
 refine Rq (ZK rfl rfl rfl id) ?_
 refine Rq (Z0 rfl) ?_
 refine Rg rfl rfl rfl (fun hg => Z0 (.inl rfl)) ?_
 refine Rg rfl rfl rfl (fun hg => Z1p (.inr ⟨_, rfl, id⟩) (.inl rfl)) ?_
 refine Rq (ZK rfl rfl rfl id) ?_
 refine Rq (Z2 rfl) ?_
 apply Rn
 refine FinS.nil0 ?_
 repeat first | apply Nx | apply Nb
 refine Sl [0] (.cons rfl .nil) ?_
 repeat apply Sq
 apply Rt
 repeat first | apply Rp | apply Rb
 exact JX.ret1is rfl rfl (by simp [hk1, li1, hy2, lw1, hx2, hlim])
end Go.Proofs.YtbedigkncjbggaaGreatDoor
set_option maxRecDepth 20000
namespace Go.Proofs.YtbedigkncjbggaaGreatDoor
open Go Go.Vc Go.Pz
theorem Z5c {c : UInt8} (hc : Sep c) {l k : List UInt8} (he : (lexL l).2 = 0) (hw : (lexL (l ++ c :: k)).2 = 0) : (lexL (c :: k)).2 = 0 ∧ lexL (l ++ c :: k) = ((lexL l).1 ++ (lexL (c :: k)).1, 0) := by
  have h := Z8G hc hw
  have e1 : lexL l = allA l := by unfold lexL; rw [if_neg (by simp; omega)]; rfl
  have e2 : lexL (c :: k) = allA (c :: k) := by unfold lexL; rw [if_neg (by simp; omega)]; rfl
  have e3 : lexL (l ++ c :: k) = allA (l ++ c :: k) := by unfold lexL; rw [if_neg (by simp; omega)]; rfl
  have hk : (lexL (c :: k)).2 = 0 := by
    rw [e3, Z75 hc k l.length l (Nat.le_refl _) (by rw [← e1]; exact he)] at hw
    rw [e2]
    unfold finA at hw
    by_cases h9 : ((allA (c :: k)).2 != 0) = true
    · rw [if_pos h9] at hw; exact hw
    · simpa using h9
  exact ⟨hk, Z9v hc h he hk⟩
theorem Zhz (m : List UInt8) : tryL (40 :: m) 2 = false := by
  cases m with
  | nil => decide +kernel
  | cons d r =>
    have := Zet (p := fun d => !(tryL [40, d] 2)) (by decide +kernel) d
    have e : tryL (40 :: d :: r) 2 = tryL [40, d] 2 := by unfold tryL; simp
    rw [e]; simpa using this
theorem Zgl (m : List UInt8) : stepL (40 :: m) = ((sg s_lp, 0), 1) := by
  rw [stepL, if_neg (by decide +kernel), if_neg (by decide +kernel), if_neg (by decide +kernel)]
  unfold signL
  rw [if_neg (by rw [Zhz]; decide), if_pos (by
    have e : tryL (40 :: m) 1 = tryL [40] 1 := by unfold tryL; simp
    rw [e]; decide +kernel)]
  rfl
theorem ZdN {m : List UInt8} (h : (lexL (40 :: m)).2 = 0) : (lexL m).2 = 0 ∧ lexL (40 :: m) = (sg s_lp :: (lexL m).1, 0) := by
  have hl : (40 :: m).length ≤ 2048 := by
    unfold lexL at h
    split at h
    · cases h
    · rename_i h1; simp at h1 ⊢; omega
  have e1 : lexL m = allA m := by unfold lexL; rw [if_neg (by simp at hl ⊢; omega)]; rfl
  have e2 : lexL (40 :: m) = allA (40 :: m) := by unfold lexL; rw [if_neg (by simp at hl ⊢; omega)]; rfl
  have e3 : allA (40 :: m) = finA [sg s_lp] (allA m) := by
    rw [Z4N (by rw [runN, if_neg (by decide +kernel)]) (by simp), Zgl]
    rw [if_neg (by decide)]
    rfl
  rw [e2, e3] at h
  have hk : (allA m).2 = 0 := by
    unfold finA at h
    by_cases h9 : ((allA m).2 != 0) = true
    · rw [if_pos h9] at h; exact h
    · simpa using h9
  refine ⟨by rw [e1]; exact hk, ?_⟩
  rw [e2, e3, e1]
  unfold finA
  rw [if_neg (by simp [hk])]; rfl
theorem Z82 {k : List UInt8} (h : (lexL (32 :: k)).2 = 0) : lexL (32 :: k) = lexL k := by
 unfold lexL at h
 split at h
 · cases h
 · rename_i h1; exact ZgG (by decide +kernel) (by simp at h1; omega)
abbrev tDel : List UInt8 := [100, 101, 108, 101, 116, 101, 32, 102, 114, 111, 109, 32, 116, 32, 119, 104, 101, 114, 101]
abbrev tSel : List UInt8 := [115, 101, 108, 101, 99, 116]
abbrev tIns : List UInt8 := [105, 110, 115, 101, 114, 116, 32, 105, 110, 116, 111, 32, 116, 32, 118, 97, 108, 117, 101, 115]
abbrev tUpd : List UInt8 := [117, 112, 100, 97, 116, 101, 32, 116, 32, 115, 101, 116, 32, 120, 32, 61]
abbrev tFrm : List UInt8 := [32, 102, 114, 111, 109, 32, 116]
theorem Ze5 : lexL tDel = (delL [], 0) := by decide +kernel
theorem ZdK : lexL tSel = ([kw Z3L], 0) := by decide +kernel
theorem Ze6 : lexL tIns = ([kw Z3J, kw Z94, nm_ n_t, kw Z5t], 0) := by decide +kernel
theorem Ze1 : lexL tUpd = (updL [], 0) := by decide +kernel
theorem ZdG : lexL (41 :: tFrm) = (sg s_rp :: fromT, 0) := by decide +kernel
theorem Zg0 : lexL [41] = ([sg s_rp], 0) := by decide +kernel
theorem Zfi {s : List UInt8} (h1 : (prS (tDel ++ 32 :: s)).2 = 0) (h2 : (prS (tSel ++ 32 :: 40 :: (s ++ 41 :: tFrm))).2 = 0) (h3 : (prS (tIns ++ 32 :: 40 :: (s ++ [41]))).2 = 0) (h4 : (prS (tUpd ++ 32 :: s)).2 = 0) :
  ∃ x, (prS (tDel ++ 32 :: s)).1.where_ = [x] ∧ (prS (tSel ++ 32 :: 40 :: (s ++ 41 :: tFrm))).1.items = [⟨false, x⟩] ∧ (prS (tIns ++ 32 :: 40 :: (s ++ [41]))).1.rows = [[x]] ∧ (prS (tUpd ++ 32 :: s)).1.sets = [x] := by
 obtain ⟨a1, a2⟩ := Z5c Z90 (by rw [Ze5]) (Z4f h1)
 have ea0 := Z82 a1
 rw [ea0] at a1 a2
 obtain ⟨b1, b2⟩ := Z5c Z90 (by rw [ZdK]) (Z4f h2)
 have eb0 := Z82 b1
 rw [eb0] at b1 b2
 obtain ⟨b3, b4⟩ := ZdN b1
 have hb := Z8G Z9b b3
 have b5 := Z9v Z9b hb a1 (by rw [ZdG])
 obtain ⟨c1, c2⟩ := Z5c Z90 (by rw [Ze6]) (Z4f h3)
 have ec0 := Z82 c1
 rw [ec0] at c1 c2
 obtain ⟨c3, c4⟩ := ZdN c1
 have hc := Z8G Z9b c3
 have c5 := Z9v Z9b (k := []) hc a1 (by rw [Zg0])
 obtain ⟨d1, d2⟩ := Z5c Z90 (by rw [Ze1]) (Z4f h4)
 have ed0 := Z82 d1
 rw [ed0] at d1 d2
 have e1 : prS (tDel ++ 32 :: s) = readT (delL (lexL s).1) := by rw [Z6Q (Z4f h1), a2, Ze5]; rfl
 have e2 : prS (tSel ++ 32 :: 40 :: (s ++ 41 :: tFrm)) = readT (selL ((lexL s).1 ++ sg s_rp :: fromT)) := by rw [Z6Q (Z4f h2), b2, ZdK, b4, b5, ZdG]; rfl
 have e3 : prS (tIns ++ 32 :: 40 :: (s ++ [41])) = readT (insL ((lexL s).1 ++ [sg s_rp])) := by rw [Z6Q (Z4f h3), c2, Ze6, c4, c5, Zg0]; rfl
 have e4 : prS (tUpd ++ 32 :: s) = readT (updL (lexL s).1) := by rw [Z6Q (Z4f h4), d2, Ze1]; rfl
 rw [e1] at h1 ⊢; rw [e2] at h2 ⊢; rw [e3] at h3 ⊢; rw [e4] at h4 ⊢
 obtain ⟨x, q1, q2, q3, q4⟩ := Zds h1 h2
 exact ⟨x, q1, by rw [q2], by rw [q3 h3], by rw [q4 h4]⟩
end Go.Proofs.YtbedigkncjbggaaGreatDoor
