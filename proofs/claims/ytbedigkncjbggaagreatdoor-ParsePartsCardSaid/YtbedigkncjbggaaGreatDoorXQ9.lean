/- The parser: a statement. No condition. -/
import Derived.Test.YtbedigkncjbggaaGreatDoorXQ8
import Derived.Test.YtbedigkncjbggaaGreatDoorXQ4
import Derived.Test.YtbedigkncjbggaaGreatDoorXG7
import Derived.Test.YtbedigkncjbggaaGreatDoorXG6
import Derived.Test.YtbedigkncjbggaaGreatDoorXQ7
set_option maxRecDepth 20000
namespace Go.Proofs.YtbedigkncjbggaaGreatDoor
open Go Go.Vc
open Go.Pz
theorem Z2d {N : Nat} {st : Pz.St} : Cnt (.rep (StR N st)) 14 := fun E v w h => by
  obtain ⟨vc, vn, vr, vi, vf, vw, vg, vo, vs, rfl, h1, h2, h3, h4, h5, h6, h7, h8, h9⟩ := (h : Pers E w (StR N st v)).now
  have hs : ∀ {α : Type} {En : Enc α} {G : GoS} {xs : List α} {v : Value}, SlE En G xs v w → v.oneCell' = true := fun h => by
    obtain ⟨ps, a, len, cap, _, rfl, _⟩ := h; rfl
  have hx : ∀ {xs : List Ex} {v : Value}, ExsR xs v w → v.oneCell' = true := fun h => by
    obtain ⟨a, len, cap, rfl, _⟩ := h; rfl
  refine ⟨rfl, fun u hu => ?_⟩
  simp only [Value.cells, List.mem_cons, List.mem_nil_iff, or_false] at hu
  rcases hu with rfl | rfl | rfl | rfl | rfl | rfl | rfl | rfl | rfl | rfl | rfl | rfl | rfl | rfl <;> first | rfl | exact hs (by assumption) | exact hx (by assumption)
theorem Z5h {N : Nat} {st : Pz.St} : ∀ E v w, (Ty.rep (StR N st)).p E v w → ∃ cs, v = .agg cs ∧ cs.size = 14 := fun E v w h => by
 obtain ⟨vc, vn, vr, vi, vf, vw, vg, vo, vs, rfl, _⟩ := (h : Pers E w (StR N st v)).now
 exact ⟨_, rfl, rfl⟩
theorem JO.mapMkS {P : Program} {c : Ctx} {K : List (Nat × Ty)} {L : List Own} {Φ : List (World → Prop)} {Q : Exit → Act → World → Prop} {ops : Array Oper} {rest : List Oper} {d : Nat} {t ty : TypeId} {pos : String} {after : Array Edge} (hd : Nat.blt d c.n = true) (hn : ∀ r, JO P c ((d, .is (.map (some r))) :: K) (⟨r, 0, .ob (sObj [] 0)⟩ :: L) Φ ops rest Q) : JO P c K L Φ ops (⟨some d, .makeMap t none, ty, pos, after, none⟩ :: rest) Q := JO.mapMk hd hn
theorem Z9q {k : Int} {bx : Nat} {X : Nat → Prop} {w : World} (h : Pers X w (PlF k (.func (.func Z1m) #[] #[.pointer (some ⟨bx, 0, none⟩)]))) : Pers X w (HeapIs bx [.int .i64 k] Z3Y) := fun w' hk => by
 obtain ⟨by_, e, h1⟩ := h w' hk
 injection e with _ _ e
 injection e with e
 injection e with e _
 injection e with e
 injection e with e
 injection e with e _
 subst e
 exact h1
def stF (b7 b8 b9 : Nat) : SEs := [(Z68, fv Z2G, 0), (Z4Z, fv Z2I, 1), (Z4P, fv Z2V, 2), (Z4V, fv Z2H, 3), (Z52, fv Z2F, 4), (Z7e, .func (.func Z1m) #[] #[.pointer (some ⟨b7, 0, none⟩)], 5), (Z6c, .func (.func Z1m) #[] #[.pointer (some ⟨b8, 0, none⟩)], 6), (Z4w, .func (.func Z1m) #[] #[.pointer (some ⟨b9, 0, none⟩)], 7)]
theorem ZgS {b7 b8 b9 : Nat} {w : ByteArray} (h : (sGet w (stF b7 b8 b9)).isSome = true) : w = Z68 ∨ w = Z4Z ∨ w = Z4P ∨ w = Z4V ∨ w = Z52 ∨ w = Z7e ∨ w = Z6c ∨ w = Z4w := by
 simp only [stF, sGet] at h
 repeat' split at h
 all_goals first | (cases h; done) | simp [*]
theorem ZgR {b7 b8 b9 : Nat} {e : Ps Ex} {ts r1 : List T3} {k1 n1 : Int} {w : ByteArray} (hz : takeP 1 ts = some (⟨k1, w, n1⟩, r1)) (h : (sGet w (stF b7 b8 b9)).isSome = false) : stmtP e ts = none := by
 have hne : ∀ s, (s = Z68 ∨ s = Z4Z ∨ s = Z4P ∨ s = Z4V ∨ s = Z52 ∨ s = Z7e ∨ s = Z6c ∨ s = Z4w) → ¬ sq w s = true := fun s hs hq => by
  have := Z9v hq
  subst this
  rcases hs with rfl | rfl | rfl | rfl | rfl | rfl | rfl | rfl <;> simp [stF, sGet] at h
 unfold stmtP
 rw [hz, Option.bind_some]
 rw [if_neg (hne _ (by simp)), if_neg (hne _ (by simp)), if_neg (hne _ (by simp)), if_neg (hne _ (by simp)), if_neg (hne _ (by simp)), if_neg (hne _ (by simp)), if_neg (hne _ (by simp)), if_neg (hne _ (by simp))]
attribute [local irreducible] SlE ExsR
theorem Z5r (N : Nat) (T : Tk) (hc : T.ts.length ≤ T.cap) (h9 : T.ts.length ≤ 2049) (b : Nat) (ts : List T3) (hts : ts <:+ T.ts) (M : Nat) (hM : ts.length < M) : CallP Tryz.prog Z3h [PB T b ts] [T.G, AF, NH N] [.is (.pointer (some ⟨b, 0, none⟩))] (stmtP (exprP M) ts = none) flt (fun z : Pz.St × List T3 => stmtP (exprP M) ts = some z) (fun z => [PB T b z.2]) (fun z => .rep (StR N z.1)) :=
CallP.ofN (N := N) (List.mem_cons_of_mem _ (List.mem_cons_of_mem _ List.mem_cons_self)) (fn := Tryz.f26) Tryz.func26 (n := 43) rfl rfl rfl (fun _ _ => by kernel_rfl) fun E W hNW hb0 => by
 repeat apply Sq
 apply Pn
 refine JO.alloc ZU rfl fun b2 => ?_
 apply Ni
 repeat first | apply Nx | apply Nb
 refine Sl [0, 2] (.cons rfl (.cons rfl .nil)) ?_
 repeat apply Sq
 refine J.regS 17 hmx (by kernel_rfl) (by kernel_rfl) ?_
 refine Rq (Z0 rfl) ?_
 refine Rq (Z0 rfl) ?_
 refine Rq (Z5 rfl) ?_
 refine Rq (Z1 Zg rfl) ?_
 refine Rq (Z4 Zs rfl rfl) ?_
 refine Rq (Zq ZY rfl) ?_
 refine Rq (Z2O rfl rfl) ?_
 refine Rq (Z0 rfl) ?_
 refine Rg rfl rfl rfl (fun hg => Z0 (.inl rfl)) ?_
 refine Rg rfl rfl rfl (fun hg => Z5 (.inr ⟨_, rfl, id⟩)) ?_
 refine Rg rfl rfl rfl (fun hg => Z1 Zg (.inr ⟨_, rfl, id⟩)) ?_
 refine Rg rfl rfl rfl (fun hg => Z4 Zs (.inr ⟨_, rfl, id⟩) rfl) ?_
 refine Rg rfl rfl rfl (fun hg => Za ZX (.inr ⟨_, rfl, id⟩) rfl (.inl rfl) (by omega) (Z2j (Z2r hg))) ?_
 refine Rg rfl rfl rfl (fun hg => Z1 Z2B (.inr ⟨_, rfl, id⟩)) ?_
 refine Rg rfl rfl rfl (fun hg => ZI (enc := T3.cells) (sz := 3) (i := T.k ts) (j := 0) (y := ts.headD t3D) (u := .int .i64 (ts.headD t3D).k) ZA (.inr ⟨_, rfl, id⟩) (by repeat first | exact Mh | apply Mt) rfl (Tk.head hts (Z2r hg)) (by rw [Tk.j_eq hc hts (Z2r hg)]; omega) rfl) ?_
 refine Rg rfl rfl rfl (fun hg => Z1e (.inr ⟨_, rfl, id⟩) (.inl rfl)) ?_
 refine Rq (Zy rfl rfl rfl id) ?_
 apply Rn
 refine FinS.tail0 ?_
 refine JO.callPK (Lr := _) (Z7 (.pointer (some ⟨b, 0, none⟩)) _) rfl (Z1a _) Z10 (.one rfl (.one rfl .nil)) (fun hbad => ?_) ?_
 · exact JX.pnI (by unfold stmtP; rw [Zav, ← Z67, hbad]; rfl)
 intro z hz
 have hK : isK 1 ts = true := by rw [← Z67]; exact hz
 try dsimp only [nA, cA]
 apply Ni
 repeat first | apply Nx | apply Nb
 refine Sl [0, 2] (.cons rfl (.cons rfl .nil)) ?_
 repeat apply Sq
 apply Pn
 refine JO.mapMkS rfl (fun r24 => ?_)
 refine JO.m (Z1K Zm Zl rfl rfl rfl (by simp [sGet]) .here) (by rfl) ?_
 refine JO.m (Z1K Zm Zl rfl rfl rfl (by simp [sGet]) .here) (by rfl) ?_
 refine JO.m (Z1K Zm Zl rfl rfl rfl (by simp [sGet]) .here) (by rfl) ?_
 refine JO.m (Z1K Zm Zl rfl rfl rfl (by simp [sGet]) .here) (by rfl) ?_
 refine JO.m (Z1K Zm Zl rfl rfl rfl (by simp [sGet]) .here) (by rfl) ?_
 refine Jt (ZK rfl (Z5q 7) (.one rfl .nil)) rfl ?_
 refine JO.open_ (s := 25) (R := PlF 7) rfl ?_
 rintro _ ⟨_, b7, rfl, _⟩
 refine JO.fact (HeapIs b7 [.int .i64 7] Z3Y) (fun X w hf _ => Z9q (hf _ List.mem_cons_self)) ?_
 refine JO.m (Z1K Zm Zl rfl rfl rfl (by simp [sGet]) .here) (by rfl) ?_
 refine Jt (ZK rfl (Z5q 8) (.one rfl .nil)) rfl ?_
 refine JO.open_ (s := 26) (R := PlF 8) rfl ?_
 rintro _ ⟨_, b8, rfl, _⟩
 refine JO.fact (HeapIs b8 [.int .i64 8] Z3Y) (fun X w hf _ => Z9q (hf _ List.mem_cons_self)) ?_
 refine JO.m (Z1K Zm Zl rfl rfl rfl (by simp [sGet]) .here) (by rfl) ?_
 refine Jt (ZK rfl (Z5q 9) (.one rfl .nil)) rfl ?_
 refine JO.open_ (s := 27) (R := PlF 9) rfl ?_
 rintro _ ⟨_, b9, rfl, _⟩
 refine JO.fact (HeapIs b9 [.int .i64 9] Z3Y) (fun X w hf _ => Z9q (hf _ List.mem_cons_self)) ?_
 refine JO.m (Z1K Zm Zl rfl rfl rfl (by simp [sGet]) .here) (by rfl) ?_
 refine Jt (Z0 rfl) rfl ?_
 refine Jt (Z2 rfl) rfl ?_
 apply Ni
 repeat first | apply Nx | apply Nb
 refine Sl [0, 2, 3] (.cons rfl (.cons rfl (.cons rfl .nil))) ?_
 repeat apply Sq
 apply Pn
 refine Jt (Z0 rfl) rfl ?_
 refine Jt (Z0 rfl) rfl ?_
 refine JO.callPK (Lr := [_, _]) (Z1i T hc b ts hts 1) rfl (List.perm_append_comm (l₁ := [_, _]) (l₂ := [_])) (fun F hF => by repeat (first | (rcases Mc.1 hF with rfl | hF; · (repeat first | exact Mh | apply Mt)) | (cases hF; done))) (.one rfl (.one rfl .nil)) (fun hbad => ?_) ?_
 · exact JX.pnI (by unfold stmtP; rw [hbad]; rfl)
 rintro ⟨⟨k1, w, n1⟩, r1⟩ hz1
 try dsimp only [nA, cA]
 refine Jt (Z3B (off := 1) (by kernel_rfl) rfl rfl) rfl ?_
 refine Jt (Zgl (l := stF b7 b8 b9) (V := (sGet w (stF b7 b8 b9)).getD .nilFunc) (B := (sGet w (stF b7 b8 b9)).isSome) Zm Zl Z4p rfl rfl (List.mem_cons_of_mem _ List.mem_cons_self) rfl rfl) rfl ?_
 refine Jt (Z0 rfl) rfl ?_
 refine Jt (Zf7 rfl rfl) rfl ?_
 refine Jt (Zf7 rfl rfl) rfl ?_
 refine Jt (Z2 rfl) rfl ?_
 refine Jt (Z2 rfl) rfl ?_
 apply Ni
 repeat first | apply Nx | apply Nb
 refine Sl [0, 2, 4, 5] (.cons rfl (.cons rfl (.cons rfl (.cons rfl .nil)))) ?_
 repeat apply Sq
 apply Pn
 refine Jt (Z0 rfl) rfl ?_
 refine Jt (Z0 rfl) rfl ?_
 refine JO.callPK (Lr := _) (Z7 (.pointer (some ⟨b, 0, none⟩)) (sGet w (stF b7 b8 b9)).isSome) rfl (Z1a _) Z10 (.one rfl (.one rfl .nil)) (fun hbad => ?_) ?_
 · exact JX.pnI (by exact ZgR hz1 hbad)
 intro _ hfo
 try dsimp only [nA, cA]
 apply Ni
 repeat first | apply Nx | apply Nb
 refine Sl [0, 2, 4] (.cons rfl (.cons rfl (.cons rfl .nil))) ?_
 rcases ZgS hfo with hw | hw | hw | hw | hw | hw | hw | hw
 ·
  subst hw
  rw [show (sGet Z68 (stF b7 b8 b9)).getD .nilFunc = fv Z2G by simp [stF, sGet]]
  repeat apply Sq
  apply Pn
  refine Jt (Z0 rfl) rfl ?_
  refine Jt (Z0 rfl) rfl ?_
  refine JO.callPvK (cp := []) (Lr := [_, _]) rfl (Z6j N T hc h9 b r1 (show r1 <:+ T.ts from (ZP 1 _ _ hz1).1.trans hts)) rfl (.refl _) (fun F hF => by repeat (first | (rcases Mc.1 hF with rfl | hF; · (repeat first | exact Mh | apply Mt)) | (cases hF; done))) (.one rfl .nil) (fun hbad => ?_) ?_
  · exact JX.pnI (by unfold stmtP; rw [hz1, Option.bind_some, if_pos (by rfl), hbad])
  intro z hz
  try dsimp only [nA, cA]
  refine JO.m (Z3 rfl rfl (by repeat first | exact .here | apply Ut) (by first | exact cI rfl rfl | exact cE) (by first | exact Z19 rfl rfl | exact Z5c | exact Z3F | exact Z2d) Zj) (by rfl) ?_
  apply Ni
  repeat first | apply Nx | apply Nb
  refine Sl [2] (.cons rfl .nil) ?_
  repeat apply Sq
  apply Rt
  repeat first | apply Rp | apply Rb
  refine JX.toP ?_
  exact JX.retLCs (Lr := [_, _]) (L1 := fun z : Pz.St × List T3 => [PB T b z.2]) (R := fun z => .rep (StR N z.1)) rfl z (by unfold stmtP; rw [hz1, Option.bind_some, if_pos (by rfl), hz]) (.refl _) rfl rfl hb0 rfl Z8 HasOwn.mem Z5h (Sub.refl _)
 ·
  subst hw
  rw [show (sGet Z4Z (stF b7 b8 b9)).getD .nilFunc = fv Z2I by simp [stF, sGet]]
  repeat apply Sq
  apply Pn
  refine Jt (Z0 rfl) rfl ?_
  refine Jt (Z0 rfl) rfl ?_
  refine JO.callPvK (cp := []) (Lr := [_, _]) rfl (Z6l N T hc h9 b r1 (show r1 <:+ T.ts from (ZP 1 _ _ hz1).1.trans hts) (exprP M) (Z2p M) (fun us hus hu => Z8p T hc b M us hus (by have : r1.length < ts.length := (ZP 1 _ _ hz1).2; omega))) rfl (.refl _) (fun F hF => by repeat (first | (rcases Mc.1 hF with rfl | hF; · (repeat first | exact Mh | apply Mt)) | (cases hF; done))) (.one rfl .nil) (fun hbad => ?_) ?_
  · exact JX.pnI (by unfold stmtP; rw [hz1, Option.bind_some, if_neg (by exact Bool.false_ne_true), if_pos (by rfl), hbad])
  intro z hz
  try dsimp only [nA, cA]
  refine JO.m (Z3 rfl rfl (by repeat first | exact .here | apply Ut) (by first | exact cI rfl rfl | exact cE) (by first | exact Z19 rfl rfl | exact Z5c | exact Z3F | exact Z2d) Zj) (by rfl) ?_
  apply Ni
  repeat first | apply Nx | apply Nb
  refine Sl [2] (.cons rfl .nil) ?_
  repeat apply Sq
  apply Rt
  repeat first | apply Rp | apply Rb
  refine JX.toP ?_
  exact JX.retLCs (Lr := [_, _]) (L1 := fun z : Pz.St × List T3 => [PB T b z.2]) (R := fun z => .rep (StR N z.1)) rfl z (by unfold stmtP; rw [hz1, Option.bind_some, if_neg (by exact Bool.false_ne_true), if_pos (by rfl), hz]) (.refl _) rfl rfl hb0 rfl Z8 HasOwn.mem Z5h (Sub.refl _)
 ·
  subst hw
  rw [show (sGet Z4P (stF b7 b8 b9)).getD .nilFunc = fv Z2V by simp [stF, sGet]]
  repeat apply Sq
  apply Pn
  refine Jt (Z0 rfl) rfl ?_
  refine Jt (Z0 rfl) rfl ?_
  refine JO.callPvK (cp := []) (Lr := [_, _]) rfl (Z6R N T hc h9 b r1 (show r1 <:+ T.ts from (ZP 1 _ _ hz1).1.trans hts) (exprP M) (Z2p M) (fun us hus hu => Z8p T hc b M us hus (by have : r1.length < ts.length := (ZP 1 _ _ hz1).2; omega))) rfl (.refl _) (fun F hF => by repeat (first | (rcases Mc.1 hF with rfl | hF; · (repeat first | exact Mh | apply Mt)) | (cases hF; done))) (.one rfl .nil) (fun hbad => ?_) ?_
  · exact JX.pnI (by unfold stmtP; rw [hz1, Option.bind_some, if_neg (by exact Bool.false_ne_true), if_neg (by exact Bool.false_ne_true), if_pos (by rfl), hbad])
  intro z hz
  try dsimp only [nA, cA]
  refine JO.m (Z3 rfl rfl (by repeat first | exact .here | apply Ut) (by first | exact cI rfl rfl | exact cE) (by first | exact Z19 rfl rfl | exact Z5c | exact Z3F | exact Z2d) Zj) (by rfl) ?_
  apply Ni
  repeat first | apply Nx | apply Nb
  refine Sl [2] (.cons rfl .nil) ?_
  repeat apply Sq
  apply Rt
  repeat first | apply Rp | apply Rb
  refine JX.toP ?_
  exact JX.retLCs (Lr := [_, _]) (L1 := fun z : Pz.St × List T3 => [PB T b z.2]) (R := fun z => .rep (StR N z.1)) rfl z (by unfold stmtP; rw [hz1, Option.bind_some, if_neg (by exact Bool.false_ne_true), if_neg (by exact Bool.false_ne_true), if_pos (by rfl), hz]) (.refl _) rfl rfl hb0 rfl Z8 HasOwn.mem Z5h (Sub.refl _)
 ·
  subst hw
  rw [show (sGet Z4V (stF b7 b8 b9)).getD .nilFunc = fv Z2H by simp [stF, sGet]]
  repeat apply Sq
  apply Pn
  refine Jt (Z0 rfl) rfl ?_
  refine Jt (Z0 rfl) rfl ?_
  refine JO.callPvK (cp := []) (Lr := [_, _]) rfl (Z6h N T hc h9 b r1 (show r1 <:+ T.ts from (ZP 1 _ _ hz1).1.trans hts) (exprP M) (Z2p M) (fun us hus hu => Z8p T hc b M us hus (by have : r1.length < ts.length := (ZP 1 _ _ hz1).2; omega))) rfl (.refl _) (fun F hF => by repeat (first | (rcases Mc.1 hF with rfl | hF; · (repeat first | exact Mh | apply Mt)) | (cases hF; done))) (.one rfl .nil) (fun hbad => ?_) ?_
  · exact JX.pnI (by unfold stmtP; rw [hz1, Option.bind_some, if_neg (by exact Bool.false_ne_true), if_neg (by exact Bool.false_ne_true), if_neg (by exact Bool.false_ne_true), if_pos (by rfl), hbad])
  intro z hz
  try dsimp only [nA, cA]
  refine JO.m (Z3 rfl rfl (by repeat first | exact .here | apply Ut) (by first | exact cI rfl rfl | exact cE) (by first | exact Z19 rfl rfl | exact Z5c | exact Z3F | exact Z2d) Zj) (by rfl) ?_
  apply Ni
  repeat first | apply Nx | apply Nb
  refine Sl [2] (.cons rfl .nil) ?_
  repeat apply Sq
  apply Rt
  repeat first | apply Rp | apply Rb
  refine JX.toP ?_
  exact JX.retLCs (Lr := [_, _]) (L1 := fun z : Pz.St × List T3 => [PB T b z.2]) (R := fun z => .rep (StR N z.1)) rfl z (by unfold stmtP; rw [hz1, Option.bind_some, if_neg (by exact Bool.false_ne_true), if_neg (by exact Bool.false_ne_true), if_neg (by exact Bool.false_ne_true), if_pos (by rfl), hz]) (.refl _) rfl rfl hb0 rfl Z8 HasOwn.mem Z5h (Sub.refl _)
 ·
  subst hw
  rw [show (sGet Z52 (stF b7 b8 b9)).getD .nilFunc = fv Z2F by simp [stF, sGet]]
  repeat apply Sq
  apply Pn
  refine Jt (Z0 rfl) rfl ?_
  refine Jt (Z0 rfl) rfl ?_
  refine JO.callPvK (cp := []) (Lr := [_, _]) rfl (Z6n N T hc h9 b r1 (show r1 <:+ T.ts from (ZP 1 _ _ hz1).1.trans hts) (exprP M) (fun us hus hu => Z8p T hc b M us hus (by have : r1.length < ts.length := (ZP 1 _ _ hz1).2; omega))) rfl (.refl _) (fun F hF => by repeat (first | (rcases Mc.1 hF with rfl | hF; · (repeat first | exact Mh | apply Mt)) | (cases hF; done))) (.one rfl .nil) (fun hbad => ?_) ?_
  · exact JX.pnI (by unfold stmtP; rw [hz1, Option.bind_some, if_neg (by exact Bool.false_ne_true), if_neg (by exact Bool.false_ne_true), if_neg (by exact Bool.false_ne_true), if_neg (by exact Bool.false_ne_true), if_pos (by rfl), hbad])
  intro z hz
  try dsimp only [nA, cA]
  refine JO.m (Z3 rfl rfl (by repeat first | exact .here | apply Ut) (by first | exact cI rfl rfl | exact cE) (by first | exact Z19 rfl rfl | exact Z5c | exact Z3F | exact Z2d) Zj) (by rfl) ?_
  apply Ni
  repeat first | apply Nx | apply Nb
  refine Sl [2] (.cons rfl .nil) ?_
  repeat apply Sq
  apply Rt
  repeat first | apply Rp | apply Rb
  refine JX.toP ?_
  exact JX.retLCs (Lr := [_, _]) (L1 := fun z : Pz.St × List T3 => [PB T b z.2]) (R := fun z => .rep (StR N z.1)) rfl z (by unfold stmtP; rw [hz1, Option.bind_some, if_neg (by exact Bool.false_ne_true), if_neg (by exact Bool.false_ne_true), if_neg (by exact Bool.false_ne_true), if_neg (by exact Bool.false_ne_true), if_pos (by rfl), hz]) (.refl _) rfl rfl hb0 rfl Z8 HasOwn.mem Z5h (Sub.refl _)
 ·
  subst hw
  rw [show (sGet Z7e (stF b7 b8 b9)).getD .nilFunc = .func (.func Z1m) #[] #[.pointer (some ⟨b7, 0, none⟩)] by simp [stF, sGet]]
  repeat apply Sq
  apply Pn
  refine Jt (Z0 rfl) rfl ?_
  refine Jt (Z0 rfl) rfl ?_
  refine JO.callPvK (cp := [.pointer (some ⟨b7, 0, none⟩)]) (Lr := [_, _]) rfl (Z4z N T hc h9 b r1 (show r1 <:+ T.ts from (ZP 1 _ _ hz1).1.trans hts) b7 7) rfl (.refl _) (fun F hF => by repeat (first | (rcases Mc.1 hF with rfl | hF; · (repeat first | exact Mh | apply Mt)) | (cases hF; done))) (.one rfl .nil) (fun hbad => ?_) ?_
  · exact JX.pnI (by exact hbad.elim)
  intro z hz
  try dsimp only [nA, cA]
  refine JO.m (Z3 rfl rfl (by repeat first | exact .here | apply Ut) (by first | exact cI rfl rfl | exact cE) (by first | exact Z19 rfl rfl | exact Z5c | exact Z3F | exact Z2d) Zj) (by rfl) ?_
  apply Ni
  repeat first | apply Nx | apply Nb
  refine Sl [2] (.cons rfl .nil) ?_
  repeat apply Sq
  apply Rt
  repeat first | apply Rp | apply Rb
  refine JX.toP ?_
  exact JX.retLCs (Lr := [_, _]) (L1 := fun z : Pz.St × List T3 => [PB T b z.2]) (R := fun z => .rep (StR N z.1)) rfl z (by unfold stmtP; rw [hz1, Option.bind_some, if_neg (by exact Bool.false_ne_true), if_neg (by exact Bool.false_ne_true), if_neg (by exact Bool.false_ne_true), if_neg (by exact Bool.false_ne_true), if_neg (by exact Bool.false_ne_true), if_pos (by rfl), hz]) (.refl _) rfl rfl hb0 rfl Z8 HasOwn.mem Z5h (Sub.refl _)
 ·
  subst hw
  rw [show (sGet Z6c (stF b7 b8 b9)).getD .nilFunc = .func (.func Z1m) #[] #[.pointer (some ⟨b8, 0, none⟩)] by simp [stF, sGet]]
  repeat apply Sq
  apply Pn
  refine Jt (Z0 rfl) rfl ?_
  refine Jt (Z0 rfl) rfl ?_
  refine JO.callPvK (cp := [.pointer (some ⟨b8, 0, none⟩)]) (Lr := [_, _]) rfl (Z4z N T hc h9 b r1 (show r1 <:+ T.ts from (ZP 1 _ _ hz1).1.trans hts) b8 8) rfl (.refl _) (fun F hF => by repeat (first | (rcases Mc.1 hF with rfl | hF; · (repeat first | exact Mh | apply Mt)) | (cases hF; done))) (.one rfl .nil) (fun hbad => ?_) ?_
  · exact JX.pnI (by exact hbad.elim)
  intro z hz
  try dsimp only [nA, cA]
  refine JO.m (Z3 rfl rfl (by repeat first | exact .here | apply Ut) (by first | exact cI rfl rfl | exact cE) (by first | exact Z19 rfl rfl | exact Z5c | exact Z3F | exact Z2d) Zj) (by rfl) ?_
  apply Ni
  repeat first | apply Nx | apply Nb
  refine Sl [2] (.cons rfl .nil) ?_
  repeat apply Sq
  apply Rt
  repeat first | apply Rp | apply Rb
  refine JX.toP ?_
  exact JX.retLCs (Lr := [_, _]) (L1 := fun z : Pz.St × List T3 => [PB T b z.2]) (R := fun z => .rep (StR N z.1)) rfl z (by unfold stmtP; rw [hz1, Option.bind_some, if_neg (by exact Bool.false_ne_true), if_neg (by exact Bool.false_ne_true), if_neg (by exact Bool.false_ne_true), if_neg (by exact Bool.false_ne_true), if_neg (by exact Bool.false_ne_true), if_neg (by exact Bool.false_ne_true), if_pos (by rfl), hz]) (.refl _) rfl rfl hb0 rfl Z8 HasOwn.mem Z5h (Sub.refl _)
 ·
  subst hw
  rw [show (sGet Z4w (stF b7 b8 b9)).getD .nilFunc = .func (.func Z1m) #[] #[.pointer (some ⟨b9, 0, none⟩)] by simp [stF, sGet]]
  repeat apply Sq
  apply Pn
  refine Jt (Z0 rfl) rfl ?_
  refine Jt (Z0 rfl) rfl ?_
  refine JO.callPvK (cp := [.pointer (some ⟨b9, 0, none⟩)]) (Lr := [_, _]) rfl (Z4z N T hc h9 b r1 (show r1 <:+ T.ts from (ZP 1 _ _ hz1).1.trans hts) b9 9) rfl (.refl _) (fun F hF => by repeat (first | (rcases Mc.1 hF with rfl | hF; · (repeat first | exact Mh | apply Mt)) | (cases hF; done))) (.one rfl .nil) (fun hbad => ?_) ?_
  · exact JX.pnI (by exact hbad.elim)
  intro z hz
  try dsimp only [nA, cA]
  refine JO.m (Z3 rfl rfl (by repeat first | exact .here | apply Ut) (by first | exact cI rfl rfl | exact cE) (by first | exact Z19 rfl rfl | exact Z5c | exact Z3F | exact Z2d) Zj) (by rfl) ?_
  apply Ni
  repeat first | apply Nx | apply Nb
  refine Sl [2] (.cons rfl .nil) ?_
  repeat apply Sq
  apply Rt
  repeat first | apply Rp | apply Rb
  refine JX.toP ?_
  exact JX.retLCs (Lr := [_, _]) (L1 := fun z : Pz.St × List T3 => [PB T b z.2]) (R := fun z => .rep (StR N z.1)) rfl z (by unfold stmtP; rw [hz1, Option.bind_some, if_neg (by exact Bool.false_ne_true), if_neg (by exact Bool.false_ne_true), if_neg (by exact Bool.false_ne_true), if_neg (by exact Bool.false_ne_true), if_neg (by exact Bool.false_ne_true), if_neg (by exact Bool.false_ne_true), if_neg (by exact Bool.false_ne_true), if_pos (by rfl), hz]) (.refl _) rfl rfl hb0 rfl Z8 HasOwn.mem Z5h (Sub.refl _)
end Go.Proofs.YtbedigkncjbggaaGreatDoor
namespace Go.Pz
open Go Go.Vc
theorem ZbF {kids : List Ex} {a : Option Addr} {len : Nat} {X : Nat → Prop} {w : World} (h : Pers X w (KidsR kids a len)) :
    ∃ ps : List (Cel exE), ps.map Cel.x = kids ∧ Pers X w (RowG Cel.cs 8 ps a len) ∧ Pers X w (CelF exE ps) := by
  have h0 := h.now
  by_cases hn : len = 0
  · have hk : kids = [] := List.length_eq_zero_iff.1 (by rw [h0.1]; exact hn)
    subst hk
    exact ⟨[], rfl, fun w' _ => ⟨hn.symm, fun h => absurd hn h⟩, fun w' _ p hp => by cases hp⟩
  obtain ⟨b, o, rfl, _⟩ := h0.2 hn
  have hall : ∀ i : Fin kids.length, ∃ cs : List Value, cs.length = 8 ∧ RowAt cs b (o + 8 * i.1) w ∧ Pers X w (ExR kids[i] (.agg cs.toArray)) := fun i => Zcj h (List.getElem?_eq_getElem i.2)
  let f : Fin kids.length → List Value := fun i => Classical.choose (hall i)
  have hf : ∀ i, (f i).length = 8 ∧ RowAt (f i) b (o + 8 * i.1) w ∧ Pers X w (ExR kids[i] (.agg (f i).toArray)) := fun i => Classical.choose_spec (hall i)
  have hl : 0 < kids.length := by rw [h0.1]; omega
  have hX : ¬ X b := Zcf (o := o + 8 * 0) fun w' hk => by
    obtain ⟨hl', hk'⟩ := h w' hk
    obtain ⟨b', o', e, hK⟩ := hk' hn
    injection e with e
    injection e with e1 e2
    subst e1 e2
    obtain ⟨cs, _, h2, h3⟩ := Z7G kids b o w' 0 kids[0] hK (List.getElem?_eq_getElem hl)
    obtain ⟨k, n, h4⟩ := Z4n h2
    exact ⟨k, n, h3 0 _ h4⟩
  obtain ⟨C, t, fr, hC, _⟩ : ∃ (cs : Array Value) (t : TypeId) (fr : Nat × Nat), w.heap[b]? = some (.cells cs t fr) ∧ True := by
    have h2 := hf ⟨0, hl⟩
    obtain ⟨k, n, h4⟩ := Z4n h2.2.2.now
    obtain ⟨cs, t, fr, q1, _⟩ := Z9i (h2.2.1 0 _ h4)
    exact ⟨cs, t, fr, q1, trivial⟩
  refine ⟨List.ofFn fun i : Fin kids.length => ⟨kids[i], f i, (hf i).1, Z9B (hf i).2.2.now⟩, ?_, fun w' hk => ⟨by rw [List.length_ofFn]; exact h0.1, fun _ => ⟨b, o, rfl, fun i p hp => ?_⟩⟩, fun w' hk p hp => ?_⟩
  · refine List.ext_getElem (by simp) fun i h1 h2 => ?_
    simp
  · rw [List.getElem?_ofFn] at hp
    split at hp
    · rename_i hi
      injection hp with hp
      subst hp
      intro j v hj
      have := (hf ⟨i, hi⟩).2.1 j v hj
      rw [Z1b hC] at this
      rw [Z1b (hk.get hC hX)]
      exact this
    · cases hp
  · obtain ⟨i, rfl⟩ := List.mem_ofFn.1 hp
    exact (hf i).2.2 w' hk
section
variable {P : Program} {c : Ctx} {K : List (Nat × Ty)} {L : List Own} {Φ : List (World → Prop)} {Q : Exit → Act → World → Prop}
theorem SA.more {X : Nat → Prop} {a : Act} {w : World} (hs : SA c K L Φ X a w) (Ψ : List (World → Prop)) (hΨ : ∀ F ∈ Ψ, Pers X w F) : SA c K L (Ψ ++ Φ) X a w :=
 ⟨hs.n, hs.d, hs.wf, hs.k, hs.l, hs.ld, fun F hF => by
  rcases List.mem_append.1 hF with hF | hF
  · exact hΨ F hF
  · exact hs.f F hF, hs.x, hs.xs, hs.keeps, hs.may⟩
theorem J.kidsC {x : Code} {kids : List Ex} {a : Option Addr} {len : Nat} (h : KidsR kids a len ∈ Φ) (hj : ∀ ps : List (Cel exE), ps.map Cel.x = kids → J P c K L (RowG Cel.cs 8 ps a len :: CelF exE ps :: Φ) x Q) : J P c K L Φ x Q := by
 refine ⟨fun X a' w hs => ?_⟩
 obtain ⟨ps, h1, h2, h3⟩ := ZbF (hs.f _ h)
 refine (hj ps h1).out X a' w (SA.more hs [_, _] fun F hF => ?_)
 simp only [List.mem_cons, List.mem_nil_iff, or_false] at hF
 rcases hF with rfl | rfl
 · exact h2
 · exact h3
theorem Zhe {xs : List Ex} {v : Value} {X : Nat → Prop} {w : World} (h : Pers X w (ExsR xs v)) : ∃ (ps : List (Cel exE)) (a : Option Addr) (len cap : Nat), ps.map Cel.x = xs ∧ v = .slice a len cap ∧ ps.length = len ∧ (∃ b o, len ≠ 0 → a = some ⟨b, o, none⟩) ∧ Pers X w (RowG Cel.cs 8 ps a len) ∧ Pers X w (CelF exE ps) := by
  obtain ⟨a, len, cap, rfl, hk⟩ := h.now
  have hp : Pers X w (KidsR xs a len) := fun w' hk => by
    obtain ⟨a', len', cap', e, h1⟩ := h w' hk
    injection e with e1 e2 e3
    subst e1 e2 e3
    exact h1
  obtain ⟨ps, h1, h2, h3⟩ := ZbF hp
  refine ⟨ps, a, len, cap, h1, rfl, h2.now.1, ?_, h2, h3⟩
  by_cases hn : len = 0
  · exact ⟨0, 0, fun h => absurd hn h⟩
  · obtain ⟨b, o, e, _⟩ := h2.now.2 hn
    exact ⟨b, o, fun _ => e⟩
theorem J.shapeX {x : Code} {xs : List Ex} {v : Value} (h : ExsR xs v ∈ Φ) (hj : ∀ (ps : List (Cel exE)) (a : Option Addr) (len cap b o : Nat), ps.map Cel.x = xs → v = .slice a len cap → ps.length = len → (len ≠ 0 → a = some ⟨b, o, none⟩) → J P c K L (RowG Cel.cs 8 ps a len :: CelF exE ps :: Φ) x Q) : J P c K L Φ x Q := by
 refine ⟨fun X a' w hs => ?_⟩
 obtain ⟨ps, a, len, cap, h1, h2, h3, ⟨b, o, h4⟩, h5, h6⟩ := Zhe (hs.f _ h)
 refine (hj ps a len cap b o h1 h2 h3 h4).out X a' w (SA.more hs [_, _] fun F hF => ?_)
 simp only [List.mem_cons, List.mem_nil_iff, or_false] at hF
 rcases hF with rfl | rfl
 · exact h5
 · exact h6
theorem J.shapeE {α : Type} {E : Enc α} {G : GoS} {x : Code} {xs : List α} {v : Value} (h : SlE E G xs v ∈ Φ) (hj : ∀ (ps : List (Cel E)) (a : Option Addr) (len cap b o : Nat), ps.map Cel.x = xs → v = .slice a len cap → ps.length = len → (len ≠ 0 → a = some ⟨b, o, none⟩) → J P c K L (RowG Cel.cs E.sz ps a len :: CelF E ps :: Φ) x Q) : J P c K L Φ x Q := by
 refine ⟨fun X a' w hs => ?_⟩
 obtain ⟨ps, a, len, cap, h1, h2, _, h3, ⟨b, o, h4⟩, h5, h6, _⟩ := ZdP (hs.f _ h)
 refine (hj ps a len cap b o h1 h2 h3 h4).out X a' w (SA.more hs [_, _] fun F hF => ?_)
 simp only [List.mem_cons, List.mem_nil_iff, or_false] at hF
 rcases hF with rfl | rfl
 · exact h5
 · exact h6
theorem JO.apA {α : Type} {en : α → List Value} {sz : Nat} {L' : List Own} {d : Nat} {ops : Array Oper} {rest : List Oper} {ty t tx e : TypeId} {pos : String} {after : Array Edge} {s x : Operand} {bytes cap : Nat} {xs : List α} (ys : List α) {st : Option (Nat × List Value)} {TX : Ty} {C : Option (Nat × List Value) → List Own}
    (hT : ApTy P t e sz bytes) (hen : ∀ x, (en x).length = sz) (hC : Cx e L st C L') (hG : Grows en sz xs st cap) (h0 : opTy K s = some (.is (sliceO st xs.length cap))) (hx : opTy K x = some TX) (hS : ∀ L, SrcOf P L Φ sz tx TX ys.length (ys.flatMap en)) (hfit : (xs.length + ys.length) * bytes ≤ 140737488355328) (h63 : xs.length + ys.length ≤ 9223372036854775807) (hd : Nat.blt d c.n = true)
    (hn : ∀ (st' : Option (Nat × List Value)) (cap' : Nat), Grows en sz (xs ++ ys) st' cap' → JO P c ((d, .is (sliceO st' (xs ++ ys).length cap')) :: K) (C st') Φ ops rest Q) :
    JO P c K L Φ ops (⟨some d, .call { callee := .builtin .append, args := #[s, x], argTypes := #[t, tx] }, ty, pos, after, none⟩ :: rest) Q := by
  cases st with
  | some p => exact JO.apSL ys hT hC hG h0 hx (hS _) hfit h63 hd fun p' cap' hG' => hn _ _ hG'
  | none =>
    have hxs : xs = [] := hG
    subst hxs
    simp only [List.length_nil, Nat.zero_add, List.nil_append] at hfit h63 hn
    refine JO.subL hC.tl.perm ?_
    refine JO.apN ys hT h0 hx (hS _) hfit h63 hd fun st' cap' hG' => ?_
    exact JO.subL (hC.back st') (hn _ _ hG')
end
end Go.Pz
namespace Go.Pz
open Go Go.Vc
mutual
def ect : Ex → Nat
 | .mk _ _ _ _ _ _ _ kids => ects kids + 1
def ects : List Ex → Nat
 | [] => 0
 | x :: xs => ect x + ects xs
end
theorem Z4q (x : Ex) : ect x = ects x.KS + 1 := by cases x; rw [ect]; rfl
theorem Z7M {xs : List Ex} {x : Ex} (h : x ∈ xs) : ect x ≤ ects xs := by
  induction xs with
  | nil => cases h
  | cons y ys ih =>
    rw [ects]
    rcases List.mem_cons.1 h with rfl | h
    · omega
    · have := ih h; omega
theorem Zcb (xs : List Ex) : xs.length ≤ ects xs := by
  induction xs with
  | nil => exact Nat.zero_le _
  | cons y ys ih => 
    rw [ects, List.length_cons]
    have : 1 ≤ ect y := by rw [Z4q]; omega
    omega
mutual
theorem ZhH : ∀ x : Ex, hgt x ≤ ect x
 | .mk _ _ _ _ _ _ _ kids => by rw [hgt, ect]; have := Z8j kids; omega
theorem Z8j : ∀ xs : List Ex, hgts xs ≤ ects xs
 | [] => by rw [hgts, ects]; exact Nat.le_refl _
 | x :: xs => by rw [hgts, ects]; have := ZhH x; have := Z8j xs; omega
end
def Hb (p : Ps Ex) : Prop := ∀ ts z, p ts = some z → ect z.1 + z.2.length ≤ ts.length
theorem Z3c (k vk vn : Int) (vs tb nm : ByteArray) (sl : Int) : ect (.mk k vk vn vs tb nm sl []) = 1 := by rw [ect, ects]
theorem Z9P (k : Int) (x : Ex) : ect (nd k [x]) = ect x + 1 := by rw [ect, ects, ects]
theorem Zh2 (k : Int) (x y : Ex) : ect (nd k [x, y]) = ect x + ect y + 1 := by rw [ect, ects, ects, ects]; omega
theorem Zbs {part : Ps Ex} {k : Int} {ops : List (ByteArray × Int)} (hp : Hb part) {M : Nat} : ∀ (n : Nat) (x : Ex) (ts : List T3) (z : Ex × List T3), ect x + ts.length ≤ M → chainG part k ops n x ts = some z → ect z.1 + z.2.length ≤ M
  | 0, x, ts, z, hM, h => by rw [chainG] at h; injection h with h; subst h; exact hM
  | n + 1, x, ts, z, hM, h => by
    rw [chainG] at h
    split at h
    · injection h with h; subst h; exact hM
    · rename_i q hq
      obtain ⟨y, h1, h2⟩ := bnd h
      have h3 := hp _ _ h1
      have h4 := (Z3I hq).2
      have h5 : 1 ≤ ect y.1 := by
        obtain ⟨y1, y2⟩ := y
        cases y1; rw [ect]; omega
      refine Zbs hp n _ _ _ ?_ h2
      rw [Zh2]; omega
theorem Z7P {part : Ps Ex} {k : Int} {ops : List (ByteArray × Int)} (hp : Hb part) : Hb (chainP part k ops) := fun ts z h => by
 obtain ⟨y, h1, h2⟩ := bnd h
 exact Zbs hp _ _ _ _ (hp _ _ h1) h2
section
variable {e : Ps Ex} (he : Hb e)
include he
theorem ZiY : Hb (kwP e) := fun ts z h => by
  obtain ⟨y, h1, h2⟩ := bnd h
  have h3 := (ZP 1 _ _ h1).2
  split at h2
  · injection h2 with h2; subst h2; rw [Z3c]; dsimp only; omega
  split at h2
  · injection h2 with h2; subst h2; rw [Z3c]; dsimp only; omega
  split at h2
  · injection h2 with h2; subst h2; rw [Z3c]; dsimp only; omega
  split at h2
  · cases h2
  obtain ⟨u, h4, h5⟩ := bnd h2
  have h6 := (Zh _ _ _ _ h4).2
  split at h5
  · rename_i hi
    simp only [Bool.and_eq_true] at hi
    obtain ⟨v, h7, rfl⟩ := mpd h5
    have h8 := (Zh _ _ _ _ h7).2
    have h9 := (Zr hi.2).2
    rw [Z3c]; dsimp only; omega
  · obtain ⟨x, h7, h8⟩ := bnd h5
    obtain ⟨v, h9, rfl⟩ := mpd h8
    have h10 := he _ _ h7
    have h11 := (Zh _ _ _ _ h9).2
    dsimp only
    rw [Z9P]; omega
theorem Zga : Hb (atomP e) := fun ts z h => by
  cases ts with
  | nil => cases h
  | cons t r =>
    rw [atomP] at h
    split at h
    · injection h with h; subst h; rw [Z3c]; simp only [List.length_cons]; omega
    split at h
    · injection h with h; subst h; rw [Z3c]; simp only [List.length_cons]; omega
    split at h
    · split at h
      · rename_i hi
        obtain ⟨v, h7, rfl⟩ := mpd h
        have h8 := (ZE _ _ h7).2
        have h9 := (Zr hi).2
        rw [Z3c]; simp only [List.length_cons]; omega
      · injection h with h; subst h; rw [Z3c]; simp only [List.length_cons]; omega
    split at h
    · exact ZiY he _ _ h
    · obtain ⟨u, h4, h5⟩ := bnd h
      obtain ⟨x, h7, h8⟩ := bnd h5
      obtain ⟨v, h9, rfl⟩ := mpd h8
      have h10 := he _ _ h7
      have h11 := (Zh _ _ _ _ h9).2
      have h12 := (Zh _ _ _ _ h4).2
      dsimp only; omega
theorem ZaM : ∀ (ts : List T3) (z : Ex × List T3), factorP e ts = some z → ect z.1 + z.2.length ≤ ts.length
  | [], z, h => by rw [factorP] at h; cases h
  | t :: r, z, h => by
    rw [factorP] at h
    split at h
    · obtain ⟨v, h7, rfl⟩ := mpd h
      have := ZaM r v h7
      dsimp only
      rw [Z9P]; simp only [List.length_cons]; omega
    · exact Zga he _ _ h
theorem Zho : Hb (prodP e) := Z7P (ZaM he)
theorem Zbv : Hb (sumP e) := Z7P (Zho he)
theorem ZfI {x : Ex} {ts : List T3} {z : Ex × List T3} {M : Nat} (hM : ect x + ts.length ≤ M) (h : cmpP e x ts = some z) : ect z.1 + z.2.length ≤ M := by
  unfold cmpP at h
  split at h
  · rename_i q hq
    obtain ⟨v, h7, rfl⟩ := mpd h
    have h8 := Zbv he _ _ h7
    have h9 := (Z3I hq).2
    have h5 : 1 ≤ ect v.1 := by
      obtain ⟨y1, y2⟩ := v
      cases y1; rw [ect]; omega
    dsimp only
    rw [Zh2]; omega
  · split at h
    · rename_i hi
      have h9 := (Zr hi).2
      split at h
      · rename_i hj
        obtain ⟨v, h7, rfl⟩ := mpd h
        have h8 := (Zh _ _ _ _ h7).2
        have h10 := (Zr hj).2
        dsimp only
        rw [Z9P]; omega
      · obtain ⟨v, h7, rfl⟩ := mpd h
        have h8 := (Zh _ _ _ _ h7).2
        dsimp only
        rw [Z9P]; omega
    · injection h with h; subst h; exact hM
theorem Zex : ∀ (ts : List T3) (z : Ex × List T3), notP e ts = some z → ect z.1 + z.2.length ≤ ts.length
  | [], z, h => by
    rw [notP] at h
    obtain ⟨y, h1, h2⟩ := bnd h
    exact ZfI he (Zbv he _ _ h1) h2
  | t :: r, z, h => by
    rw [notP] at h
    split at h
    · obtain ⟨v, h7, rfl⟩ := mpd h
      have := Zex r v h7
      dsimp only
      rw [Z9P]; simp only [List.length_cons]; omega
    · obtain ⟨y, h1, h2⟩ := bnd h
      exact ZfI he (Zbv he _ _ h1) h2
theorem ZiZ : Hb (orP e) := Z7P (Z7P (Zex he))
end
theorem Za6 : ∀ n, Hb (exprP n)
 | 0, ts, z, h => by cases h
 | n + 1, ts, z, h => ZiZ (Za6 n) ts z h
def HB (M : Nat) (x : Ex) : Prop := ect x ≤ M
theorem Zjm {e : Ps Ex} (he : Hb e) {M : Nat} {ts : List T3} {z : Ex × List T3} (hM : ts.length ≤ M) (h : e ts = some z) : HB M z.1 := by
 have := he _ _ h
 unfold HB; omega
def Pb {α : Type} (f : α → List Ex) (M : Nat) (p : Ps α) : Prop := ∀ ts z, ts.length ≤ M → p ts = some z → ∀ x ∈ f z.1, ect x ≤ M
theorem Zd9 {α : Type} {f : α → List Ex} {M : Nat} {p : Ps α} (hd : Dn0 p) (h : Pb f M p) : ∀ n ts z, ts.length ≤ M → listG p n ts = some z → ∀ y ∈ z.1, ∀ x ∈ f y, ect x ≤ M
  | 0, ts, z, _, hz => by rw [listG] at hz; injection hz with hz; subst hz; intro y hy; cases hy
  | n + 1, ts, z, hM, hz => by
    rw [listG] at hz
    split at hz
    · rename_i hi
      obtain ⟨w, h1, h2⟩ := bnd hz
      obtain ⟨y, h3, rfl⟩ := mpd h2
      have h4 := (Zr hi).2
      have h5 := (hd _ _ h1).length_le
      intro v hv
      rcases List.mem_cons.1 hv with rfl | hv
      · exact h _ _ (by omega) h1
      · exact Zd9 hd h n _ _ (by omega) h3 v hv
    · injection hz with hz; subst hz; intro y hy; cases hy
theorem Z7n {α : Type} {f : α → List Ex} {M : Nat} {p : Ps α} {most : Nat} (hd : Dn0 p) (h : Pb f M p) {ts : List T3} {z : List α × List T3} (hM : ts.length ≤ M) (hz : listP most p ts = some z) : ∀ y ∈ z.1, ∀ x ∈ f y, ect x ≤ M := by
  obtain ⟨w, h1, h2⟩ := bnd hz
  obtain ⟨y, h3, h4⟩ := bnd h2
  have h5 := (hd _ _ h1).length_le
  split at h4
  · injection h4 with h4; subst h4
    intro v hv
    rcases List.mem_cons.1 hv with rfl | hv
    · exact h _ _ hM h1
    · exact Zd9 hd h _ _ _ (by omega) h3 v hv
  · cases h4
theorem leM {a b : List T3} {M : Nat} (h : a <:+ b) (hM : b.length ≤ M) : a.length ≤ M := Nat.le_trans h.length_le hM
section
variable {e : Ps Ex} (hd : Dn e) (he : Hb e) {M : Nat}
include he
theorem e_b : Pb (fun x => [x]) M e := fun ts z hM h x hx => by
 rw [List.mem_singleton.1 hx]
 have := he _ _ h; omega
theorem Z9o {ts : List T3} {z : List Ex × List T3} (hM : ts.length ≤ M) (h : whereP e ts = some z) : ∀ x ∈ z.1, ect x ≤ M := by
  unfold whereP at h
  split at h
  · rename_i hi
    obtain ⟨v, h5, rfl⟩ := mpd h
    intro x hx
    rw [List.mem_singleton.1 hx]
    have := he _ _ h5
    have := (Zr hi).2
    omega
  · injection h with h; subst h; intro x hx; cases hx
include hd
theorem ZdC {most : Nat} {ts : List T3} {z : List Ex × List T3} (hM : ts.length ≤ M) (h : listP most e ts = some z) : ∀ x ∈ z.1, ect x ≤ M := fun x hx => Z7n hd.le (e_b he) hM h x hx x List.mem_cons_self
theorem Zgk : Pb (fun l => l) M (withinP e) := fun ts z hM h => by
 obtain ⟨a, h1, h2⟩ := bnd h
 obtain ⟨l, h3, h4⟩ := bnd h2
 obtain ⟨v, h5, rfl⟩ := mpd h4
 exact ZdC (z := l) hd he (leM (Zh _ _ _ _ h1).1 hM) h3
theorem ZbB : ∀ n ts z, ts.length ≤ M → joinsG e n ts = some z → ∀ s ∈ z.1, ∀ x ∈ s.on, ect x ≤ M
  | 0, ts, z, _, hz => by rw [joinsG] at hz; injection hz with hz; subst hz; intro y hy; cases hy
  | n + 1, ts, z, hM, hz => by
    rw [joinsG] at hz
    split at hz
    · obtain ⟨w, h1, h2⟩ := bnd hz
      obtain ⟨y, h3, rfl⟩ := mpd h2
      have h4 := (Z4N hd _ _ h1).1
      have h5 := Z3H 1 ZT ts
      intro v hv
      rcases List.mem_cons.1 hv with rfl | hv
      · obtain ⟨a, g1, g2⟩ := bnd h1
        obtain ⟨s, g3, g4⟩ := bnd g2
        obtain ⟨b, g5, g6⟩ := bnd g4
        obtain ⟨x, g7, g8⟩ := mpd g6
        subst g8
        have h6 : b.2.length ≤ M := leM ((Zh _ _ _ _ g5).1.trans ((Z3L _ _ g3).1.trans ((Zh _ _ _ _ g1).1.trans h5))) hM
        intro y hy
        rw [List.mem_singleton.1 hy]
        have := he _ _ g7; omega
      · exact ZbB n _ _ (leM (h4.trans h5) hM) h3 v hv
    · injection hz with hz; subst hz; intro y hy; cases hy
theorem ZdO {ts : List T3} {z : St × List T3} (hM : ts.length ≤ M) (h : stmtP e ts = some z) : ∀ x ∈ exsOf z.1, ect x ≤ M := by
  unfold stmtP at h
  obtain ⟨w, h1, h⟩ := bnd h
  have hw : w.2.length ≤ M := leM (ZP 1 _ _ h1).1 hM
  split at h
  · unfold createP at h
    split at h
    · obtain ⟨n, _, h⟩ := bnd h
      obtain ⟨c, _, rfl⟩ := mpd h
      intro x hx; simp [exsOf, stK] at hx
    · obtain ⟨_, _, h⟩ := bnd h
      obtain ⟨_, _, h⟩ := bnd h
      obtain ⟨_, _, h⟩ := bnd h
      obtain ⟨_, _, h⟩ := bnd h
      obtain ⟨_, _, h⟩ := bnd h
      obtain ⟨_, _, h⟩ := bnd h
      obtain ⟨_, _, h⟩ := bnd h
      split at h
      · obtain ⟨v, _, rfl⟩ := mpd h
        intro x hx; simp [exsOf, stK] at hx
      · injection h with h; subst h
        intro x hx; simp [exsOf, stK] at hx
  split at h
  · obtain ⟨a, g1, h⟩ := bnd h
    obtain ⟨n, g2, h⟩ := bnd h
    have h3 : n.2.length ≤ M := leM ((ZE _ _ g2).1.trans (Zh _ _ _ _ g1).1) hw
    have rows : ∀ tb ns us z, us.length ≤ M → insRows e tb ns us = some z → ∀ x ∈ exsOf z.1, ect x ≤ M := fun tb ns us z hu h => by
      obtain ⟨a, k1, h⟩ := bnd h
      obtain ⟨r, k2, rfl⟩ := mpd h
      have := Z7n (Z2t hd.le).le (Zgk hd he) (leM (Zh _ _ _ _ k1).1 hu) k2
      intro x hx
      simp [exsOf, stK] at hx
      obtain ⟨l, hl, hx⟩ := hx
      exact this l hl x hx
    split at h
    · obtain ⟨l, g3, h⟩ := bnd h
      exact rows _ _ _ _ (leM (Z2t ZE.le _ _ g3).1 h3) h
    · exact rows _ _ _ _ h3 h
  split at h
  · obtain ⟨i, g1, h⟩ := bnd h
    obtain ⟨a, g2, h⟩ := bnd h
    obtain ⟨s, g3, h⟩ := bnd h
    obtain ⟨j, g4, h⟩ := bnd h
    have hi : Pb (fun i : Itm => [i.ex]) M (itemP e) := fun us z hu h => by
      unfold itemP at h
      split at h
      · injection h with h; subst h
        intro x hx
        rename_i ht
        rw [List.mem_singleton.1 hx]
        have := (Zr ht).2
        show ect (.mk 0 0 0 em em em 0 []) ≤ M
        rw [Z3c]; omega
      · obtain ⟨v, h5, rfl⟩ := mpd h
        intro x hx
        rw [List.mem_singleton.1 hx]
        have := he _ _ h5
        dsimp only; omega
    have hk : Pb (fun k : Ky => [k.ex]) M (keyP e) := fun us z hu h => by
      obtain ⟨v, h5, h6⟩ := mpd h
      have := he _ _ h5
      split at h6 <;> subst h6 <;> intro x hx <;> rw [List.mem_singleton.1 hx] <;> dsimp only <;> omega
    have b1 := Z7n (Z50 hd).le hi hw g1
    have m1 := leM (Z26 (Z50 hd).le 16 _ _ g1) hw
    have m2 := leM (Zh _ _ _ _ g2).1 m1
    have m3 := leM (Z3L _ _ g3).1 m2
    have b2 := ZbB hd he _ _ _ m3 g4
    split at h
    · obtain ⟨w2, k1, h⟩ := bnd h
      obtain ⟨g, k2, h⟩ := bnd h
      obtain ⟨o, k3, h⟩ := bnd h
      obtain ⟨l, k4, rfl⟩ := mpd h
      have m4 : j.2.length ≤ M := by
        have : ∀ n us z, joinsG e n us = some z → z.2 <:+ us := fun n => by
          induction n with
          | zero => intro us z h; rw [joinsG] at h; injection h with h; subst h; exact List.suffix_refl us
          | succ n ih =>
            intro us z h
            rw [joinsG] at h
            split at h
            · obtain ⟨w, h1, h2⟩ := bnd h
              obtain ⟨y, h3, rfl⟩ := mpd h2
              exact (ih _ _ h3).trans ((Z4N hd _ _ h1).1.trans (Z3H _ _ _))
            · injection h with h; subst h; exact List.suffix_refl us
        exact leM (this _ _ _ g4) m3
      have b3 := Z9o he m4 k1
      have m5 : w2.2.length ≤ M := by
        unfold whereP at k1
        split at k1
        · rename_i ht
          obtain ⟨v, h5, rfl⟩ := mpd k1
          exact leM ((hd _ _ h5).1.trans (Zr ht).1) m4
        · injection k1 with k1; subst k1; exact m4
      have b4 : ∀ x ∈ g.1, ect x ≤ M ∧ True := fun x hx => by
        unfold groupP at k2
        split at k2
        · rename_i ht
          obtain ⟨a, q1, q2⟩ := bnd k2
          exact ⟨ZdC hd he (leM ((Zh _ _ _ _ q1).1.trans (Zr ht).1) m5) q2 x hx, trivial⟩
        · injection k2 with k2; subst k2; cases hx
      have m6 : g.2.length ≤ M := by
        unfold groupP at k2
        split at k2
        · rename_i ht
          obtain ⟨a, q1, q2⟩ := bnd k2
          exact leM ((Z26 hd.le 16 _ _ q2).trans ((Zh _ _ _ _ q1).1.trans (Zr ht).1)) m5
        · injection k2 with k2; subst k2; exact m5
      have b5 : ∀ k ∈ o.1, ect k.ex ≤ M := fun k hx => by
        unfold orderP at k3
        split at k3
        · rename_i ht
          obtain ⟨a, q1, q2⟩ := bnd k3
          exact Z7n (Z54 hd).le hk (leM ((Zh _ _ _ _ q1).1.trans (Zr ht).1) m6) q2 k hx _ List.mem_cons_self
        · injection k3 with k3; subst k3; cases hx
      have hs : s.1.on = [] := by
        unfold sourceP at g3
        obtain ⟨n, _, g3⟩ := bnd g3
        split at g3
        · obtain ⟨m, _, rfl⟩ := mpd g3; rfl
        split at g3
        · obtain ⟨m, _, rfl⟩ := mpd g3; rfl
        · injection g3 with g3; subst g3; rfl
      intro x hx
      simp [exsOf, stK, hs] at hx
      rcases hx with ⟨a, ha, rfl⟩ | ⟨_, ⟨a, ha, rfl⟩, hx⟩ | ⟨a, ha, rfl⟩ | hx | hx
      · exact b1 a ha _ List.mem_cons_self
      · exact b2 a ha x hx
      · exact b5 a ha
      · exact b3 x hx
      · exact (b4 x hx).1
    · cases h
  split at h
  · obtain ⟨n, g1, h⟩ := bnd h
    obtain ⟨a, g2, h⟩ := bnd h
    obtain ⟨l, g3, h⟩ := bnd h
    obtain ⟨w2, g4, rfl⟩ := mpd h
    have hs : Pb (fun k : ByteArray × Ex => [k.2]) M (setP e) := fun us z hu h => by
      obtain ⟨a, h1, h2⟩ := bnd h
      obtain ⟨l, h3, h4⟩ := bnd h2
      obtain ⟨v, h5, rfl⟩ := mpd h4
      intro x hx
      rw [List.mem_singleton.1 hx]
      have := he _ _ h5
      have := (Zh _ _ _ _ h3).2
      have := (ZE _ _ h1).2
      dsimp only; omega
    have m1 := leM ((Zh _ _ _ _ g2).1.trans (ZE _ _ g1).1) hw
    have b1 := Z7n (Z5H hd).le hs m1 g3
    have b2 := Z9o he (leM (Z26 (Z5H hd).le 16 _ _ g3) m1) g4
    intro x hx
    simp [exsOf, stK] at hx
    rcases hx with hx | ⟨a, ha⟩
    · exact b2 x hx
    · exact b1 _ ha _ List.mem_cons_self
  split at h
  · obtain ⟨a, g1, h⟩ := bnd h
    obtain ⟨n, g2, h⟩ := bnd h
    obtain ⟨w2, g3, rfl⟩ := mpd h
    have b2 := Z9o he (leM ((ZE _ _ g2).1.trans (Zh _ _ _ _ g1).1) hw) g3
    intro x hx
    simp [exsOf, stK] at hx
    exact b2 x hx
  split at h
  · injection h with h; subst h; intro x hx; simp [exsOf, stK] at hx
  split at h
  · injection h with h; subst h; intro x hx; simp [exsOf, stK] at hx
  split at h
  · injection h with h; subst h; intro x hx; simp [exsOf, stK] at hx
  · cases h
end
end Go.Pz
set_option maxRecDepth 20000
namespace Go.Proofs.YtbedigkncjbggaaGreatDoor
open Go Go.Vc
open Go.Pz
abbrev hgK (xs : List Ex) (i : Nat) : Nat := hgts (xs.take i)
theorem Zf4 (xs : List Ex) (x : Ex) : hgts (xs ++ [x]) = max (hgts xs) (hgt x) := by
 induction xs with
 | nil => simp [hgts]
 | cons y ys ih => rw [List.cons_append, hgts, hgts, ih]; omega
theorem Zgc {xs : List Ex} {i : Nat} (h : i < xs.length) : hgK xs (i + 1) = max (hgK xs i) (hgt (xs.getD i ex0)) := by
 show hgts (xs.take (i + 1)) = _
 rw [List.take_add_one, List.getElem?_eq_getElem h, Option.toList_some, Zf4, List.getD_eq_getElem?_getD, List.getElem?_eq_getElem h]
 rfl
theorem ZbX (x : Ex) : hgt x = hgts x.KS + 1 := by cases x; rw [hgt]; rfl
theorem Z7A {xs : List Ex} {i : Nat} (h : i < xs.length) : xs.getD i ex0 ∈ xs := by
 rw [List.getD_eq_getElem?_getD, List.getElem?_eq_getElem h]; exact List.getElem_mem h
theorem Z7E {xs : List Ex} {i : Nat} (h : i < xs.length) : xs[i]? = some (xs.getD i ex0) := by
 rw [List.getD_eq_getElem?_getD, List.getElem?_eq_getElem h]; rfl
theorem Z83 (x : Ex) (hx : ect x ≤ 4096) (ih : ∀ y ∈ x.KS, CallTy Tryz.prog Z4R [.rep (ExR y)] (.is (.int .i64 (hgt y : Nat)))) : CallTy Tryz.prog Z4R [.rep (ExR x)] (.is (.int .i64 (hgt x : Nat))) :=
 CallTy.of (fn := Tryz.f66) Tryz.func66 (n := 20) rfl rfl rfl (fun _ _ => by kernel_rfl) fun E W => by
 have hlen := Zcb x.KS
 rw [Z4q] at hx
 have hhx := Z8j x.KS
 refine J.openA (s := 0) rfl (fun a0 l0 q0 b0 o0 hl0 ha0 => ?_)
 subst hl0
 repeat apply Sq
 apply Pn
 refine JO.box rfl rfl fun b1 => ?_
 refine Jt (Z2 rfl) rfl ?_
 apply Ni
 repeat first | apply Nx | apply Nb
 refine Sl [1] (.cons rfl .nil) ?_
 repeat apply Sq
 apply Pn
 refine Jt (Z2 rfl) rfl ?_
 apply Ni
 repeat first | apply Nx | apply Nb
 refine Sl [1, 3] (.cons rfl (.cons rfl .nil)) ?_
 repeat apply Sq
 apply Pn
 refine Jt (Z1 Z5n rfl) rfl ?_
 refine Jt (Z4 Zt rfl rfl) rfl ?_
 refine Jt (Zq Zn rfl) rfl ?_
 refine Jt (Z0 rfl) rfl ?_
 apply Ni
 repeat first | apply Nx | apply Nb
 refine Sl [3, 7, 8, 9] (.cons rfl (.cons rfl (.cons rfl (.cons rfl .nil)))) ?_
 repeat apply Sq
 apply Bk
 repeat apply Sq
 refine J.loopG (α := Nat) (fun i => [(3, .is (.int .i64 (hgK x.KS i : Nat))), (7, .is (.slice a0 x.KS.length q0)), (8, .is (.int .i64 (x.KS.length : Nat))), (9, .is (.int .i64 (i : Nat)))]) (fun i => [⟨b1, Z6, .is (.agg (exCells x.K x.VK x.VN x.VS x.TB x.NM x.SL a0 x.KS.length q0).toArray)⟩]) (fun i => fun _ => True) (fun i => i ≤ x.KS.length) (fun i => x.KS.length - i) 0 [3, 7, 8, 9] (.cons rfl (.cons rfl (.cons rfl (.cons rfl .nil)))) rfl (fun _ => trivial) (by omega) fun i hi => ?_
 try dsimp only
 try dsimp only at hi
 repeat apply Sq
 apply Pn
 refine Jt (Z1h rfl rfl) rfl ?_
 apply Ni
 repeat first | apply Nx | apply Nb
 refine Sl [3, 7, 8, 9, 10] (.cons rfl (.cons rfl (.cons rfl (.cons rfl (.cons rfl .nil))))) ?_
 repeat apply Sq
 refine Cd rfl (fun ht10 => ?_) (fun ht10 => ?_)
 ·
  try simp only [dT, dF] at ht10
  apply Sk
  repeat first | apply Nx | apply Nb
  repeat apply Sq
  apply Bk
  repeat apply Sq
  apply Pn
  refine Jt (Za Z2z rfl (ha0 (by omega)) rfl (by omega) (by omega)) rfl ?_
  refine Jt (Z5D (kid := x.KS.getD i ex0) Ze rfl (by repeat first | exact Mh | apply Mt) (ha0 (by omega)) (Z7E (by omega)) (by omega)) rfl ?_
  refine JO.alloc Z16 rfl fun b5 => ?_
  refine JO.m (Z3 rfl rfl (by repeat first | exact .here | apply Ut) (by first | exact cI rfl rfl | exact cE) (by first | exact cI rfl rfl | exact cE | exact cO) Zo) (by rfl) ?_
  apply Ni
  repeat first | apply Nx | apply Nb
  refine Sl [3, 5, 7, 8, 9] (.cons rfl (.cons rfl (.cons rfl (.cons rfl (.cons rfl .nil))))) ?_
  repeat apply Sq
  apply Pn
  refine Jt (Z0 rfl) rfl ?_
  refine Jt (Z2M Ze rfl) rfl ?_
  refine Jt (ZK rfl (ih _ (Z7A (by omega))) (.one rfl .nil)) rfl ?_
  refine Jt (Zhk (cc := ((hgK x.KS (i + 1) : Nat) : Int)) rfl rfl (by rw [Zgc (by omega)]; split <;> omega)) rfl ?_
  refine Jt (Z2 rfl) rfl ?_
  apply Ni
  repeat first | apply Nx | apply Nb
  refine Sl [3, 7, 8, 9] (.cons rfl (.cons rfl (.cons rfl (.cons rfl .nil)))) ?_
  repeat apply Sq
  apply Pn
  refine Jt (ZB (cc := ((i + 1 : Nat) : Int)) rfl rfl (by omega) (by omega) (by have := hlen; omega)) rfl ?_
  refine Jt (Z0 rfl) rfl ?_
  apply Ni
  repeat refine JX.normal_block ?_
  refine JX.roundG (x := i) (i + 1) ?_ ?_ [3, 7, 8, 9] ?_ ?_ ?_ ?_
  · exact (by omega)
  · exact (by omega)
  · exact (.cons rfl (.cons rfl (.cons rfl (.cons rfl .nil))))
  · repeat (first | exact .all | exact .nil | refine Has.own (by repeat first | exact .here | apply Tl.past | apply Tl.there) ?_ | refine Has.cons (by repeat (first | exact .here | apply Pk.past | apply Pk.there)) ?_)
  · exact fun G hG => by repeat (first | exact hG | refine List.mem_cons_of_mem _ ?_)
  · exact fun _ _ _ => fun _ _ => trivial
 ·
  try simp only [dT, dF] at ht10
  repeat apply Sq
  refine J.exit ?_
  repeat first | refine Ht ?_ | refine Ms rfl ?_ | refine Ep ?_
  repeat first | apply Nx | apply Nb
  repeat apply Sq
  apply Pn
  refine Jt (Z0 rfl) rfl ?_
  refine Jt (ZB (cc := ((hgt x : Nat) : Int)) rfl rfl (by rw [ZbX, show i = x.KS.length by omega, hgK, List.take_length]; omega) (by have := ZbX x; omega) (by have := ZbX x; omega)) rfl ?_
  refine Jt (Z2 rfl) rfl ?_
  apply Ni
  repeat first | apply Nx | apply Nb
  refine Sl [2] (.cons rfl .nil) ?_
  repeat apply Sq
  apply Rt
  repeat first | apply Rp | apply Rb
  exact JX.ret1sub rfl rfl rfl (Sub.refl _)
theorem Z72 : ∀ (n : Nat) (x : Ex), ect x ≤ n → ect x ≤ 4096 → CallTy Tryz.prog Z4R [.rep (ExR x)] (.is (.int .i64 (hgt x : Nat)))
 | 0, x, h, _ => absurd h (by rw [Z4q]; omega)
 | n + 1, x, h, hx => Z83 x hx fun y hy => Z72 n y (by have := Z7M hy; rw [Z4q] at h; omega) (by have := Z7M hy; rw [Z4q] at hx; omega)
end Go.Proofs.YtbedigkncjbggaaGreatDoor
namespace Go.Pz
open Go Go.Vc
def SmS (s : St) : Prop := s.rows.length ≤ 32 ∧ (∀ r ∈ s.rows, r.length ≤ 16) ∧ s.items.length ≤ 16 ∧ s.from_.length ≤ 4 ∧ (∀ f ∈ s.from_, f.on.length ≤ 1) ∧ s.order.length ≤ 16 ∧ s.where_.length ≤ 1 ∧ s.group.length ≤ 16 ∧ s.sets.length ≤ 16 ∧ s.cols.length ≤ 16 ∧ s.names.length ≤ 16
theorem Z4o {α : Type} {most : Nat} {p : Ps α} {ts : List T3} {z : List α × List T3} (h : listP most p ts = some z) : z.1.length ≤ most := by
 obtain ⟨w, h1, h2⟩ := bnd h
 obtain ⟨y, h3, h4⟩ := bnd h2
 split at h4
 · injection h4 with h4; subst h4; simpa using ‹_›
 · cases h4
theorem ZeV {α : Type} {F : α → Prop} {most : Nat} {p : Ps α} (hp : ∀ ts z, p ts = some z → F z.1) {ts : List T3} {z : List α × List T3} (h : listP most p ts = some z) : ∀ x ∈ z.1, F x := by
  have key : ∀ n ts z, listG p n ts = some z → ∀ x ∈ z.1, F x := by
    intro n
    induction n with
    | zero => intro ts z h; rw [listG] at h; injection h with h; subst h; intro x hx; cases hx
    | succ n ih =>
      intro ts z h
      rw [listG] at h
      split at h
      · obtain ⟨w, h1, h2⟩ := bnd h
        obtain ⟨y, h3, rfl⟩ := mpd h2
        intro x hx
        rcases List.mem_cons.1 hx with rfl | hx
        · exact hp _ _ h1
        · exact ih _ _ h3 x hx
      · injection h with h; subst h; intro x hx; cases hx
  obtain ⟨w, h1, h2⟩ := bnd h
  obtain ⟨y, h3, h4⟩ := bnd h2
  split at h4
  · injection h4 with h4; subst h4
    intro x hx
    rcases List.mem_cons.1 hx with rfl | hx
    · exact hp _ _ h1
    · exact key _ _ _ h3 x hx
  · cases h4
theorem Z6S {α : Type} {p : Ps α} {ts : List T3} {z : List α × List T3} (h : withinP p ts = some z) : z.1.length ≤ 16 := by
 obtain ⟨a, h1, h2⟩ := bnd h
 obtain ⟨l, h3, h4⟩ := bnd h2
 obtain ⟨v, h5, rfl⟩ := mpd h4
 exact Z4o (z := l) h3
theorem Z7O {e : Ps Ex} {ts : List T3} {z : List Ex × List T3} (h : whereP e ts = some z) : z.1.length ≤ 1 := by
 unfold whereP at h
 split at h
 · obtain ⟨v, h5, rfl⟩ := mpd h; exact Nat.le_refl _
 · injection h with h; subst h; exact Nat.zero_le _
theorem Zfp {e : Ps Ex} : ∀ n ts z, joinsG e n ts = some z → ∀ s ∈ z.1, s.on.length ≤ 1 := by
  intro n
  induction n with
  | zero => intro ts z h; rw [joinsG] at h; injection h with h; subst h; intro x hx; cases hx
  | succ n ih =>
    intro ts z h
    rw [joinsG] at h
    split at h
    · obtain ⟨w, h1, h2⟩ := bnd h
      obtain ⟨y, h3, rfl⟩ := mpd h2
      intro v hv
      rcases List.mem_cons.1 hv with rfl | hv
      · obtain ⟨a, g1, g2⟩ := bnd h1
        obtain ⟨s, g3, g4⟩ := bnd g2
        obtain ⟨b, g5, g6⟩ := bnd g4
        obtain ⟨x, g7, g8⟩ := mpd g6
        subst g8
        exact Nat.le_refl _
      · exact ih _ _ h3 v hv
    · injection h with h; subst h; intro x hx; cases hx
theorem Zbq (k : Int) : SmS (stK k) := by
 refine ⟨Nat.zero_le _, ?_, Nat.zero_le _, Nat.zero_le _, ?_, Nat.zero_le _, Nat.zero_le _, Nat.zero_le _, Nat.zero_le _, Nat.zero_le _, Nat.zero_le _⟩ <;> intro x hx <;> cases hx
theorem Zco {e : Ps Ex} {ts : List T3} {z : St × List T3} (h : stmtP e ts = some z) : SmS z.1 := by
  have n0 : ∀ {α : Type} {p : α → Prop}, ∀ x ∈ ([] : List α), p x := fun x hx => by cases hx
  unfold stmtP at h
  obtain ⟨w, h1, h⟩ := bnd h
  split at h
  · unfold createP at h
    split at h
    · obtain ⟨n, _, h⟩ := bnd h
      obtain ⟨c, hc, rfl⟩ := mpd h
      have := Z6S hc
      exact ⟨Nat.zero_le _, n0, Nat.zero_le _, Nat.zero_le _, n0, Nat.zero_le _, Nat.zero_le _, Nat.zero_le _, Nat.zero_le _, this, Nat.zero_le _⟩
    · obtain ⟨_, _, h⟩ := bnd h
      obtain ⟨_, _, h⟩ := bnd h
      obtain ⟨_, _, h⟩ := bnd h
      obtain ⟨_, _, h⟩ := bnd h
      obtain ⟨_, _, h⟩ := bnd h
      obtain ⟨_, _, h⟩ := bnd h
      obtain ⟨_, _, h⟩ := bnd h
      have one : ∀ x : ByteArray, [x].length ≤ 16 := fun x => by show 1 ≤ 16; omega
      split at h
      · obtain ⟨v, _, rfl⟩ := mpd h
        exact ⟨Nat.zero_le _, n0, Nat.zero_le _, Nat.zero_le _, n0, Nat.zero_le _, Nat.zero_le _, Nat.zero_le _, Nat.zero_le _, Nat.zero_le _, one _⟩
      · injection h with h; subst h
        exact ⟨Nat.zero_le _, n0, Nat.zero_le _, Nat.zero_le _, n0, Nat.zero_le _, Nat.zero_le _, Nat.zero_le _, Nat.zero_le _, Nat.zero_le _, one _⟩
  split at h
  · obtain ⟨a, g1, h⟩ := bnd h
    obtain ⟨n, g2, h⟩ := bnd h
    have rows : ∀ tb ns us z, ns.length ≤ 16 → insRows e tb ns us = some z → SmS z.1 := fun tb ns us z hn h => by
      obtain ⟨a, k1, h⟩ := bnd h
      obtain ⟨r, k2, rfl⟩ := mpd h
      exact ⟨Z4o k2, ZeV (F := fun r => r.length ≤ 16) (fun _ _ h => Z6S h) k2, Nat.zero_le _, Nat.zero_le _, n0, Nat.zero_le _, Nat.zero_le _, Nat.zero_le _, Nat.zero_le _, Nat.zero_le _, hn⟩
    split at h
    · obtain ⟨l, g3, h⟩ := bnd h
      exact rows _ _ _ _ (Z6S g3) h
    · exact rows _ _ _ _ (Nat.zero_le _) h
  split at h
  · obtain ⟨i, g1, h⟩ := bnd h
    obtain ⟨a, g2, h⟩ := bnd h
    obtain ⟨s, g3, h⟩ := bnd h
    obtain ⟨j, g4, h⟩ := bnd h
    split at h
    · rename_i hj
      obtain ⟨w2, k1, h⟩ := bnd h
      obtain ⟨g, k2, h⟩ := bnd h
      obtain ⟨o, k3, h⟩ := bnd h
      obtain ⟨l, k4, rfl⟩ := mpd h
      refine ⟨Nat.zero_le _, n0, Z4o g1, ?_, ?_, ?_, Z7O k1, ?_, Nat.zero_le _, Nat.zero_le _, Nat.zero_le _⟩
      · show (s.1 :: j.1).length ≤ 4
        rw [List.length_cons]; exact hj
      · intro f hf
        rcases List.mem_cons.1 hf with rfl | hf
        · rw [ZaR g3]; exact Nat.zero_le _
        · exact Zfp _ _ _ g4 f hf
      · unfold orderP at k3
        split at k3
        · obtain ⟨a, q1, q2⟩ := bnd k3
          exact Z4o q2
        · injection k3 with k3; subst k3; exact Nat.zero_le _
      · unfold groupP at k2
        split at k2
        · obtain ⟨a, q1, q2⟩ := bnd k2
          exact Z4o q2
        · injection k2 with k2; subst k2; exact Nat.zero_le _
    · cases h
  split at h
  · obtain ⟨n, g1, h⟩ := bnd h
    obtain ⟨a, g2, h⟩ := bnd h
    obtain ⟨l, g3, h⟩ := bnd h
    obtain ⟨w2, g4, rfl⟩ := mpd h
    have hl := Z4o g3
    refine ⟨Nat.zero_le _, n0, Nat.zero_le _, Nat.zero_le _, n0, Nat.zero_le _, Z7O g4, Nat.zero_le _, ?_, Nat.zero_le _, ?_⟩
    · show (l.1.map (·.2)).length ≤ 16
      rw [List.length_map]; exact hl
    · show (l.1.map (·.1)).length ≤ 16
      rw [List.length_map]; exact hl
  split at h
  · obtain ⟨a, g1, h⟩ := bnd h
    obtain ⟨n, g2, h⟩ := bnd h
    obtain ⟨w2, g3, rfl⟩ := mpd h
    exact ⟨Nat.zero_le _, n0, Nat.zero_le _, Nat.zero_le _, n0, Nat.zero_le _, Z7O g3, Nat.zero_le _, Nat.zero_le _, Nat.zero_le _, Nat.zero_le _⟩
  split at h
  · injection h with h; subst h; exact Zbq 7
  split at h
  · injection h with h; subst h; exact Zbq 8
  split at h
  · injection h with h; subst h; exact Zbq 9
  · cases h
theorem Zfn {e : Ps Ex} (hd : Dn e) : ∀ n us z, joinsG e n us = some z → z.2 <:+ us := fun n => by
  induction n with
  | zero => intro us z h; rw [joinsG] at h; injection h with h; subst h; exact List.suffix_refl us
  | succ n ih =>
    intro us z h
    rw [joinsG] at h
    split at h
    · obtain ⟨w, h1, h2⟩ := bnd h
      obtain ⟨y, h3, rfl⟩ := mpd h2
      exact (ih _ _ h3).trans ((Z4N hd _ _ h1).1.trans (Z3H _ _ _))
    · injection h with h; subst h; exact List.suffix_refl us
theorem Zgx {e : Ps Ex} (hd : Dn e) {ts : List T3} {z : St × List T3} (h : stmtP e ts = some z) : z.2 <:+ ts := by
  unfold stmtP at h
  obtain ⟨w, h1, h⟩ := bnd h
  have hw := (ZP 1 _ _ h1).1
  refine List.IsSuffix.trans ?_ hw
  clear h1 hw
  generalize hg : w.2 = us at h ⊢
  clear hg
  split at h
  · unfold createP at h
    split at h
    · rename_i ht
      obtain ⟨n, g1, h⟩ := bnd h
      obtain ⟨c, hc, rfl⟩ := mpd h
      exact (Z2t Zad.le _ _ hc).1.trans ((ZE _ _ g1).1.trans (Zr ht).1)
    · obtain ⟨_, g1, h⟩ := bnd h
      obtain ⟨_, g2, h⟩ := bnd h
      obtain ⟨_, g3, h⟩ := bnd h
      obtain ⟨_, g4, h⟩ := bnd h
      obtain ⟨_, g5, h⟩ := bnd h
      obtain ⟨_, g6, h⟩ := bnd h
      obtain ⟨_, g7, h⟩ := bnd h
      have hs := (Zh _ _ _ _ g7).1.trans ((ZE _ _ g6).1.trans ((Zh _ _ _ _ g5).1.trans ((ZE _ _ g4).1.trans ((Zh _ _ _ _ g3).1.trans ((ZE _ _ g2).1.trans (Zh _ _ _ _ g1).1)))))
      split at h
      · rename_i ht
        obtain ⟨v, g8, rfl⟩ := mpd h
        exact (Zh _ _ _ _ g8).1.trans ((Zr ht).1.trans hs)
      · injection h with h; subst h; exact hs
  split at h
  · obtain ⟨a, g1, h⟩ := bnd h
    obtain ⟨n, g2, h⟩ := bnd h
    have hs := (ZE _ _ g2).1.trans (Zh _ _ _ _ g1).1
    have rows : ∀ tb ns us z, insRows e tb ns us = some z → z.2 <:+ us := fun tb ns us z h => by
      obtain ⟨a, k1, h⟩ := bnd h
      obtain ⟨r, k2, rfl⟩ := mpd h
      exact (Z26 (Z2t hd.le).le _ _ _ k2).trans (Zh _ _ _ _ k1).1
    split at h
    · obtain ⟨l, g3, h⟩ := bnd h
      exact (rows _ _ _ _ h).trans ((Z2t ZE.le _ _ g3).1.trans hs)
    · exact (rows _ _ _ _ h).trans hs
  split at h
  · obtain ⟨i, g1, h⟩ := bnd h
    obtain ⟨a, g2, h⟩ := bnd h
    obtain ⟨s, g3, h⟩ := bnd h
    obtain ⟨j, g4, h⟩ := bnd h
    have hs := (Zfn hd _ _ _ g4).trans ((Z3L _ _ g3).1.trans ((Zh _ _ _ _ g2).1.trans (Z26 (Z50 hd).le _ _ _ g1)))
    split at h
    · obtain ⟨w2, k1, h⟩ := bnd h
      obtain ⟨g, k2, h⟩ := bnd h
      obtain ⟨o, k3, h⟩ := bnd h
      obtain ⟨l, k4, rfl⟩ := mpd h
      have m1 := (Z6v hd k1).trans hs
      have m2 : g.2 <:+ w2.2 := by
        unfold groupP at k2
        split at k2
        · rename_i ht
          obtain ⟨a, q1, q2⟩ := bnd k2
          exact (Z26 hd.le _ _ _ q2).trans ((Zh _ _ _ _ q1).1.trans (Zr ht).1)
        · injection k2 with k2; subst k2; exact List.suffix_refl _
      have m3 : o.2 <:+ g.2 := by
        unfold orderP at k3
        split at k3
        · rename_i ht
          obtain ⟨a, q1, q2⟩ := bnd k3
          exact (Z26 (Z54 hd).le _ _ _ q2).trans ((Zh _ _ _ _ q1).1.trans (Zr ht).1)
        · injection k3 with k3; subst k3; exact List.suffix_refl _
      have m4 : l.2 <:+ o.2 := by
        unfold limitP at k4
        split at k4
        · rename_i ht
          obtain ⟨v, q1, rfl⟩ := mpd k4
          exact (ZP 3 _ _ q1).1.trans (Zr ht).1
        · injection k4 with k4; subst k4; exact List.suffix_refl _
      exact m4.trans (m3.trans (m2.trans m1))
    · cases h
  split at h
  · obtain ⟨n, g1, h⟩ := bnd h
    obtain ⟨a, g2, h⟩ := bnd h
    obtain ⟨l, g3, h⟩ := bnd h
    obtain ⟨w2, g4, rfl⟩ := mpd h
    exact (Z6v hd g4).trans ((Z26 (Z5H hd).le _ _ _ g3).trans ((Zh _ _ _ _ g2).1.trans (ZE _ _ g1).1))
  split at h
  · obtain ⟨a, g1, h⟩ := bnd h
    obtain ⟨n, g2, h⟩ := bnd h
    obtain ⟨w2, g3, rfl⟩ := mpd h
    exact (Z6v hd g3).trans ((ZE _ _ g2).1.trans (Zh _ _ _ _ g1).1)
  split at h
  · injection h with h; subst h; exact List.suffix_refl _
  split at h
  · injection h with h; subst h; exact List.suffix_refl _
  split at h
  · injection h with h; subst h; exact List.suffix_refl _
  · cases h
theorem Zh1 (p : Cel rwE) : p.cs = [hdv p.cs] := by
  obtain ⟨x, cs, h, o⟩ := p
  match cs, h with
  | [a], _ => rfl
theorem Zdw {ps : List (Cel rwE)} {p : Cel rwE} {w : World} (hp : p ∈ ps) (h : CelF rwE ps w) : ExsR p.x (hdv p.cs) w := by
 obtain ⟨v, hv, hR⟩ := h p hp
 rw [hv]; exact hR
theorem Zf5 (p : Cel itE) : ∃ (u : Value) (q : Cel exE), p.cs = u :: q.cs ∧ q.x = p.x.ex ∧ ∀ ps w, p ∈ ps → CelF itE ps w → CelR q w := by
  obtain ⟨x, cs, h, o⟩ := p
  match cs, h, o with
  | u :: es, h, o =>
    refine ⟨u, ⟨x.ex, es, by simpa [itE, exE] using h, fun v hv => o v (List.mem_cons_of_mem _ hv)⟩, rfl, rfl, fun ps w hp hF => ?_⟩
    obtain ⟨es', he, hR⟩ := hF _ hp
    injection he with he1 he2
    subst he2
    exact hR
theorem Zfo (p : Cel kyE) : ∃ (u : Value) (q : Cel exE), p.cs = q.cs ++ [u] ∧ q.x = p.x.ex ∧ ∀ ps w, p ∈ ps → CelF kyE ps w → CelR q w := by
 obtain ⟨x, cs, h, o⟩ := p
 have h9 : cs.length = 9 := h
 obtain ⟨es, u, rfl⟩ : ∃ es u, cs = es ++ [u] := ⟨cs.dropLast, cs.getLast (by intro e; rw [e] at h9; cases h9), (List.dropLast_concat_getLast _).symm⟩
 refine ⟨u, ⟨x.ex, es, by show es.length = 8; rw [List.length_append, List.length_singleton] at h9; omega, fun v hv => o v (List.mem_append_left _ hv)⟩, rfl, rfl, fun ps w hp hF => ?_⟩
 obtain ⟨es', he, hR⟩ := hF _ hp
 have := List.append_inj' he rfl
 show ExR x.ex (.agg es.toArray) w
 rw [show es = es' from this.1]
 exact hR
theorem ZeZ (p : Cel srE) : ∃ a b v : Value, p.cs = [a, b, v] ∧ ∀ ps w, p ∈ ps → CelF srE ps w → ExsR p.x.on v w := by
  obtain ⟨x, cs, h, o⟩ := p
  match cs, h, o with
  | [a, b, v], h, o =>
    refine ⟨a, b, v, rfl, fun ps w hp hF => ?_⟩
    obtain ⟨v', he, hR⟩ := hF _ hp
    injection he with _ he
    injection he with _ he
    injection he with he _
    subst he
    exact hR
theorem cs8 (q : Cel exE) : ∃ a b c d e f g h : Value, q.cs = [a, b, c, d, e, f, g, h] := by
  obtain ⟨x, cs, h, o⟩ := q
  match cs, h with
  | [a, b, c, d, e, f, g, h], _ => exact ⟨a, b, c, d, e, f, g, h, rfl⟩
section
variable {P : Program} {c : Ctx} {K : List (Nat × Ty)} {L : List Own} {Φ : List (World → Prop)} {Q : Exit → Act → World → Prop}
theorem ZeF {xs : List Ex} {v : Value} {X : Nat → Prop} {w : World} (h : Pers X w (ExsR xs v)) : ∃ (a : Option Addr) (len cap b o : Nat), v = .slice a len cap ∧ xs.length = len ∧ (len ≠ 0 → a = some ⟨b, o, none⟩) ∧ Pers X w (KidsR xs a len) := by
  obtain ⟨a, len, cap, rfl, hk⟩ := h.now
  have hp : Pers X w (KidsR xs a len) := fun w' hk => by
    obtain ⟨a', len', cap', e, h1⟩ := h w' hk
    injection e with e1 e2 e3
    subst e1 e2 e3
    exact h1
  by_cases hn : len = 0
  · exact ⟨a, len, cap, 0, 0, rfl, hk.1, fun h => absurd hn h, hp⟩
  · obtain ⟨b, o, e, _⟩ := hk.2 hn
    exact ⟨a, len, cap, b, o, rfl, hk.1, fun _ => e, hp⟩
theorem J.shapeK {x : Code} {xs : List Ex} {v : Value} (h : ExsR xs v ∈ Φ) (hj : ∀ (a : Option Addr) (len cap b o : Nat), v = .slice a len cap → xs.length = len → (len ≠ 0 → a = some ⟨b, o, none⟩) → J P c K L (KidsR xs a len :: Φ) x Q) : J P c K L Φ x Q := by
 refine ⟨fun X a' w hs => ?_⟩
 obtain ⟨a, len, cap, b, o, h1, h2, h3, h4⟩ := ZeF (hs.f _ h)
 refine (hj a len cap b o h1 h2 h3).out X a' w (SA.more hs [_] fun F hF => ?_)
 rw [List.mem_singleton.1 hF]
 exact h4
theorem J.openNew {y : Code} {s : Nat} {cs : List Value} {e : TypeId} {n cap : Nat} (h : Go.Vc.look K s = some (.newSl (.cells cs.toArray e (0, 0)) n cap)) (hj : ∀ b, J P c ((s, .is (.slice (some ⟨b, 0, none⟩) n cap)) :: K) L (HeapIs b cs e :: Φ) y Q) : J P c K L Φ y Q := by
 refine ⟨fun X a w hs => ?_⟩
 obtain ⟨b, hv, hE, hb⟩ := hs.k s _ h
 refine (hj b).out X a w (hs.tell hv [_] fun F hF => ?_)
 rw [List.mem_singleton.1 hF]
 exact fun w' hk => hk.get hb hE
end
def deepX (s : St) : List (List Ex) := [s.rows.flatten ++ s.items.map (·.ex) ++ (s.from_.map (·.on)).flatten ++ s.order.map (·.ex), s.where_, s.group, s.sets]
abbrev dvs (a b c d : Value) : List Value := [a, b, c, d]
theorem Z7w (s : St) : exsOf s = (deepX s).flatten := by simp [exsOf, deepX]
theorem Zac {α : Type} {c : Nat} {l : List (List α)} (h : ∀ r ∈ l, r.length ≤ c) : l.flatten.length ≤ c * l.length := by
  induction l with
  | nil => simp
  | cons x xs ih =>
    have h1 := h x List.mem_cons_self
    have h2 := ih fun r hr => h r (List.mem_cons_of_mem _ hr)
    rw [List.flatten_cons, List.length_append, List.length_cons, Nat.mul_succ]; omega
theorem ZaI {s : St} (h : SmS s) (k : Nat) : ((deepX s).getD k []).length ≤ 1000 := by
  obtain ⟨h1, h2, h3, h4, h5, h6, h7, h8, h9, _⟩ := h
  match k with
  | 0 =>
    show (s.rows.flatten ++ s.items.map (·.ex) ++ (s.from_.map (·.on)).flatten ++ s.order.map (·.ex)).length ≤ 1000
    have a1 := Zac h2
    have a2 := Zac (c := 1) (l := s.from_.map (·.on)) (by intro r hr; obtain ⟨f, hf, rfl⟩ := List.mem_map.1 hr; exact h5 f hf)
    simp only [List.length_append, List.length_map] at *
    omega
  | 1 => exact Nat.le_trans h7 (by decide)
  | 2 => exact Nat.le_trans h8 (by decide)
  | 3 => exact Nat.le_trans h9 (by decide)
  | k + 4 => exact Nat.zero_le _
theorem Zf3 {s : St} (h : SmS s) : (exsOf s).length ≤ 4096 := by
  rw [Z7w]
  have := Zac (c := 1000) (l := deepX s) (fun r hr => by
    obtain ⟨k, hk, rfl⟩ := List.mem_iff_getElem.1 hr
    have := ZaI h k
    rwa [List.getD_eq_getElem?_getD, List.getElem?_eq_getElem hk] at this)
  have h4 : (deepX s).length = 4 := rfl
  omega
theorem Z8u {s : St} {k : Nat} {y : Ex} (h : y ∈ (deepX s).getD k []) : y ∈ exsOf s := by
 rw [Z7w, List.mem_flatten]
 by_cases hk : k < (deepX s).length
 · exact ⟨_, List.getElem_mem hk, by rwa [List.getD_eq_getElem?_getD, List.getElem?_eq_getElem hk] at h⟩
 · rw [List.getD_eq_getElem?_getD, List.getElem?_eq_none (by omega)] at h; cases h
theorem ZfY {s : St} {k i : Nat} (h : i < ((deepX s).getD k []).length) (hh : 32 < hgt (((deepX s).getD k []).getD i ex0)) : deepS s = true := by
 refine List.any_eq_true.2 ⟨_, Z8u (k := k) (y := ((deepX s).getD k []).getD i ex0) ?_, decide_eq_true hh⟩
 generalize (deepX s).getD k [] = l at *
 rw [List.getD_eq_getElem?_getD, List.getElem?_eq_getElem h]; exact List.getElem_mem h
theorem ZgA {s : St} (h : ∀ k, k < 4 → ∀ i, i < ((deepX s).getD k []).length → ¬ 32 < hgt (((deepX s).getD k []).getD i ex0)) : deepS s = false := by
 unfold deepS
 rw [List.any_eq_false]
 intro x hx
 rw [Z7w, List.mem_flatten] at hx
 obtain ⟨l, hl, hx⟩ := hx
 obtain ⟨k, hk, rfl⟩ := List.mem_iff_getElem.1 hl
 obtain ⟨i, hi, rfl⟩ := List.mem_iff_getElem.1 hx
 have e1 : (deepX s).getD k [] = (deepX s)[k] := by rw [List.getD_eq_getElem?_getD, List.getElem?_eq_getElem hk]; rfl
 have := h k hk i (by rw [e1]; exact hi)
 rw [e1, List.getD_eq_getElem?_getD, List.getElem?_eq_getElem hi] at this
 simpa using this
end Go.Pz
