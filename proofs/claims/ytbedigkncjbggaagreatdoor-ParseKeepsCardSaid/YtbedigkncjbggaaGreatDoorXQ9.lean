/- The parser: a statement. No condition. -/
import Derived.Test.YtbedigkncjbggaaGreatDoorXQ8
import Derived.Test.YtbedigkncjbggaaGreatDoorXQ4
import Derived.Test.YtbedigkncjbggaaGreatDoorXG7
import Derived.Test.YtbedigkncjbggaaGreatDoorXG6
set_option maxRecDepth 20000
namespace Go.Proofs.YtbedigkncjbggaaGreatDoor
open Go Go.Vc
open Go.Pz
theorem Z2s {N : Nat} {st : Pz.St} : Cnt (.rep (StR N st)) 14 := fun E v w h => by
  obtain ⟨vc, vn, vr, vi, vf, vw, vg, vo, vs, rfl, h1, h2, h3, h4, h5, h6, h7, h8, h9⟩ := (h : Pers E w (StR N st v)).now
  have hs : ∀ {α : Type} {En : Enc α} {G : GoS} {xs : List α} {v : Value}, SlE En G xs v w → v.oneCell' = true := fun h => by
    obtain ⟨ps, a, len, cap, _, rfl, _⟩ := h; rfl
  have hx : ∀ {xs : List Ex} {v : Value}, ExsR xs v w → v.oneCell' = true := fun h => by
    obtain ⟨a, len, cap, rfl, _⟩ := h; rfl
  refine ⟨rfl, fun u hu => ?_⟩
  simp only [Value.cells, List.mem_cons, List.mem_nil_iff, or_false] at hu
  rcases hu with rfl | rfl | rfl | rfl | rfl | rfl | rfl | rfl | rfl | rfl | rfl | rfl | rfl | rfl <;> first | rfl | exact hs (by assumption) | exact hx (by assumption)
theorem Z4Y {N : Nat} {st : Pz.St} : ∀ E v w, (Ty.rep (StR N st)).p E v w → ∃ cs, v = .agg cs ∧ cs.size = 14 := fun E v w h => by
 obtain ⟨vc, vn, vr, vi, vf, vw, vg, vo, vs, rfl, _⟩ := (h : Pers E w (StR N st v)).now
 exact ⟨_, rfl, rfl⟩
theorem JO.mapMkS {P : Program} {c : Ctx} {K : List (Nat × Ty)} {L : List Own} {Φ : List (World → Prop)} {Q : Exit → Act → World → Prop} {ops : Array Oper} {rest : List Oper} {d : Nat} {t ty : TypeId} {pos : String} {after : Array Edge} (hd : Nat.blt d c.n = true) (hn : ∀ r, JO P c ((d, .is (.map (some r))) :: K) (⟨r, 0, .ob (sObj [] 0)⟩ :: L) Φ ops rest Q) : JO P c K L Φ ops (⟨some d, .makeMap t none, ty, pos, after, none⟩ :: rest) Q := JO.mapMk hd hn
theorem Z8x {k : Int} {bx : Nat} {X : Nat → Prop} {w : World} (h : Pers X w (PlF k (.func (.func Z1i) #[] #[.pointer (some ⟨bx, 0, none⟩)]))) : Pers X w (HeapIs bx [.int .i64 k] Z3J) := fun w' hk => by
 obtain ⟨by_, e, h1⟩ := h w' hk
 injection e with _ _ e
 injection e with e
 injection e with e _
 injection e with e
 injection e with e
 injection e with e _
 subst e
 exact h1
def stF (b7 b8 b9 : Nat) : SEs := [(Z5t, fv Z2z, 0), (Z4F, fv Z2A, 1), (Z4D, fv Z2L, 2), (Z4A, fv Z2y, 3), (Z4N, fv Z2x, 4), (Z6u, .func (.func Z1i) #[] #[.pointer (some ⟨b7, 0, none⟩)], 5), (Z5y, .func (.func Z1i) #[] #[.pointer (some ⟨b8, 0, none⟩)], 6), (Z4o, .func (.func Z1i) #[] #[.pointer (some ⟨b9, 0, none⟩)], 7)]
theorem Zff {b7 b8 b9 : Nat} {w : ByteArray} (h : (sGet w (stF b7 b8 b9)).isSome = true) : w = Z5t ∨ w = Z4F ∨ w = Z4D ∨ w = Z4A ∨ w = Z4N ∨ w = Z6u ∨ w = Z5y ∨ w = Z4o := by
 simp only [stF, sGet] at h
 repeat' split at h
 all_goals first | (cases h; done) | simp [*]
theorem Zfi {b7 b8 b9 : Nat} {e : Ps Ex} {ts r1 : List T3} {k1 n1 : Int} {w : ByteArray} (hz : takeP 1 ts = some (⟨k1, w, n1⟩, r1)) (h : (sGet w (stF b7 b8 b9)).isSome = false) : stmtP e ts = none := by
 have hne : ∀ s, (s = Z5t ∨ s = Z4F ∨ s = Z4D ∨ s = Z4A ∨ s = Z4N ∨ s = Z6u ∨ s = Z5y ∨ s = Z4o) → ¬ sq w s = true := fun s hs hq => by
  have := Z94 hq
  subst this
  rcases hs with rfl | rfl | rfl | rfl | rfl | rfl | rfl | rfl <;> simp [stF, sGet] at h
 unfold stmtP
 rw [hz, Option.bind_some]
 rw [if_neg (hne _ (by simp)), if_neg (hne _ (by simp)), if_neg (hne _ (by simp)), if_neg (hne _ (by simp)), if_neg (hne _ (by simp)), if_neg (hne _ (by simp)), if_neg (hne _ (by simp)), if_neg (hne _ (by simp))]
attribute [local irreducible] SlE ExsR
theorem Z57 (N : Nat) (T : Tk) (hc : T.ts.length ≤ T.cap) (h9 : T.ts.length ≤ 2049) (b : Nat) (ts : List T3) (hts : ts <:+ T.ts) (M : Nat) (hM : ts.length < M) : CallP Tryz.prog Z34 [PB T b ts] [T.G, AF, NH N] [.is (.pointer (some ⟨b, 0, none⟩))] (stmtP (exprP M) ts = none) flt (fun z : Pz.St × List T3 => stmtP (exprP M) ts = some z) (fun z => [PB T b z.2]) (fun z => .rep (StR N z.1)) :=
CallP.ofN (N := N) (List.mem_cons_of_mem _ (List.mem_cons_of_mem _ List.mem_cons_self)) (fn := Tryz.f26) Tryz.func26 (n := 43) rfl rfl rfl (fun _ _ => by kernel_rfl) fun E W hNW hb0 => by
 repeat apply Sq
 apply Pn
 refine JO.alloc Z14 rfl fun b2 => ?_
 apply Ni
 repeat first | apply Nx | apply Nb
 refine Sl [0, 2] (.cons rfl (.cons rfl .nil)) ?_
 repeat apply Sq
 refine J.regS 17 hmx (by kernel_rfl) (by kernel_rfl) ?_
 refine Rq (Z0 rfl) ?_
 refine Rq (Z0 rfl) ?_
 refine Rq (Z5 rfl) ?_
 refine Rq (Z1 Zg rfl) ?_
 refine Rq (Z3 Zs rfl rfl) ?_
 refine Rq (Zq ZS rfl) ?_
 refine Rq (Z2t rfl rfl) ?_
 refine Rq (Z0 rfl) ?_
 refine Rg rfl rfl rfl (fun hg => Z0 (.inl rfl)) ?_
 refine Rg rfl rfl rfl (fun hg => Z5 (.inr ⟨_, rfl, id⟩)) ?_
 refine Rg rfl rfl rfl (fun hg => Z1 Zg (.inr ⟨_, rfl, id⟩)) ?_
 refine Rg rfl rfl rfl (fun hg => Z3 Zs (.inr ⟨_, rfl, id⟩) rfl) ?_
 refine Rg rfl rfl rfl (fun hg => Z8 ZT (.inr ⟨_, rfl, id⟩) rfl (.inl rfl) (by omega) (Z2c (Z2l hg))) ?_
 refine Rg rfl rfl rfl (fun hg => Z1 Z2p (.inr ⟨_, rfl, id⟩)) ?_
 refine Rg rfl rfl rfl (fun hg => ZE (enc := T3.cells) (sz := 3) (i := T.k ts) (j := 0) (y := ts.headD t3D) (u := .int .i64 (ts.headD t3D).k) ZA (.inr ⟨_, rfl, id⟩) (by repeat first | exact Mh | apply Mt) rfl (Tk.head hts (Z2l hg)) (by rw [Tk.j_eq hc hts (Z2l hg)]; omega) rfl) ?_
 refine Rg rfl rfl rfl (fun hg => Z1j (.inr ⟨_, rfl, id⟩) (.inl rfl)) ?_
 refine Rq (ZM rfl rfl rfl id) ?_
 apply Rn
 refine FinS.tail0 ?_
 refine JO.callPK (Lr := _) (Z7 (.pointer (some ⟨b, 0, none⟩)) _) rfl (Z1a _) ZV (.one rfl (.one rfl .nil)) (fun hbad => ?_) ?_
 · exact JX.pnI (by unfold stmtP; rw [Z9v, ← Z5K, hbad]; rfl)
 intro z hz
 have hK : isK 1 ts = true := by rw [← Z5K]; exact hz
 try dsimp only [nA, cA]
 apply Ni
 repeat first | apply Nx | apply Nb
 refine Sl [0, 2] (.cons rfl (.cons rfl .nil)) ?_
 repeat apply Sq
 apply Pn
 refine JO.mapMkS rfl (fun r24 => ?_)
 refine JO.m (Z1F Zm Zr rfl rfl rfl (by simp [sGet]) .here) (by rfl) ?_
 refine JO.m (Z1F Zm Zr rfl rfl rfl (by simp [sGet]) .here) (by rfl) ?_
 refine JO.m (Z1F Zm Zr rfl rfl rfl (by simp [sGet]) .here) (by rfl) ?_
 refine JO.m (Z1F Zm Zr rfl rfl rfl (by simp [sGet]) .here) (by rfl) ?_
 refine JO.m (Z1F Zm Zr rfl rfl rfl (by simp [sGet]) .here) (by rfl) ?_
 refine Jt (ZI rfl (Z56 7) (.one rfl .nil)) rfl ?_
 refine JO.open_ (s := 25) (R := PlF 7) rfl ?_
 rintro _ ⟨_, b7, rfl, _⟩
 refine JO.fact (HeapIs b7 [.int .i64 7] Z3J) (fun X w hf _ => Z8x (hf _ List.mem_cons_self)) ?_
 refine JO.m (Z1F Zm Zr rfl rfl rfl (by simp [sGet]) .here) (by rfl) ?_
 refine Jt (ZI rfl (Z56 8) (.one rfl .nil)) rfl ?_
 refine JO.open_ (s := 26) (R := PlF 8) rfl ?_
 rintro _ ⟨_, b8, rfl, _⟩
 refine JO.fact (HeapIs b8 [.int .i64 8] Z3J) (fun X w hf _ => Z8x (hf _ List.mem_cons_self)) ?_
 refine JO.m (Z1F Zm Zr rfl rfl rfl (by simp [sGet]) .here) (by rfl) ?_
 refine Jt (ZI rfl (Z56 9) (.one rfl .nil)) rfl ?_
 refine JO.open_ (s := 27) (R := PlF 9) rfl ?_
 rintro _ ⟨_, b9, rfl, _⟩
 refine JO.fact (HeapIs b9 [.int .i64 9] Z3J) (fun X w hf _ => Z8x (hf _ List.mem_cons_self)) ?_
 refine JO.m (Z1F Zm Zr rfl rfl rfl (by simp [sGet]) .here) (by rfl) ?_
 refine Jt (Z0 rfl) rfl ?_
 refine Jt (Z2 rfl) rfl ?_
 apply Ni
 repeat first | apply Nx | apply Nb
 refine Sl [0, 2, 3] (.cons rfl (.cons rfl (.cons rfl .nil))) ?_
 repeat apply Sq
 apply Pn
 refine Jt (Z0 rfl) rfl ?_
 refine Jt (Z0 rfl) rfl ?_
 refine JO.callPK (Lr := [_, _]) (Z1g T hc b ts hts 1) rfl (List.perm_append_comm (l₁ := [_, _]) (l₂ := [_])) (fun F hF => by repeat (first | (rcases Mc.1 hF with rfl | hF; · (repeat first | exact Mh | apply Mt)) | (cases hF; done))) (.one rfl (.one rfl .nil)) (fun hbad => ?_) ?_
 · exact JX.pnI (by unfold stmtP; rw [hbad]; rfl)
 rintro ⟨⟨k1, w, n1⟩, r1⟩ hz1
 try dsimp only [nA, cA]
 refine Jt (Z3n (off := 1) (by kernel_rfl) rfl rfl) rfl ?_
 refine Jt (Zf6 (l := stF b7 b8 b9) (V := (sGet w (stF b7 b8 b9)).getD .nilFunc) (B := (sGet w (stF b7 b8 b9)).isSome) Zm Zr Z4b rfl rfl (List.mem_cons_of_mem _ List.mem_cons_self) rfl rfl) rfl ?_
 refine Jt (Z0 rfl) rfl ?_
 refine Jt (ZdO rfl rfl) rfl ?_
 refine Jt (ZdO rfl rfl) rfl ?_
 refine Jt (Z2 rfl) rfl ?_
 refine Jt (Z2 rfl) rfl ?_
 apply Ni
 repeat first | apply Nx | apply Nb
 refine Sl [0, 2, 4, 5] (.cons rfl (.cons rfl (.cons rfl (.cons rfl .nil)))) ?_
 repeat apply Sq
 apply Pn
 refine Jt (Z0 rfl) rfl ?_
 refine Jt (Z0 rfl) rfl ?_
 refine JO.callPK (Lr := _) (Z7 (.pointer (some ⟨b, 0, none⟩)) (sGet w (stF b7 b8 b9)).isSome) rfl (Z1a _) ZV (.one rfl (.one rfl .nil)) (fun hbad => ?_) ?_
 · exact JX.pnI (by exact Zfi hz1 hbad)
 intro _ hfo
 try dsimp only [nA, cA]
 apply Ni
 repeat first | apply Nx | apply Nb
 refine Sl [0, 2, 4] (.cons rfl (.cons rfl (.cons rfl .nil))) ?_
 rcases Zff hfo with hw | hw | hw | hw | hw | hw | hw | hw
 ·
  subst hw
  rw [show (sGet Z5t (stF b7 b8 b9)).getD .nilFunc = fv Z2z by simp [stF, sGet]]
  repeat apply Sq
  apply Pn
  refine Jt (Z0 rfl) rfl ?_
  refine Jt (Z0 rfl) rfl ?_
  refine JO.callPvK (cp := []) (Lr := [_, _]) rfl (Z5V N T hc h9 b r1 (show r1 <:+ T.ts from (ZN 1 _ _ hz1).1.trans hts)) rfl (.refl _) (fun F hF => by repeat (first | (rcases Mc.1 hF with rfl | hF; · (repeat first | exact Mh | apply Mt)) | (cases hF; done))) (.one rfl .nil) (fun hbad => ?_) ?_
  · exact JX.pnI (by unfold stmtP; rw [hz1, Option.bind_some, if_pos (by rfl), hbad])
  intro z hz
  try dsimp only [nA, cA]
  refine JO.m (Z4 rfl rfl (by repeat first | exact .here | apply Ut) (by first | exact cI rfl rfl | exact cE) (by first | exact Z1d rfl rfl | exact Z50 | exact Z3s | exact Z2s) Zl) (by rfl) ?_
  apply Ni
  repeat first | apply Nx | apply Nb
  refine Sl [2] (.cons rfl .nil) ?_
  repeat apply Sq
  apply Rt
  repeat first | apply Rp | apply Rb
  refine JX.toP ?_
  exact JX.retLCs (Lr := [_, _]) (L1 := fun z : Pz.St × List T3 => [PB T b z.2]) (R := fun z => .rep (StR N z.1)) rfl z (by unfold stmtP; rw [hz1, Option.bind_some, if_pos (by rfl), hz]) (.refl _) rfl rfl hb0 rfl Z9 HasOwn.mem Z4Y (Sub.refl _)
 ·
  subst hw
  rw [show (sGet Z4F (stF b7 b8 b9)).getD .nilFunc = fv Z2A by simp [stF, sGet]]
  repeat apply Sq
  apply Pn
  refine Jt (Z0 rfl) rfl ?_
  refine Jt (Z0 rfl) rfl ?_
  refine JO.callPvK (cp := []) (Lr := [_, _]) rfl (Z5R N T hc h9 b r1 (show r1 <:+ T.ts from (ZN 1 _ _ hz1).1.trans hts) (exprP M) (Z30 M) (fun us hus hu => Z7Z T hc b M us hus (by have : r1.length < ts.length := (ZN 1 _ _ hz1).2; omega))) rfl (.refl _) (fun F hF => by repeat (first | (rcases Mc.1 hF with rfl | hF; · (repeat first | exact Mh | apply Mt)) | (cases hF; done))) (.one rfl .nil) (fun hbad => ?_) ?_
  · exact JX.pnI (by unfold stmtP; rw [hz1, Option.bind_some, if_neg (by exact Bool.false_ne_true), if_pos (by rfl), hbad])
  intro z hz
  try dsimp only [nA, cA]
  refine JO.m (Z4 rfl rfl (by repeat first | exact .here | apply Ut) (by first | exact cI rfl rfl | exact cE) (by first | exact Z1d rfl rfl | exact Z50 | exact Z3s | exact Z2s) Zl) (by rfl) ?_
  apply Ni
  repeat first | apply Nx | apply Nb
  refine Sl [2] (.cons rfl .nil) ?_
  repeat apply Sq
  apply Rt
  repeat first | apply Rp | apply Rb
  refine JX.toP ?_
  exact JX.retLCs (Lr := [_, _]) (L1 := fun z : Pz.St × List T3 => [PB T b z.2]) (R := fun z => .rep (StR N z.1)) rfl z (by unfold stmtP; rw [hz1, Option.bind_some, if_neg (by exact Bool.false_ne_true), if_pos (by rfl), hz]) (.refl _) rfl rfl hb0 rfl Z9 HasOwn.mem Z4Y (Sub.refl _)
 ·
  subst hw
  rw [show (sGet Z4D (stF b7 b8 b9)).getD .nilFunc = fv Z2L by simp [stF, sGet]]
  repeat apply Sq
  apply Pn
  refine Jt (Z0 rfl) rfl ?_
  refine Jt (Z0 rfl) rfl ?_
  refine JO.callPvK (cp := []) (Lr := [_, _]) rfl (Z6t N T hc h9 b r1 (show r1 <:+ T.ts from (ZN 1 _ _ hz1).1.trans hts) (exprP M) (Z30 M) (fun us hus hu => Z7Z T hc b M us hus (by have : r1.length < ts.length := (ZN 1 _ _ hz1).2; omega))) rfl (.refl _) (fun F hF => by repeat (first | (rcases Mc.1 hF with rfl | hF; · (repeat first | exact Mh | apply Mt)) | (cases hF; done))) (.one rfl .nil) (fun hbad => ?_) ?_
  · exact JX.pnI (by unfold stmtP; rw [hz1, Option.bind_some, if_neg (by exact Bool.false_ne_true), if_neg (by exact Bool.false_ne_true), if_pos (by rfl), hbad])
  intro z hz
  try dsimp only [nA, cA]
  refine JO.m (Z4 rfl rfl (by repeat first | exact .here | apply Ut) (by first | exact cI rfl rfl | exact cE) (by first | exact Z1d rfl rfl | exact Z50 | exact Z3s | exact Z2s) Zl) (by rfl) ?_
  apply Ni
  repeat first | apply Nx | apply Nb
  refine Sl [2] (.cons rfl .nil) ?_
  repeat apply Sq
  apply Rt
  repeat first | apply Rp | apply Rb
  refine JX.toP ?_
  exact JX.retLCs (Lr := [_, _]) (L1 := fun z : Pz.St × List T3 => [PB T b z.2]) (R := fun z => .rep (StR N z.1)) rfl z (by unfold stmtP; rw [hz1, Option.bind_some, if_neg (by exact Bool.false_ne_true), if_neg (by exact Bool.false_ne_true), if_pos (by rfl), hz]) (.refl _) rfl rfl hb0 rfl Z9 HasOwn.mem Z4Y (Sub.refl _)
 ·
  subst hw
  rw [show (sGet Z4A (stF b7 b8 b9)).getD .nilFunc = fv Z2y by simp [stF, sGet]]
  repeat apply Sq
  apply Pn
  refine Jt (Z0 rfl) rfl ?_
  refine Jt (Z0 rfl) rfl ?_
  refine JO.callPvK (cp := []) (Lr := [_, _]) rfl (Z5Z N T hc h9 b r1 (show r1 <:+ T.ts from (ZN 1 _ _ hz1).1.trans hts) (exprP M) (Z30 M) (fun us hus hu => Z7Z T hc b M us hus (by have : r1.length < ts.length := (ZN 1 _ _ hz1).2; omega))) rfl (.refl _) (fun F hF => by repeat (first | (rcases Mc.1 hF with rfl | hF; · (repeat first | exact Mh | apply Mt)) | (cases hF; done))) (.one rfl .nil) (fun hbad => ?_) ?_
  · exact JX.pnI (by unfold stmtP; rw [hz1, Option.bind_some, if_neg (by exact Bool.false_ne_true), if_neg (by exact Bool.false_ne_true), if_neg (by exact Bool.false_ne_true), if_pos (by rfl), hbad])
  intro z hz
  try dsimp only [nA, cA]
  refine JO.m (Z4 rfl rfl (by repeat first | exact .here | apply Ut) (by first | exact cI rfl rfl | exact cE) (by first | exact Z1d rfl rfl | exact Z50 | exact Z3s | exact Z2s) Zl) (by rfl) ?_
  apply Ni
  repeat first | apply Nx | apply Nb
  refine Sl [2] (.cons rfl .nil) ?_
  repeat apply Sq
  apply Rt
  repeat first | apply Rp | apply Rb
  refine JX.toP ?_
  exact JX.retLCs (Lr := [_, _]) (L1 := fun z : Pz.St × List T3 => [PB T b z.2]) (R := fun z => .rep (StR N z.1)) rfl z (by unfold stmtP; rw [hz1, Option.bind_some, if_neg (by exact Bool.false_ne_true), if_neg (by exact Bool.false_ne_true), if_neg (by exact Bool.false_ne_true), if_pos (by rfl), hz]) (.refl _) rfl rfl hb0 rfl Z9 HasOwn.mem Z4Y (Sub.refl _)
 ·
  subst hw
  rw [show (sGet Z4N (stF b7 b8 b9)).getD .nilFunc = fv Z2x by simp [stF, sGet]]
  repeat apply Sq
  apply Pn
  refine Jt (Z0 rfl) rfl ?_
  refine Jt (Z0 rfl) rfl ?_
  refine JO.callPvK (cp := []) (Lr := [_, _]) rfl (Z5S N T hc h9 b r1 (show r1 <:+ T.ts from (ZN 1 _ _ hz1).1.trans hts) (exprP M) (fun us hus hu => Z7Z T hc b M us hus (by have : r1.length < ts.length := (ZN 1 _ _ hz1).2; omega))) rfl (.refl _) (fun F hF => by repeat (first | (rcases Mc.1 hF with rfl | hF; · (repeat first | exact Mh | apply Mt)) | (cases hF; done))) (.one rfl .nil) (fun hbad => ?_) ?_
  · exact JX.pnI (by unfold stmtP; rw [hz1, Option.bind_some, if_neg (by exact Bool.false_ne_true), if_neg (by exact Bool.false_ne_true), if_neg (by exact Bool.false_ne_true), if_neg (by exact Bool.false_ne_true), if_pos (by rfl), hbad])
  intro z hz
  try dsimp only [nA, cA]
  refine JO.m (Z4 rfl rfl (by repeat first | exact .here | apply Ut) (by first | exact cI rfl rfl | exact cE) (by first | exact Z1d rfl rfl | exact Z50 | exact Z3s | exact Z2s) Zl) (by rfl) ?_
  apply Ni
  repeat first | apply Nx | apply Nb
  refine Sl [2] (.cons rfl .nil) ?_
  repeat apply Sq
  apply Rt
  repeat first | apply Rp | apply Rb
  refine JX.toP ?_
  exact JX.retLCs (Lr := [_, _]) (L1 := fun z : Pz.St × List T3 => [PB T b z.2]) (R := fun z => .rep (StR N z.1)) rfl z (by unfold stmtP; rw [hz1, Option.bind_some, if_neg (by exact Bool.false_ne_true), if_neg (by exact Bool.false_ne_true), if_neg (by exact Bool.false_ne_true), if_neg (by exact Bool.false_ne_true), if_pos (by rfl), hz]) (.refl _) rfl rfl hb0 rfl Z9 HasOwn.mem Z4Y (Sub.refl _)
 ·
  subst hw
  rw [show (sGet Z6u (stF b7 b8 b9)).getD .nilFunc = .func (.func Z1i) #[] #[.pointer (some ⟨b7, 0, none⟩)] by simp [stF, sGet]]
  repeat apply Sq
  apply Pn
  refine Jt (Z0 rfl) rfl ?_
  refine Jt (Z0 rfl) rfl ?_
  refine JO.callPvK (cp := [.pointer (some ⟨b7, 0, none⟩)]) (Lr := [_, _]) rfl (Z4j N T hc h9 b r1 (show r1 <:+ T.ts from (ZN 1 _ _ hz1).1.trans hts) b7 7) rfl (.refl _) (fun F hF => by repeat (first | (rcases Mc.1 hF with rfl | hF; · (repeat first | exact Mh | apply Mt)) | (cases hF; done))) (.one rfl .nil) (fun hbad => ?_) ?_
  · exact JX.pnI (by exact hbad.elim)
  intro z hz
  try dsimp only [nA, cA]
  refine JO.m (Z4 rfl rfl (by repeat first | exact .here | apply Ut) (by first | exact cI rfl rfl | exact cE) (by first | exact Z1d rfl rfl | exact Z50 | exact Z3s | exact Z2s) Zl) (by rfl) ?_
  apply Ni
  repeat first | apply Nx | apply Nb
  refine Sl [2] (.cons rfl .nil) ?_
  repeat apply Sq
  apply Rt
  repeat first | apply Rp | apply Rb
  refine JX.toP ?_
  exact JX.retLCs (Lr := [_, _]) (L1 := fun z : Pz.St × List T3 => [PB T b z.2]) (R := fun z => .rep (StR N z.1)) rfl z (by unfold stmtP; rw [hz1, Option.bind_some, if_neg (by exact Bool.false_ne_true), if_neg (by exact Bool.false_ne_true), if_neg (by exact Bool.false_ne_true), if_neg (by exact Bool.false_ne_true), if_neg (by exact Bool.false_ne_true), if_pos (by rfl), hz]) (.refl _) rfl rfl hb0 rfl Z9 HasOwn.mem Z4Y (Sub.refl _)
 ·
  subst hw
  rw [show (sGet Z5y (stF b7 b8 b9)).getD .nilFunc = .func (.func Z1i) #[] #[.pointer (some ⟨b8, 0, none⟩)] by simp [stF, sGet]]
  repeat apply Sq
  apply Pn
  refine Jt (Z0 rfl) rfl ?_
  refine Jt (Z0 rfl) rfl ?_
  refine JO.callPvK (cp := [.pointer (some ⟨b8, 0, none⟩)]) (Lr := [_, _]) rfl (Z4j N T hc h9 b r1 (show r1 <:+ T.ts from (ZN 1 _ _ hz1).1.trans hts) b8 8) rfl (.refl _) (fun F hF => by repeat (first | (rcases Mc.1 hF with rfl | hF; · (repeat first | exact Mh | apply Mt)) | (cases hF; done))) (.one rfl .nil) (fun hbad => ?_) ?_
  · exact JX.pnI (by exact hbad.elim)
  intro z hz
  try dsimp only [nA, cA]
  refine JO.m (Z4 rfl rfl (by repeat first | exact .here | apply Ut) (by first | exact cI rfl rfl | exact cE) (by first | exact Z1d rfl rfl | exact Z50 | exact Z3s | exact Z2s) Zl) (by rfl) ?_
  apply Ni
  repeat first | apply Nx | apply Nb
  refine Sl [2] (.cons rfl .nil) ?_
  repeat apply Sq
  apply Rt
  repeat first | apply Rp | apply Rb
  refine JX.toP ?_
  exact JX.retLCs (Lr := [_, _]) (L1 := fun z : Pz.St × List T3 => [PB T b z.2]) (R := fun z => .rep (StR N z.1)) rfl z (by unfold stmtP; rw [hz1, Option.bind_some, if_neg (by exact Bool.false_ne_true), if_neg (by exact Bool.false_ne_true), if_neg (by exact Bool.false_ne_true), if_neg (by exact Bool.false_ne_true), if_neg (by exact Bool.false_ne_true), if_neg (by exact Bool.false_ne_true), if_pos (by rfl), hz]) (.refl _) rfl rfl hb0 rfl Z9 HasOwn.mem Z4Y (Sub.refl _)
 ·
  subst hw
  rw [show (sGet Z4o (stF b7 b8 b9)).getD .nilFunc = .func (.func Z1i) #[] #[.pointer (some ⟨b9, 0, none⟩)] by simp [stF, sGet]]
  repeat apply Sq
  apply Pn
  refine Jt (Z0 rfl) rfl ?_
  refine Jt (Z0 rfl) rfl ?_
  refine JO.callPvK (cp := [.pointer (some ⟨b9, 0, none⟩)]) (Lr := [_, _]) rfl (Z4j N T hc h9 b r1 (show r1 <:+ T.ts from (ZN 1 _ _ hz1).1.trans hts) b9 9) rfl (.refl _) (fun F hF => by repeat (first | (rcases Mc.1 hF with rfl | hF; · (repeat first | exact Mh | apply Mt)) | (cases hF; done))) (.one rfl .nil) (fun hbad => ?_) ?_
  · exact JX.pnI (by exact hbad.elim)
  intro z hz
  try dsimp only [nA, cA]
  refine JO.m (Z4 rfl rfl (by repeat first | exact .here | apply Ut) (by first | exact cI rfl rfl | exact cE) (by first | exact Z1d rfl rfl | exact Z50 | exact Z3s | exact Z2s) Zl) (by rfl) ?_
  apply Ni
  repeat first | apply Nx | apply Nb
  refine Sl [2] (.cons rfl .nil) ?_
  repeat apply Sq
  apply Rt
  repeat first | apply Rp | apply Rb
  refine JX.toP ?_
  exact JX.retLCs (Lr := [_, _]) (L1 := fun z : Pz.St × List T3 => [PB T b z.2]) (R := fun z => .rep (StR N z.1)) rfl z (by unfold stmtP; rw [hz1, Option.bind_some, if_neg (by exact Bool.false_ne_true), if_neg (by exact Bool.false_ne_true), if_neg (by exact Bool.false_ne_true), if_neg (by exact Bool.false_ne_true), if_neg (by exact Bool.false_ne_true), if_neg (by exact Bool.false_ne_true), if_neg (by exact Bool.false_ne_true), if_pos (by rfl), hz]) (.refl _) rfl rfl hb0 rfl Z9 HasOwn.mem Z4Y (Sub.refl _)
end Go.Proofs.YtbedigkncjbggaaGreatDoor
namespace Go.Pz
open Go Go.Vc
theorem ZaT {kids : List Ex} {a : Option Addr} {len : Nat} {X : Nat → Prop} {w : World} (h : Pers X w (KidsR kids a len)) :
    ∃ ps : List (Cel exE), ps.map Cel.x = kids ∧ Pers X w (RowG Cel.cs 8 ps a len) ∧ Pers X w (CelF exE ps) := by
  have h0 := h.now
  by_cases hn : len = 0
  · have hk : kids = [] := List.length_eq_zero_iff.1 (by rw [h0.1]; exact hn)
    subst hk
    exact ⟨[], rfl, fun w' _ => ⟨hn.symm, fun h => absurd hn h⟩, fun w' _ p hp => by cases hp⟩
  obtain ⟨b, o, rfl, _⟩ := h0.2 hn
  have hall : ∀ i : Fin kids.length, ∃ cs : List Value, cs.length = 8 ∧ RowAt cs b (o + 8 * i.1) w ∧ Pers X w (ExR kids[i] (.agg cs.toArray)) := fun i => Zbo h (List.getElem?_eq_getElem i.2)
  let f : Fin kids.length → List Value := fun i => Classical.choose (hall i)
  have hf : ∀ i, (f i).length = 8 ∧ RowAt (f i) b (o + 8 * i.1) w ∧ Pers X w (ExR kids[i] (.agg (f i).toArray)) := fun i => Classical.choose_spec (hall i)
  have hl : 0 < kids.length := by rw [h0.1]; omega
  have hX : ¬ X b := Zbb (o := o + 8 * 0) fun w' hk => by
    obtain ⟨hl', hk'⟩ := h w' hk
    obtain ⟨b', o', e, hK⟩ := hk' hn
    injection e with e
    injection e with e1 e2
    subst e1 e2
    obtain ⟨cs, _, h2, h3⟩ := Z7g kids b o w' 0 kids[0] hK (List.getElem?_eq_getElem hl)
    obtain ⟨k, n, h4⟩ := Z49 h2
    exact ⟨k, n, h3 0 _ h4⟩
  obtain ⟨C, t, fr, hC, _⟩ : ∃ (cs : Array Value) (t : TypeId) (fr : Nat × Nat), w.heap[b]? = some (.cells cs t fr) ∧ True := by
    have h2 := hf ⟨0, hl⟩
    obtain ⟨k, n, h4⟩ := Z49 h2.2.2.now
    obtain ⟨cs, t, fr, q1, _⟩ := Z8C (h2.2.1 0 _ h4)
    exact ⟨cs, t, fr, q1, trivial⟩
  refine ⟨List.ofFn fun i : Fin kids.length => ⟨kids[i], f i, (hf i).1, Z8W (hf i).2.2.now⟩, ?_, fun w' hk => ⟨by rw [List.length_ofFn]; exact h0.1, fun _ => ⟨b, o, rfl, fun i p hp => ?_⟩⟩, fun w' hk p hp => ?_⟩
  · refine List.ext_getElem (by simp) fun i h1 h2 => ?_
    simp
  · rw [List.getElem?_ofFn] at hp
    split at hp
    · rename_i hi
      injection hp with hp
      subst hp
      intro j v hj
      have := (hf ⟨i, hi⟩).2.1 j v hj
      rw [Z19 hC] at this
      rw [Z19 (hk.get hC hX)]
      exact this
    · cases hp
  · obtain ⟨i, rfl⟩ := List.mem_ofFn.1 hp
    exact (hf i).2.2 w' hk
section
variable {P : Program} {c : Ctx} {K : List (Nat × Ty)} {L : List Own} {Φ : List (World → Prop)} {Q : Exit → Act → World → Prop}
theorem SA.more {X : Nat → Prop} {a : Act} {w : World} (hs : SA c K L Φ X a w) (Ψ : List (World → Prop)) (hΨ : ∀ F ∈ Ψ, Pers X w F) : SA c K L (Ψ ++ Φ) X a w :=
 ⟨hs.n, hs.d, hs.wf, hs.k, hs.l, hs.ld, fun F hF => by
  rcases List.mem_append.1 hF with hF | hF
  · exact hΨ F hF
  · exact hs.f F hF, hs.x, hs.xs, hs.keeps, hs.may⟩
theorem J.kidsC {x : Code} {kids : List Ex} {a : Option Addr} {len : Nat} (h : KidsR kids a len ∈ Φ) (hj : ∀ ps : List (Cel exE), ps.map Cel.x = kids → J P c K L (RowG Cel.cs 8 ps a len :: CelF exE ps :: Φ) x Q) : J P c K L Φ x Q := by
 refine ⟨fun X a' w hs => ?_⟩
 obtain ⟨ps, h1, h2, h3⟩ := ZaT (hs.f _ h)
 refine (hj ps h1).out X a' w (SA.more hs [_, _] fun F hF => ?_)
 simp only [List.mem_cons, List.mem_nil_iff, or_false] at hF
 rcases hF with rfl | rfl
 · exact h2
 · exact h3
theorem Zga {xs : List Ex} {v : Value} {X : Nat → Prop} {w : World} (h : Pers X w (ExsR xs v)) : ∃ (ps : List (Cel exE)) (a : Option Addr) (len cap : Nat), ps.map Cel.x = xs ∧ v = .slice a len cap ∧ ps.length = len ∧ (∃ b o, len ≠ 0 → a = some ⟨b, o, none⟩) ∧ Pers X w (RowG Cel.cs 8 ps a len) ∧ Pers X w (CelF exE ps) := by
  obtain ⟨a, len, cap, rfl, hk⟩ := h.now
  have hp : Pers X w (KidsR xs a len) := fun w' hk => by
    obtain ⟨a', len', cap', e, h1⟩ := h w' hk
    injection e with e1 e2 e3
    subst e1 e2 e3
    exact h1
  obtain ⟨ps, h1, h2, h3⟩ := ZaT hp
  refine ⟨ps, a, len, cap, h1, rfl, h2.now.1, ?_, h2, h3⟩
  by_cases hn : len = 0
  · exact ⟨0, 0, fun h => absurd hn h⟩
  · obtain ⟨b, o, e, _⟩ := h2.now.2 hn
    exact ⟨b, o, fun _ => e⟩
theorem J.shapeX {x : Code} {xs : List Ex} {v : Value} (h : ExsR xs v ∈ Φ) (hj : ∀ (ps : List (Cel exE)) (a : Option Addr) (len cap b o : Nat), ps.map Cel.x = xs → v = .slice a len cap → ps.length = len → (len ≠ 0 → a = some ⟨b, o, none⟩) → J P c K L (RowG Cel.cs 8 ps a len :: CelF exE ps :: Φ) x Q) : J P c K L Φ x Q := by
 refine ⟨fun X a' w hs => ?_⟩
 obtain ⟨ps, a, len, cap, h1, h2, h3, ⟨b, o, h4⟩, h5, h6⟩ := Zga (hs.f _ h)
 refine (hj ps a len cap b o h1 h2 h3 h4).out X a' w (SA.more hs [_, _] fun F hF => ?_)
 simp only [List.mem_cons, List.mem_nil_iff, or_false] at hF
 rcases hF with rfl | rfl
 · exact h5
 · exact h6
theorem J.shapeE {α : Type} {E : Enc α} {G : GoS} {x : Code} {xs : List α} {v : Value} (h : SlE E G xs v ∈ Φ) (hj : ∀ (ps : List (Cel E)) (a : Option Addr) (len cap b o : Nat), ps.map Cel.x = xs → v = .slice a len cap → ps.length = len → (len ≠ 0 → a = some ⟨b, o, none⟩) → J P c K L (RowG Cel.cs E.sz ps a len :: CelF E ps :: Φ) x Q) : J P c K L Φ x Q := by
 refine ⟨fun X a' w hs => ?_⟩
 obtain ⟨ps, a, len, cap, h1, h2, _, h3, ⟨b, o, h4⟩, h5, h6, _⟩ := Z9G (hs.f _ h)
 refine (hj ps a len cap b o h1 h2 h3 h4).out X a' w (SA.more hs [_, _] fun F hF => ?_)
 simp only [List.mem_cons, List.mem_nil_iff, or_false] at hF
 rcases hF with rfl | rfl
 · exact h5
 · exact h6
theorem JO.apA {α : Type} {en : α → List Value} {sz : Nat} {L' : List Own} {d : Nat} {ops : Array Oper} {rest : List Oper} {ty t tx e : TypeId} {pos : String} {after : Array Edge} {s x : Operand} {bytes cap : Nat} {xs : List α} (ys : List α) {st : Option (Nat × List Value)} {TX : Ty} {C : Option (Nat × List Value) → List Own}
    (hT : ApTy P t e sz bytes) (hen : ∀ x, (en x).length = sz) (hC : Cx e L st C L') (hG : Grows en sz xs st cap) (h0 : opTy K s = some (.is (sliceO st xs.length cap))) (hx : opTy K x = some TX) (hS : ∀ L, SrcOf P L Φ sz tx TX ys.length (ys.flatMap en)) (hfit : (xs.length + ys.length) * bytes ≤ 140737488355328) (h63 : xs.length + ys.length ≤ 9223372036854775807) (hd : Nat.blt d c.n = true)
    (hn : ∀ (st' : Option (Nat × List Value)) (cap' : Nat), Grows en sz (xs ++ ys) st' cap' → JO P c ((d, .is (sliceO st' (xs ++ ys).length cap')) :: K) (C st') Φ ops rest Q) :
    JO P c K L Φ ops (⟨some d, .call { callee := .builtin .append, args := #[s, x], argTypes := #[t, tx] }, ty, pos, after, none⟩ :: rest) Q := by
  cases st with
  | some p => exact JO.apSL ys hT hC hG h0 hx (hS _) hfit h63 hd fun p' cap' hG' => hn _ _ hG'
  | none =>
    have hxs : xs = [] := hG
    subst hxs
    simp only [List.length_nil, Nat.zero_add, List.nil_append] at hfit h63 hn
    refine JO.subL hC.tl.perm ?_
    refine JO.apN ys hT h0 hx (hS _) hfit h63 hd fun st' cap' hG' => ?_
    exact JO.subL (hC.back st') (hn _ _ hG')
end
end Go.Pz
namespace Go.Pz
open Go Go.Vc
mutual
def ect : Ex → Nat
 | .mk _ _ _ _ _ _ _ kids => ects kids + 1
def ects : List Ex → Nat
 | [] => 0
 | x :: xs => ect x + ects xs
end
theorem Z2U (x : Ex) : ect x = ects x.KS + 1 := by cases x; rw [ect]; rfl
theorem Z4y {xs : List Ex} {x : Ex} (h : x ∈ xs) : ect x ≤ ects xs := by
  induction xs with
  | nil => cases h
  | cons y ys ih =>
    rw [ects]
    rcases List.mem_cons.1 h with rfl | h
    · omega
    · have := ih h; omega
theorem Z8D (xs : List Ex) : xs.length ≤ ects xs := by
  induction xs with
  | nil => exact Nat.zero_le _
  | cons y ys ih => 
    rw [ects, List.length_cons]
    have : 1 ≤ ect y := by rw [Z2U]; omega
    omega
mutual
theorem ZfU : ∀ x : Ex, hgt x ≤ ect x
 | .mk _ _ _ _ _ _ _ kids => by rw [hgt, ect]; have := Z60 kids; omega
theorem Z60 : ∀ xs : List Ex, hgts xs ≤ ects xs
 | [] => by rw [hgts, ects]; exact Nat.le_refl _
 | x :: xs => by rw [hgts, ects]; have := ZfU x; have := Z60 xs; omega
end
def Hb (p : Ps Ex) : Prop := ∀ ts z, p ts = some z → ect z.1 + z.2.length ≤ ts.length
theorem Z32 (k vk vn : Int) (vs tb nm : ByteArray) (sl : Int) : ect (.mk k vk vn vs tb nm sl []) = 1 := by rw [ect, ects]
theorem Z91 (k : Int) (x : Ex) : ect (nd k [x]) = ect x + 1 := by rw [ect, ects, ects]
theorem Zfx (k : Int) (x y : Ex) : ect (nd k [x, y]) = ect x + ect y + 1 := by rw [ect, ects, ects, ects]; omega
theorem Zb1 {part : Ps Ex} {k : Int} {ops : List (ByteArray × Int)} (hp : Hb part) {M : Nat} : ∀ (n : Nat) (x : Ex) (ts : List T3) (z : Ex × List T3), ect x + ts.length ≤ M → chainG part k ops n x ts = some z → ect z.1 + z.2.length ≤ M
  | 0, x, ts, z, hM, h => by rw [chainG] at h; injection h with h; subst h; exact hM
  | n + 1, x, ts, z, hM, h => by
    rw [chainG] at h
    split at h
    · injection h with h; subst h; exact hM
    · rename_i q hq
      obtain ⟨y, h1, h2⟩ := bnd h
      have h3 := hp _ _ h1
      have h4 := (Z4x hq).2
      have h5 : 1 ≤ ect y.1 := by
        obtain ⟨y1, y2⟩ := y
        cases y1; rw [ect]; omega
      refine Zb1 hp n _ _ _ ?_ h2
      rw [Zfx]; omega
theorem Z75 {part : Ps Ex} {k : Int} {ops : List (ByteArray × Int)} (hp : Hb part) : Hb (chainP part k ops) := fun ts z h => by
 obtain ⟨y, h1, h2⟩ := bnd h
 exact Zb1 hp _ _ _ _ (hp _ _ h1) h2
section
variable {e : Ps Ex} (he : Hb e)
include he
theorem Zhk : Hb (kwP e) := fun ts z h => by
  obtain ⟨y, h1, h2⟩ := bnd h
  have h3 := (ZN 1 _ _ h1).2
  split at h2
  · injection h2 with h2; subst h2; rw [Z32]; dsimp only; omega
  split at h2
  · injection h2 with h2; subst h2; rw [Z32]; dsimp only; omega
  split at h2
  · injection h2 with h2; subst h2; rw [Z32]; dsimp only; omega
  split at h2
  · cases h2
  obtain ⟨u, h4, h5⟩ := bnd h2
  have h6 := (Zh _ _ _ _ h4).2
  split at h5
  · rename_i hi
    simp only [Bool.and_eq_true] at hi
    obtain ⟨v, h7, rfl⟩ := mpd h5
    have h8 := (Zh _ _ _ _ h7).2
    have h9 := (Zt hi.2).2
    rw [Z32]; dsimp only; omega
  · obtain ⟨x, h7, h8⟩ := bnd h5
    obtain ⟨v, h9, rfl⟩ := mpd h8
    have h10 := he _ _ h7
    have h11 := (Zh _ _ _ _ h9).2
    dsimp only
    rw [Z91]; omega
theorem Zft : Hb (atomP e) := fun ts z h => by
  cases ts with
  | nil => cases h
  | cons t r =>
    rw [atomP] at h
    split at h
    · injection h with h; subst h; rw [Z32]; simp only [List.length_cons]; omega
    split at h
    · injection h with h; subst h; rw [Z32]; simp only [List.length_cons]; omega
    split at h
    · split at h
      · rename_i hi
        obtain ⟨v, h7, rfl⟩ := mpd h
        have h8 := (ZD _ _ h7).2
        have h9 := (Zt hi).2
        rw [Z32]; simp only [List.length_cons]; omega
      · injection h with h; subst h; rw [Z32]; simp only [List.length_cons]; omega
    split at h
    · exact Zhk he _ _ h
    · obtain ⟨u, h4, h5⟩ := bnd h
      obtain ⟨x, h7, h8⟩ := bnd h5
      obtain ⟨v, h9, rfl⟩ := mpd h8
      have h10 := he _ _ h7
      have h11 := (Zh _ _ _ _ h9).2
      have h12 := (Zh _ _ _ _ h4).2
      dsimp only; omega
theorem Z9Y : ∀ (ts : List T3) (z : Ex × List T3), factorP e ts = some z → ect z.1 + z.2.length ≤ ts.length
  | [], z, h => by rw [factorP] at h; cases h
  | t :: r, z, h => by
    rw [factorP] at h
    split at h
    · obtain ⟨v, h7, rfl⟩ := mpd h
      have := Z9Y r v h7
      dsimp only
      rw [Z91]; simp only [List.length_cons]; omega
    · exact Zft he _ _ h
theorem Zg6 : Hb (prodP e) := Z75 (Z9Y he)
theorem ZaG : Hb (sumP e) := Z75 (Zg6 he)
theorem ZdG {x : Ex} {ts : List T3} {z : Ex × List T3} {M : Nat} (hM : ect x + ts.length ≤ M) (h : cmpP e x ts = some z) : ect z.1 + z.2.length ≤ M := by
  unfold cmpP at h
  split at h
  · rename_i q hq
    obtain ⟨v, h7, rfl⟩ := mpd h
    have h8 := ZaG he _ _ h7
    have h9 := (Z4x hq).2
    have h5 : 1 ≤ ect v.1 := by
      obtain ⟨y1, y2⟩ := v
      cases y1; rw [ect]; omega
    dsimp only
    rw [Zfx]; omega
  · split at h
    · rename_i hi
      have h9 := (Zt hi).2
      split at h
      · rename_i hj
        obtain ⟨v, h7, rfl⟩ := mpd h
        have h8 := (Zh _ _ _ _ h7).2
        have h10 := (Zt hj).2
        dsimp only
        rw [Z91]; omega
      · obtain ⟨v, h7, rfl⟩ := mpd h
        have h8 := (Zh _ _ _ _ h7).2
        dsimp only
        rw [Z91]; omega
    · injection h with h; subst h; exact hM
theorem ZdN : ∀ (ts : List T3) (z : Ex × List T3), notP e ts = some z → ect z.1 + z.2.length ≤ ts.length
  | [], z, h => by
    rw [notP] at h
    obtain ⟨y, h1, h2⟩ := bnd h
    exact ZdG he (ZaG he _ _ h1) h2
  | t :: r, z, h => by
    rw [notP] at h
    split at h
    · obtain ⟨v, h7, rfl⟩ := mpd h
      have := ZdN r v h7
      dsimp only
      rw [Z91]; simp only [List.length_cons]; omega
    · obtain ⟨y, h1, h2⟩ := bnd h
      exact ZdG he (ZaG he _ _ h1) h2
theorem Zht : Hb (orP e) := Z75 (Z75 (ZdN he))
end
theorem Z9h : ∀ n, Hb (exprP n)
 | 0, ts, z, h => by cases h
 | n + 1, ts, z, h => Zht (Z9h n) ts z h
def HB (M : Nat) (x : Ex) : Prop := ect x ≤ M
theorem ZhJ {e : Ps Ex} (he : Hb e) {M : Nat} {ts : List T3} {z : Ex × List T3} (hM : ts.length ≤ M) (h : e ts = some z) : HB M z.1 := by
 have := he _ _ h
 unfold HB; omega
def Pb {α : Type} (f : α → List Ex) (M : Nat) (p : Ps α) : Prop := ∀ ts z, ts.length ≤ M → p ts = some z → ∀ x ∈ f z.1, ect x ≤ M
theorem Zc9 {α : Type} {f : α → List Ex} {M : Nat} {p : Ps α} (hd : Dn0 p) (h : Pb f M p) : ∀ n ts z, ts.length ≤ M → listG p n ts = some z → ∀ y ∈ z.1, ∀ x ∈ f y, ect x ≤ M
  | 0, ts, z, _, hz => by rw [listG] at hz; injection hz with hz; subst hz; intro y hy; cases hy
  | n + 1, ts, z, hM, hz => by
    rw [listG] at hz
    split at hz
    · rename_i hi
      obtain ⟨w, h1, h2⟩ := bnd hz
      obtain ⟨y, h3, rfl⟩ := mpd h2
      have h4 := (Zt hi).2
      have h5 := (hd _ _ h1).length_le
      intro v hv
      rcases List.mem_cons.1 hv with rfl | hv
      · exact h _ _ (by omega) h1
      · exact Zc9 hd h n _ _ (by omega) h3 v hv
    · injection hz with hz; subst hz; intro y hy; cases hy
theorem Z6X {α : Type} {f : α → List Ex} {M : Nat} {p : Ps α} {most : Nat} (hd : Dn0 p) (h : Pb f M p) {ts : List T3} {z : List α × List T3} (hM : ts.length ≤ M) (hz : listP most p ts = some z) : ∀ y ∈ z.1, ∀ x ∈ f y, ect x ≤ M := by
  obtain ⟨w, h1, h2⟩ := bnd hz
  obtain ⟨y, h3, h4⟩ := bnd h2
  have h5 := (hd _ _ h1).length_le
  split at h4
  · injection h4 with h4; subst h4
    intro v hv
    rcases List.mem_cons.1 hv with rfl | hv
    · exact h _ _ hM h1
    · exact Zc9 hd h _ _ _ (by omega) h3 v hv
  · cases h4
theorem leM {a b : List T3} {M : Nat} (h : a <:+ b) (hM : b.length ≤ M) : a.length ≤ M := Nat.le_trans h.length_le hM
section
variable {e : Ps Ex} (hd : Dn e) (he : Hb e) {M : Nat}
include he
theorem e_b : Pb (fun x => [x]) M e := fun ts z hM h x hx => by
 rw [List.mem_singleton.1 hx]
 have := he _ _ h; omega
theorem Z8A {ts : List T3} {z : List Ex × List T3} (hM : ts.length ≤ M) (h : whereP e ts = some z) : ∀ x ∈ z.1, ect x ≤ M := by
  unfold whereP at h
  split at h
  · rename_i hi
    obtain ⟨v, h5, rfl⟩ := mpd h
    intro x hx
    rw [List.mem_singleton.1 hx]
    have := he _ _ h5
    have := (Zt hi).2
    omega
  · injection h with h; subst h; intro x hx; cases hx
include hd
theorem ZcI {most : Nat} {ts : List T3} {z : List Ex × List T3} (hM : ts.length ≤ M) (h : listP most e ts = some z) : ∀ x ∈ z.1, ect x ≤ M := fun x hx => Z6X hd.le (e_b he) hM h x hx x List.mem_cons_self
theorem Zfe : Pb (fun l => l) M (withinP e) := fun ts z hM h => by
 obtain ⟨a, h1, h2⟩ := bnd h
 obtain ⟨l, h3, h4⟩ := bnd h2
 obtain ⟨v, h5, rfl⟩ := mpd h4
 exact ZcI (z := l) hd he (leM (Zh _ _ _ _ h1).1 hM) h3
theorem Zb9 : ∀ n ts z, ts.length ≤ M → joinsG e n ts = some z → ∀ s ∈ z.1, ∀ x ∈ s.on, ect x ≤ M
  | 0, ts, z, _, hz => by rw [joinsG] at hz; injection hz with hz; subst hz; intro y hy; cases hy
  | n + 1, ts, z, hM, hz => by
    rw [joinsG] at hz
    split at hz
    · obtain ⟨w, h1, h2⟩ := bnd hz
      obtain ⟨y, h3, rfl⟩ := mpd h2
      have h4 := (Z5O hd _ _ h1).1
      have h5 := Z3K 1 Z18 ts
      intro v hv
      rcases List.mem_cons.1 hv with rfl | hv
      · obtain ⟨a, g1, g2⟩ := bnd h1
        obtain ⟨s, g3, g4⟩ := bnd g2
        obtain ⟨b, g5, g6⟩ := bnd g4
        obtain ⟨x, g7, g8⟩ := mpd g6
        subst g8
        have h6 : b.2.length ≤ M := leM ((Zh _ _ _ _ g5).1.trans ((Z3x _ _ g3).1.trans ((Zh _ _ _ _ g1).1.trans h5))) hM
        intro y hy
        rw [List.mem_singleton.1 hy]
        have := he _ _ g7; omega
      · exact Zb9 n _ _ (leM (h4.trans h5) hM) h3 v hv
    · injection hz with hz; subst hz; intro y hy; cases hy
theorem ZcP {ts : List T3} {z : St × List T3} (hM : ts.length ≤ M) (h : stmtP e ts = some z) : ∀ x ∈ exsOf z.1, ect x ≤ M := by
  unfold stmtP at h
  obtain ⟨w, h1, h⟩ := bnd h
  have hw : w.2.length ≤ M := leM (ZN 1 _ _ h1).1 hM
  split at h
  · unfold createP at h
    split at h
    · obtain ⟨n, _, h⟩ := bnd h
      obtain ⟨c, _, rfl⟩ := mpd h
      intro x hx; simp [exsOf, stK] at hx
    · obtain ⟨_, _, h⟩ := bnd h
      obtain ⟨_, _, h⟩ := bnd h
      obtain ⟨_, _, h⟩ := bnd h
      obtain ⟨_, _, h⟩ := bnd h
      obtain ⟨_, _, h⟩ := bnd h
      obtain ⟨_, _, h⟩ := bnd h
      obtain ⟨_, _, h⟩ := bnd h
      split at h
      · obtain ⟨v, _, rfl⟩ := mpd h
        intro x hx; simp [exsOf, stK] at hx
      · injection h with h; subst h
        intro x hx; simp [exsOf, stK] at hx
  split at h
  · obtain ⟨a, g1, h⟩ := bnd h
    obtain ⟨n, g2, h⟩ := bnd h
    have h3 : n.2.length ≤ M := leM ((ZD _ _ g2).1.trans (Zh _ _ _ _ g1).1) hw
    have rows : ∀ tb ns us z, us.length ≤ M → insRows e tb ns us = some z → ∀ x ∈ exsOf z.1, ect x ≤ M := fun tb ns us z hu h => by
      obtain ⟨a, k1, h⟩ := bnd h
      obtain ⟨r, k2, rfl⟩ := mpd h
      have := Z6X (Z2J hd.le).le (Zfe hd he) (leM (Zh _ _ _ _ k1).1 hu) k2
      intro x hx
      simp [exsOf, stK] at hx
      obtain ⟨l, hl, hx⟩ := hx
      exact this l hl x hx
    split at h
    · obtain ⟨l, g3, h⟩ := bnd h
      exact rows _ _ _ _ (leM (Z2J ZD.le _ _ g3).1 h3) h
    · exact rows _ _ _ _ h3 h
  split at h
  · obtain ⟨i, g1, h⟩ := bnd h
    obtain ⟨a, g2, h⟩ := bnd h
    obtain ⟨s, g3, h⟩ := bnd h
    obtain ⟨j, g4, h⟩ := bnd h
    have hi : Pb (fun i : Itm => [i.ex]) M (itemP e) := fun us z hu h => by
      unfold itemP at h
      split at h
      · injection h with h; subst h
        intro x hx
        rename_i ht
        rw [List.mem_singleton.1 hx]
        have := (Zt ht).2
        show ect (.mk 0 0 0 em em em 0 []) ≤ M
        rw [Z32]; omega
      · obtain ⟨v, h5, rfl⟩ := mpd h
        intro x hx
        rw [List.mem_singleton.1 hx]
        have := he _ _ h5
        dsimp only; omega
    have hk : Pb (fun k : Ky => [k.ex]) M (keyP e) := fun us z hu h => by
      obtain ⟨v, h5, h6⟩ := mpd h
      have := he _ _ h5
      split at h6 <;> subst h6 <;> intro x hx <;> rw [List.mem_singleton.1 hx] <;> dsimp only <;> omega
    have b1 := Z6X (Z5C hd).le hi hw g1
    have m1 := leM (Z1X (Z5C hd).le 16 _ _ g1) hw
    have m2 := leM (Zh _ _ _ _ g2).1 m1
    have m3 := leM (Z3x _ _ g3).1 m2
    have b2 := Zb9 hd he _ _ _ m3 g4
    split at h
    · obtain ⟨w2, k1, h⟩ := bnd h
      obtain ⟨g, k2, h⟩ := bnd h
      obtain ⟨o, k3, h⟩ := bnd h
      obtain ⟨l, k4, rfl⟩ := mpd h
      have m4 : j.2.length ≤ M := by
        have : ∀ n us z, joinsG e n us = some z → z.2 <:+ us := fun n => by
          induction n with
          | zero => intro us z h; rw [joinsG] at h; injection h with h; subst h; exact List.suffix_refl us
          | succ n ih =>
            intro us z h
            rw [joinsG] at h
            split at h
            · obtain ⟨w, h1, h2⟩ := bnd h
              obtain ⟨y, h3, rfl⟩ := mpd h2
              exact (ih _ _ h3).trans ((Z5O hd _ _ h1).1.trans (Z3K _ _ _))
            · injection h with h; subst h; exact List.suffix_refl us
        exact leM (this _ _ _ g4) m3
      have b3 := Z8A he m4 k1
      have m5 : w2.2.length ≤ M := by
        unfold whereP at k1
        split at k1
        · rename_i ht
          obtain ⟨v, h5, rfl⟩ := mpd k1
          exact leM ((hd _ _ h5).1.trans (Zt ht).1) m4
        · injection k1 with k1; subst k1; exact m4
      have b4 : ∀ x ∈ g.1, ect x ≤ M ∧ True := fun x hx => by
        unfold groupP at k2
        split at k2
        · rename_i ht
          obtain ⟨a, q1, q2⟩ := bnd k2
          exact ⟨ZcI hd he (leM ((Zh _ _ _ _ q1).1.trans (Zt ht).1) m5) q2 x hx, trivial⟩
        · injection k2 with k2; subst k2; cases hx
      have m6 : g.2.length ≤ M := by
        unfold groupP at k2
        split at k2
        · rename_i ht
          obtain ⟨a, q1, q2⟩ := bnd k2
          exact leM ((Z1X hd.le 16 _ _ q2).trans ((Zh _ _ _ _ q1).1.trans (Zt ht).1)) m5
        · injection k2 with k2; subst k2; exact m5
      have b5 : ∀ k ∈ o.1, ect k.ex ≤ M := fun k hx => by
        unfold orderP at k3
        split at k3
        · rename_i ht
          obtain ⟨a, q1, q2⟩ := bnd k3
          exact Z6X (Z5o hd).le hk (leM ((Zh _ _ _ _ q1).1.trans (Zt ht).1) m6) q2 k hx _ List.mem_cons_self
        · injection k3 with k3; subst k3; cases hx
      have hs : s.1.on = [] := by
        unfold sourceP at g3
        obtain ⟨n, _, g3⟩ := bnd g3
        split at g3
        · obtain ⟨m, _, rfl⟩ := mpd g3; rfl
        split at g3
        · obtain ⟨m, _, rfl⟩ := mpd g3; rfl
        · injection g3 with g3; subst g3; rfl
      intro x hx
      simp [exsOf, stK, hs] at hx
      rcases hx with ⟨a, ha, rfl⟩ | ⟨_, ⟨a, ha, rfl⟩, hx⟩ | ⟨a, ha, rfl⟩ | hx | hx
      · exact b1 a ha _ List.mem_cons_self
      · exact b2 a ha x hx
      · exact b5 a ha
      · exact b3 x hx
      · exact (b4 x hx).1
    · cases h
  split at h
  · obtain ⟨n, g1, h⟩ := bnd h
    obtain ⟨a, g2, h⟩ := bnd h
    obtain ⟨l, g3, h⟩ := bnd h
    obtain ⟨w2, g4, rfl⟩ := mpd h
    have hs : Pb (fun k : ByteArray × Ex => [k.2]) M (setP e) := fun us z hu h => by
      obtain ⟨a, h1, h2⟩ := bnd h
      obtain ⟨l, h3, h4⟩ := bnd h2
      obtain ⟨v, h5, rfl⟩ := mpd h4
      intro x hx
      rw [List.mem_singleton.1 hx]
      have := he _ _ h5
      have := (Zh _ _ _ _ h3).2
      have := (ZD _ _ h1).2
      dsimp only; omega
    have m1 := leM ((Zh _ _ _ _ g2).1.trans (ZD _ _ g1).1) hw
    have b1 := Z6X (Z6F hd).le hs m1 g3
    have b2 := Z8A he (leM (Z1X (Z6F hd).le 16 _ _ g3) m1) g4
    intro x hx
    simp [exsOf, stK] at hx
    rcases hx with hx | ⟨a, ha⟩
    · exact b2 x hx
    · exact b1 _ ha _ List.mem_cons_self
  split at h
  · obtain ⟨a, g1, h⟩ := bnd h
    obtain ⟨n, g2, h⟩ := bnd h
    obtain ⟨w2, g3, rfl⟩ := mpd h
    have b2 := Z8A he (leM ((ZD _ _ g2).1.trans (Zh _ _ _ _ g1).1) hw) g3
    intro x hx
    simp [exsOf, stK] at hx
    exact b2 x hx
  split at h
  · injection h with h; subst h; intro x hx; simp [exsOf, stK] at hx
  split at h
  · injection h with h; subst h; intro x hx; simp [exsOf, stK] at hx
  split at h
  · injection h with h; subst h; intro x hx; simp [exsOf, stK] at hx
  · cases h
end
end Go.Pz
set_option maxRecDepth 20000
namespace Go.Proofs.YtbedigkncjbggaaGreatDoor
open Go Go.Vc
open Go.Pz
abbrev hgK (xs : List Ex) (i : Nat) : Nat := hgts (xs.take i)
theorem Zdq (xs : List Ex) (x : Ex) : hgts (xs ++ [x]) = max (hgts xs) (hgt x) := by
 induction xs with
 | nil => simp [hgts]
 | cons y ys ih => rw [List.cons_append, hgts, hgts, ih]; omega
theorem Zb0 {xs : List Ex} {i : Nat} (h : i < xs.length) : hgK xs (i + 1) = max (hgK xs i) (hgt (xs.getD i ex0)) := by
 show hgts (xs.take (i + 1)) = _
 rw [List.take_add_one, List.getElem?_eq_getElem h, Option.toList_some, Zdq, List.getD_eq_getElem?_getD, List.getElem?_eq_getElem h]
 rfl
theorem Z6T (x : Ex) : hgt x = hgts x.KS + 1 := by cases x; rw [hgt]; rfl
theorem Z3j {xs : List Ex} {i : Nat} (h : i < xs.length) : xs.getD i ex0 ∈ xs := by
 rw [List.getD_eq_getElem?_getD, List.getElem?_eq_getElem h]; exact List.getElem_mem h
theorem Z4I {xs : List Ex} {i : Nat} (h : i < xs.length) : xs[i]? = some (xs.getD i ex0) := by
 rw [List.getD_eq_getElem?_getD, List.getElem?_eq_getElem h]; rfl
theorem Z7C (x : Ex) (hx : ect x ≤ 4096) (ih : ∀ y ∈ x.KS, CallTy Tryz.prog Z4K [.rep (ExR y)] (.is (.int .i64 (hgt y : Nat)))) : CallTy Tryz.prog Z4K [.rep (ExR x)] (.is (.int .i64 (hgt x : Nat))) :=
 CallTy.of (fn := Tryz.f66) Tryz.func66 (n := 20) rfl rfl rfl (fun _ _ => by kernel_rfl) fun E W => by
 have hlen := Z8D x.KS
 rw [Z2U] at hx
 have hhx := Z60 x.KS
 refine J.openA (s := 0) rfl (fun a0 l0 q0 b0 o0 hl0 ha0 => ?_)
 subst hl0
 repeat apply Sq
 apply Pn
 refine JO.box rfl rfl fun b1 => ?_
 refine Jt (Z2 rfl) rfl ?_
 apply Ni
 repeat first | apply Nx | apply Nb
 refine Sl [1] (.cons rfl .nil) ?_
 repeat apply Sq
 apply Pn
 refine Jt (Z2 rfl) rfl ?_
 apply Ni
 repeat first | apply Nx | apply Nb
 refine Sl [1, 3] (.cons rfl (.cons rfl .nil)) ?_
 repeat apply Sq
 apply Pn
 refine Jt (Z1 Z2C rfl) rfl ?_
 refine Jt (Z3 Zn rfl rfl) rfl ?_
 refine Jt (Zq Zj rfl) rfl ?_
 refine Jt (Z0 rfl) rfl ?_
 apply Ni
 repeat first | apply Nx | apply Nb
 refine Sl [3, 7, 8, 9] (.cons rfl (.cons rfl (.cons rfl (.cons rfl .nil)))) ?_
 repeat apply Sq
 apply Bk
 repeat apply Sq
 refine J.loopG (α := Nat) (fun i => [(3, .is (.int .i64 (hgK x.KS i : Nat))), (7, .is (.slice a0 x.KS.length q0)), (8, .is (.int .i64 (x.KS.length : Nat))), (9, .is (.int .i64 (i : Nat)))]) (fun i => [⟨b1, Z6, .is (.agg (exCells x.K x.VK x.VN x.VS x.TB x.NM x.SL a0 x.KS.length q0).toArray)⟩]) (fun i => fun _ => True) (fun i => i ≤ x.KS.length) (fun i => x.KS.length - i) 0 [3, 7, 8, 9] (.cons rfl (.cons rfl (.cons rfl (.cons rfl .nil)))) rfl (fun _ => trivial) (by omega) fun i hi => ?_
 try dsimp only
 try dsimp only at hi
 repeat apply Sq
 apply Pn
 refine Jt (Z15 rfl rfl) rfl ?_
 apply Ni
 repeat first | apply Nx | apply Nb
 refine Sl [3, 7, 8, 9, 10] (.cons rfl (.cons rfl (.cons rfl (.cons rfl (.cons rfl .nil))))) ?_
 repeat apply Sq
 refine Cd rfl (fun ht10 => ?_) (fun ht10 => ?_)
 ·
  try simp only [dT, dF] at ht10
  apply Sk
  repeat first | apply Nx | apply Nb
  repeat apply Sq
  apply Bk
  repeat apply Sq
  apply Pn
  refine Jt (Z8 Z1C rfl (ha0 (by omega)) rfl (by omega) (by omega)) rfl ?_
  refine Jt (Z3y (kid := x.KS.getD i ex0) Zd rfl (by repeat first | exact Mh | apply Mt) (ha0 (by omega)) (Z4I (by omega)) (by omega)) rfl ?_
  refine JO.alloc Z13 rfl fun b5 => ?_
  refine JO.m (Z4 rfl rfl (by repeat first | exact .here | apply Ut) (by first | exact cI rfl rfl | exact cE) (by first | exact cI rfl rfl | exact cE | exact cO) Zo) (by rfl) ?_
  apply Ni
  repeat first | apply Nx | apply Nb
  refine Sl [3, 5, 7, 8, 9] (.cons rfl (.cons rfl (.cons rfl (.cons rfl (.cons rfl .nil))))) ?_
  repeat apply Sq
  apply Pn
  refine Jt (Z0 rfl) rfl ?_
  refine Jt (Z2G Zd rfl) rfl ?_
  refine Jt (ZI rfl (ih _ (Z3j (by omega))) (.one rfl .nil)) rfl ?_
  refine Jt (Zcb (cc := ((hgK x.KS (i + 1) : Nat) : Int)) rfl rfl (by rw [Zb0 (by omega)]; split <;> omega)) rfl ?_
  refine Jt (Z2 rfl) rfl ?_
  apply Ni
  repeat first | apply Nx | apply Nb
  refine Sl [3, 7, 8, 9] (.cons rfl (.cons rfl (.cons rfl (.cons rfl .nil)))) ?_
  repeat apply Sq
  apply Pn
  refine Jt (Zz (cc := ((i + 1 : Nat) : Int)) rfl rfl (by omega) (by omega) (by have := hlen; omega)) rfl ?_
  refine Jt (Z0 rfl) rfl ?_
  apply Ni
  repeat refine JX.normal_block ?_
  refine JX.roundG (x := i) (i + 1) ?_ ?_ [3, 7, 8, 9] ?_ ?_ ?_ ?_
  · exact (by omega)
  · exact (by omega)
  · exact (.cons rfl (.cons rfl (.cons rfl (.cons rfl .nil))))
  · repeat (first | exact .all | exact .nil | refine Has.own (by repeat first | exact .here | apply Tl.past | apply Tl.there) ?_ | refine Has.cons (by repeat (first | exact .here | apply Pk.past | apply Pk.there)) ?_)
  · exact fun G hG => by repeat (first | exact hG | refine List.mem_cons_of_mem _ ?_)
  · exact fun _ _ _ => fun _ _ => trivial
 ·
  try simp only [dT, dF] at ht10
  repeat apply Sq
  refine J.exit ?_
  repeat first | refine Ht ?_ | refine Ms rfl ?_ | refine Ep ?_
  repeat first | apply Nx | apply Nb
  repeat apply Sq
  apply Pn
  refine Jt (Z0 rfl) rfl ?_
  refine Jt (Zz (cc := ((hgt x : Nat) : Int)) rfl rfl (by rw [Z6T, show i = x.KS.length by omega, hgK, List.take_length]; omega) (by have := Z6T x; omega) (by have := Z6T x; omega)) rfl ?_
  refine Jt (Z2 rfl) rfl ?_
  apply Ni
  repeat first | apply Nx | apply Nb
  refine Sl [2] (.cons rfl .nil) ?_
  repeat apply Sq
  apply Rt
  repeat first | apply Rp | apply Rb
  exact JX.ret1sub rfl rfl rfl (Sub.refl _)
theorem Z6w : ∀ (n : Nat) (x : Ex), ect x ≤ n → ect x ≤ 4096 → CallTy Tryz.prog Z4K [.rep (ExR x)] (.is (.int .i64 (hgt x : Nat)))
 | 0, x, h, _ => absurd h (by rw [Z2U]; omega)
 | n + 1, x, h, hx => Z7C x hx fun y hy => Z6w n y (by have := Z4y hy; rw [Z2U] at h; omega) (by have := Z4y hy; rw [Z2U] at hx; omega)
theorem Z7B (x : Ex) (hx : ect x ≤ 4096) (ih : ∀ y ∈ x.KS, CallTy Tryz.prog Z4H [.rep (ExR y)] (.is (.int .i64 (hgt y : Nat)))) : CallTy Tryz.prog Z4H [.rep (ExR x)] (.is (.int .i64 (hgt x : Nat))) :=
 CallTy.of (fn := Tryz.f16) Tryz.func16 (n := 22) rfl rfl rfl (fun _ _ => by kernel_rfl) fun E W => by
 have hlen := Z8D x.KS
 rw [Z2U] at hx
 have hhx := Z60 x.KS
 refine J.openA (s := 0) rfl (fun a0 l0 q0 b0 o0 hl0 ha0 => ?_)
 subst hl0
 repeat apply Sq
 apply Pn
 refine JO.box rfl rfl fun b1 => ?_
 refine Jt (Z2 rfl) rfl ?_
 apply Ni
 repeat first | apply Nx | apply Nb
 refine Sl [1] (.cons rfl .nil) ?_
 repeat apply Sq
 apply Pn
 refine Jt (Z2 rfl) rfl ?_
 apply Ni
 repeat first | apply Nx | apply Nb
 refine Sl [1, 3] (.cons rfl (.cons rfl .nil)) ?_
 repeat apply Sq
 apply Pn
 refine Jt (Z2 rfl) rfl ?_
 apply Ni
 repeat first | apply Nx | apply Nb
 refine Sl [1, 3, 4] (.cons rfl (.cons rfl (.cons rfl .nil))) ?_
 repeat apply Sq
 apply Bk
 repeat apply Sq
 refine J.loopG (α := Nat) (fun i => [(1, .is (.pointer (some ⟨b1, 0, none⟩))), (3, .is (.int .i64 (hgK x.KS i : Nat))), (4, .is (.int .i64 (i : Nat)))]) (fun i => [⟨b1, Z6, .is (.agg (exCells x.K x.VK x.VN x.VS x.TB x.NM x.SL a0 x.KS.length q0).toArray)⟩]) (fun i => fun _ => True) (fun i => i ≤ x.KS.length) (fun i => x.KS.length - i) 0 [1, 3, 4] (.cons rfl (.cons rfl (.cons rfl .nil))) rfl (fun _ => trivial) (by omega) fun i hi => ?_
 try dsimp only
 try dsimp only at hi
 repeat apply Sq
 apply Pn
 refine Jt (Z0 rfl) rfl ?_
 refine Jt (Z1 Z2C rfl) rfl ?_
 refine Jt (Z3 Zn rfl rfl) rfl ?_
 refine Jt (Zq Zj rfl) rfl ?_
 refine Jt (Z15 rfl rfl) rfl ?_
 apply Ni
 repeat first | apply Nx | apply Nb
 refine Sl [1, 3, 4, 9] (.cons rfl (.cons rfl (.cons rfl (.cons rfl .nil)))) ?_
 repeat apply Sq
 refine Cd rfl (fun ht9 => ?_) (fun ht9 => ?_)
 ·
  try simp only [dT, dF] at ht9
  apply Sk
  repeat first | apply Nx | apply Nb
  repeat apply Sq
  apply Bk
  repeat apply Sq
  apply Pn
  refine Jt (Z0 rfl) rfl ?_
  refine Jt (Z1 Z2C rfl) rfl ?_
  refine Jt (Z3 Zn rfl rfl) rfl ?_
  refine Jt (Z0 rfl) rfl ?_
  refine Jt (Z8 Z1C rfl (ha0 (by omega)) rfl (by omega) (by omega)) rfl ?_
  refine Jt (Z3y (kid := x.KS.getD i ex0) Zd rfl (by repeat first | exact Mh | apply Mt) (ha0 (by omega)) (Z4I (by omega)) (by omega)) rfl ?_
  refine Jt (ZI rfl (ih _ (Z3j (by omega))) (.one rfl .nil)) rfl ?_
  refine Jt (Zcb (cc := ((hgK x.KS (i + 1) : Nat) : Int)) rfl rfl (by rw [Zb0 (by omega)]; split <;> omega)) rfl ?_
  refine Jt (Z2 rfl) rfl ?_
  apply Ni
  repeat first | apply Nx | apply Nb
  refine Sl [1, 3, 4] (.cons rfl (.cons rfl (.cons rfl .nil))) ?_
  repeat apply Sq
  apply Pn
  refine Jt (Z0 rfl) rfl ?_
  refine Jt (Zz (cc := ((i + 1 : Nat) : Int)) rfl rfl (by omega) (by omega) (by have := hlen; omega)) rfl ?_
  refine Jt (Z2 rfl) rfl ?_
  apply Ni
  repeat refine JX.normal_block ?_
  refine JX.roundG (x := i) (i + 1) ?_ ?_ [1, 3, 4] ?_ ?_ ?_ ?_
  · exact (by omega)
  · exact (by omega)
  · exact (.cons rfl (.cons rfl (.cons rfl .nil)))
  · repeat (first | exact .all | exact .nil | refine Has.own (by repeat first | exact .here | apply Tl.past | apply Tl.there) ?_ | refine Has.cons (by repeat (first | exact .here | apply Pk.past | apply Pk.there)) ?_)
  · exact fun G hG => by repeat (first | exact hG | refine List.mem_cons_of_mem _ ?_)
  · exact fun _ _ _ => fun _ _ => trivial
 ·
  try simp only [dT, dF] at ht9
  repeat apply Sq
  refine J.exit ?_
  repeat first | refine Ht ?_ | refine Ms rfl ?_ | refine Ep ?_
  repeat first | apply Nx | apply Nb
  repeat apply Sq
  apply Pn
  refine Jt (Z0 rfl) rfl ?_
  refine Jt (Zz (cc := ((hgt x : Nat) : Int)) rfl rfl (by rw [Z6T, show i = x.KS.length by omega, hgK, List.take_length]; omega) (by have := Z6T x; omega) (by have := Z6T x; omega)) rfl ?_
  refine Jt (Z2 rfl) rfl ?_
  apply Ni
  repeat first | apply Nx | apply Nb
  refine Sl [2] (.cons rfl .nil) ?_
  repeat apply Sq
  apply Rt
  repeat first | apply Rp | apply Rb
  exact JX.ret1sub rfl rfl rfl (Sub.refl _)
theorem Z6J : ∀ (n : Nat) (x : Ex), ect x ≤ n → ect x ≤ 4096 → CallTy Tryz.prog Z4H [.rep (ExR x)] (.is (.int .i64 (hgt x : Nat)))
 | 0, x, h, _ => absurd h (by rw [Z2U]; omega)
 | n + 1, x, h, hx => Z7B x hx fun y hy => Z6J n y (by have := Z4y hy; rw [Z2U] at h; omega) (by have := Z4y hy; rw [Z2U] at hx; omega)
end Go.Proofs.YtbedigkncjbggaaGreatDoor
