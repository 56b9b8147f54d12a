/- The parser: a statement. No condition. -/
import Derived.Test.YtbedigkncjbggaaGreatDoorXQ8
import Derived.Test.YtbedigkncjbggaaGreatDoorXQ4
import Derived.Test.YtbedigkncjbggaaGreatDoorXG7
import Derived.Test.YtbedigkncjbggaaGreatDoorXG6
set_option maxRecDepth 20000
namespace Go.Proofs.YtbedigkncjbggaaGreatDoor
open Go Go.Vc
open Go.Pz
theorem Z2j {N : Nat} {st : Pz.St} : Cnt (.rep (StR N st)) 14 := fun E v w h => by
  obtain ⟨vc, vn, vr, vi, vf, vw, vg, vo, vs, rfl, h1, h2, h3, h4, h5, h6, h7, h8, h9⟩ := (h : Pers E w (StR N st v)).now
  have hs : ∀ {α : Type} {En : Enc α} {G : GoS} {xs : List α} {v : Value}, SlE En G xs v w → v.oneCell' = true := fun h => by
    obtain ⟨ps, a, len, cap, _, rfl, _⟩ := h; rfl
  have hx : ∀ {xs : List Ex} {v : Value}, ExsR xs v w → v.oneCell' = true := fun h => by
    obtain ⟨a, len, cap, rfl, _⟩ := h; rfl
  refine ⟨rfl, fun u hu => ?_⟩
  simp only [Value.cells, List.mem_cons, List.mem_nil_iff, or_false] at hu
  rcases hu with rfl | rfl | rfl | rfl | rfl | rfl | rfl | rfl | rfl | rfl | rfl | rfl | rfl | rfl <;> first | rfl | exact hs (by assumption) | exact hx (by assumption)
theorem Z52 {N : Nat} {st : Pz.St} : ∀ E v w, (Ty.rep (StR N st)).p E v w → ∃ cs, v = .agg cs ∧ cs.size = 14 := fun E v w h => by
 obtain ⟨vc, vn, vr, vi, vf, vw, vg, vo, vs, rfl, _⟩ := (h : Pers E w (StR N st v)).now
 exact ⟨_, rfl, rfl⟩
theorem JO.mapMkS {P : Program} {c : Ctx} {K : List (Nat × Ty)} {L : List Own} {Φ : List (World → Prop)} {Q : Exit → Act → World → Prop} {ops : Array Oper} {rest : List Oper} {d : Nat} {t ty : TypeId} {pos : String} {after : Array Edge} (hd : Nat.blt d c.n = true) (hn : ∀ r, JO P c ((d, .is (.map (some r))) :: K) (⟨r, 0, .ob (sObj [] 0)⟩ :: L) Φ ops rest Q) : JO P c K L Φ ops (⟨some d, .makeMap t none, ty, pos, after, none⟩ :: rest) Q := JO.mapMk hd hn
theorem Z8T {k : Int} {bx : Nat} {X : Nat → Prop} {w : World} (h : Pers X w (PlF k (.func (.func Z1l) #[] #[.pointer (some ⟨bx, 0, none⟩)]))) : Pers X w (HeapIs bx [.int .i64 k] Z3R) := fun w' hk => by
 obtain ⟨by_, e, h1⟩ := h w' hk
 injection e with _ _ e
 injection e with e
 injection e with e _
 injection e with e
 injection e with e
 injection e with e _
 subst e
 exact h1
def stF (b7 b8 b9 : Nat) : SEs := [(Z5u, fv Z2A, 0), (Z4P, fv Z2z, 1), (Z4O, fv Z2O, 2), (Z4J, fv Z2B, 3), (Z4N, fv Z2y, 4), (Z6O, .func (.func Z1l) #[] #[.pointer (some ⟨b7, 0, none⟩)], 5), (Z5O, .func (.func Z1l) #[] #[.pointer (some ⟨b8, 0, none⟩)], 6), (Z4l, .func (.func Z1l) #[] #[.pointer (some ⟨b9, 0, none⟩)], 7)]
theorem Zfv {b7 b8 b9 : Nat} {w : ByteArray} (h : (sGet w (stF b7 b8 b9)).isSome = true) : w = Z5u ∨ w = Z4P ∨ w = Z4O ∨ w = Z4J ∨ w = Z4N ∨ w = Z6O ∨ w = Z5O ∨ w = Z4l := by
 simp only [stF, sGet] at h
 repeat' split at h
 all_goals first | (cases h; done) | simp [*]
theorem Zfr {b7 b8 b9 : Nat} {e : Ps Ex} {ts r1 : List T3} {k1 n1 : Int} {w : ByteArray} (hz : takeP 1 ts = some (⟨k1, w, n1⟩, r1)) (h : (sGet w (stF b7 b8 b9)).isSome = false) : stmtP e ts = none := by
 have hne : ∀ s, (s = Z5u ∨ s = Z4P ∨ s = Z4O ∨ s = Z4J ∨ s = Z4N ∨ s = Z6O ∨ s = Z5O ∨ s = Z4l) → ¬ sq w s = true := fun s hs hq => by
  have := Z93 hq
  subst this
  rcases hs with rfl | rfl | rfl | rfl | rfl | rfl | rfl | rfl <;> simp [stF, sGet] at h
 unfold stmtP
 rw [hz, Option.bind_some]
 rw [if_neg (hne _ (by simp)), if_neg (hne _ (by simp)), if_neg (hne _ (by simp)), if_neg (hne _ (by simp)), if_neg (hne _ (by simp)), if_neg (hne _ (by simp)), if_neg (hne _ (by simp)), if_neg (hne _ (by simp))]
attribute [local irreducible] SlE ExsR
theorem Z5d (N : Nat) (T : Tk) (hc : T.ts.length ≤ T.cap) (h9 : T.ts.length ≤ 2049) (b : Nat) (ts : List T3) (hts : ts <:+ T.ts) (M : Nat) (hM : ts.length < M) : CallP Tryz.prog Z3a [PB T b ts] [T.G, AF, NH N] [.is (.pointer (some ⟨b, 0, none⟩))] (stmtP (exprP M) ts = none) flt (fun z : Pz.St × List T3 => stmtP (exprP M) ts = some z) (fun z => [PB T b z.2]) (fun z => .rep (StR N z.1)) :=
CallP.ofN (N := N) (List.mem_cons_of_mem _ (List.mem_cons_of_mem _ List.mem_cons_self)) (fn := Tryz.f26) Tryz.func26 (n := 43) rfl rfl rfl (fun _ _ => by kernel_rfl) fun E W hNW hb0 => by
 repeat apply Sq
 apply Pn
 refine JO.alloc Z10 rfl fun b2 => ?_
 apply Ni
 repeat first | apply Nx | apply Nb
 refine Sl [0, 2] (.cons rfl (.cons rfl .nil)) ?_
 repeat apply Sq
 refine J.regS 17 hmx (by kernel_rfl) (by kernel_rfl) ?_
 refine Rq (Z0 rfl) ?_
 refine Rq (Z0 rfl) ?_
 refine Rq (Z5 rfl) ?_
 refine Rq (Z1 Zh rfl) ?_
 refine Rq (Z3 Zt rfl rfl) ?_
 refine Rq (Zq ZU rfl) ?_
 refine Rq (Z2L rfl rfl) ?_
 refine Rq (Z0 rfl) ?_
 refine Rg rfl rfl rfl (fun hg => Z0 (.inl rfl)) ?_
 refine Rg rfl rfl rfl (fun hg => Z5 (.inr ⟨_, rfl, id⟩)) ?_
 refine Rg rfl rfl rfl (fun hg => Z1 Zh (.inr ⟨_, rfl, id⟩)) ?_
 refine Rg rfl rfl rfl (fun hg => Z3 Zt (.inr ⟨_, rfl, id⟩) rfl) ?_
 refine Rg rfl rfl rfl (fun hg => Z7 ZT (.inr ⟨_, rfl, id⟩) rfl (.inl rfl) (by omega) (Z2c (Z2m hg))) ?_
 refine Rg rfl rfl rfl (fun hg => Z1 Z2r (.inr ⟨_, rfl, id⟩)) ?_
 refine Rg rfl rfl rfl (fun hg => ZA (enc := T3.cells) (sz := 3) (i := T.k ts) (j := 0) (y := ts.headD t3D) (u := .int .i64 (ts.headD t3D).k) Zy (.inr ⟨_, rfl, id⟩) (by repeat first | exact Mh | apply Mt) rfl (Tk.head hts (Z2m hg)) (by rw [Tk.j_eq hc hts (Z2m hg)]; omega) rfl) ?_
 refine Rg rfl rfl rfl (fun hg => Z1e (.inr ⟨_, rfl, id⟩) (.inl rfl)) ?_
 refine Rq (ZD rfl rfl rfl id) ?_
 apply Rn
 refine FinS.tail0 ?_
 refine JO.callPK (Lr := _) (Z8 (.pointer (some ⟨b, 0, none⟩)) _) rfl (Z19 _) ZV (.one rfl (.one rfl .nil)) (fun hbad => ?_) ?_
 · exact JX.pnI (by unfold stmtP; rw [Z9s, ← Z5J, hbad]; rfl)
 intro z hz
 have hK : isK 1 ts = true := by rw [← Z5J]; exact hz
 try dsimp only [nA, cA]
 apply Ni
 repeat first | apply Nx | apply Nb
 refine Sl [0, 2] (.cons rfl (.cons rfl .nil)) ?_
 repeat apply Sq
 apply Pn
 refine JO.mapMkS rfl (fun r24 => ?_)
 refine JO.m (Z1I Zo Zs rfl rfl rfl (by simp [sGet]) .here) (by rfl) ?_
 refine JO.m (Z1I Zo Zs rfl rfl rfl (by simp [sGet]) .here) (by rfl) ?_
 refine JO.m (Z1I Zo Zs rfl rfl rfl (by simp [sGet]) .here) (by rfl) ?_
 refine JO.m (Z1I Zo Zs rfl rfl rfl (by simp [sGet]) .here) (by rfl) ?_
 refine JO.m (Z1I Zo Zs rfl rfl rfl (by simp [sGet]) .here) (by rfl) ?_
 refine Jt (ZM rfl (Z5e 7) (.one rfl .nil)) rfl ?_
 refine JO.open_ (s := 25) (R := PlF 7) rfl ?_
 rintro _ ⟨_, b7, rfl, _⟩
 refine JO.fact (HeapIs b7 [.int .i64 7] Z3R) (fun X w hf _ => Z8T (hf _ List.mem_cons_self)) ?_
 refine JO.m (Z1I Zo Zs rfl rfl rfl (by simp [sGet]) .here) (by rfl) ?_
 refine Jt (ZM rfl (Z5e 8) (.one rfl .nil)) rfl ?_
 refine JO.open_ (s := 26) (R := PlF 8) rfl ?_
 rintro _ ⟨_, b8, rfl, _⟩
 refine JO.fact (HeapIs b8 [.int .i64 8] Z3R) (fun X w hf _ => Z8T (hf _ List.mem_cons_self)) ?_
 refine JO.m (Z1I Zo Zs rfl rfl rfl (by simp [sGet]) .here) (by rfl) ?_
 refine Jt (ZM rfl (Z5e 9) (.one rfl .nil)) rfl ?_
 refine JO.open_ (s := 27) (R := PlF 9) rfl ?_
 rintro _ ⟨_, b9, rfl, _⟩
 refine JO.fact (HeapIs b9 [.int .i64 9] Z3R) (fun X w hf _ => Z8T (hf _ List.mem_cons_self)) ?_
 refine JO.m (Z1I Zo Zs rfl rfl rfl (by simp [sGet]) .here) (by rfl) ?_
 refine Jt (Z0 rfl) rfl ?_
 refine Jt (Z2 rfl) rfl ?_
 apply Ni
 repeat first | apply Nx | apply Nb
 refine Sl [0, 2, 3] (.cons rfl (.cons rfl (.cons rfl .nil))) ?_
 repeat apply Sq
 apply Pn
 refine Jt (Z0 rfl) rfl ?_
 refine Jt (Z0 rfl) rfl ?_
 refine JO.callPK (Lr := [_, _]) (Z1i T hc b ts hts 1) rfl (List.perm_append_comm (l₁ := [_, _]) (l₂ := [_])) (fun F hF => by repeat (first | (rcases Mc.1 hF with rfl | hF; · (repeat first | exact Mh | apply Mt)) | (cases hF; done))) (.one rfl (.one rfl .nil)) (fun hbad => ?_) ?_
 · exact JX.pnI (by unfold stmtP; rw [hbad]; rfl)
 rintro ⟨⟨k1, w, n1⟩, r1⟩ hz1
 try dsimp only [nA, cA]
 refine Jt (Z3u (off := 1) (by kernel_rfl) rfl rfl) rfl ?_
 refine Jt (Zf3 (l := stF b7 b8 b9) (V := (sGet w (stF b7 b8 b9)).getD .nilFunc) (B := (sGet w (stF b7 b8 b9)).isSome) Zo Zs Z4f rfl rfl (List.mem_cons_of_mem _ List.mem_cons_self) rfl rfl) rfl ?_
 refine Jt (Z0 rfl) rfl ?_
 refine Jt (Zem rfl rfl) rfl ?_
 refine Jt (Zem rfl rfl) rfl ?_
 refine Jt (Z2 rfl) rfl ?_
 refine Jt (Z2 rfl) rfl ?_
 apply Ni
 repeat first | apply Nx | apply Nb
 refine Sl [0, 2, 4, 5] (.cons rfl (.cons rfl (.cons rfl (.cons rfl .nil)))) ?_
 repeat apply Sq
 apply Pn
 refine Jt (Z0 rfl) rfl ?_
 refine Jt (Z0 rfl) rfl ?_
 refine JO.callPK (Lr := _) (Z8 (.pointer (some ⟨b, 0, none⟩)) (sGet w (stF b7 b8 b9)).isSome) rfl (Z19 _) ZV (.one rfl (.one rfl .nil)) (fun hbad => ?_) ?_
 · exact JX.pnI (by exact Zfr hz1 hbad)
 intro _ hfo
 try dsimp only [nA, cA]
 apply Ni
 repeat first | apply Nx | apply Nb
 refine Sl [0, 2, 4] (.cons rfl (.cons rfl (.cons rfl .nil))) ?_
 rcases Zfv hfo with hw | hw | hw | hw | hw | hw | hw | hw
 ·
  subst hw
  rw [show (sGet Z5u (stF b7 b8 b9)).getD .nilFunc = fv Z2A by simp [stF, sGet]]
  repeat apply Sq
  apply Pn
  refine Jt (Z0 rfl) rfl ?_
  refine Jt (Z0 rfl) rfl ?_
  refine JO.callPvK (cp := []) (Lr := [_, _]) rfl (Z64 N T hc h9 b r1 (show r1 <:+ T.ts from (ZL 1 _ _ hz1).1.trans hts)) rfl (.refl _) (fun F hF => by repeat (first | (rcases Mc.1 hF with rfl | hF; · (repeat first | exact Mh | apply Mt)) | (cases hF; done))) (.one rfl .nil) (fun hbad => ?_) ?_
  · exact JX.pnI (by unfold stmtP; rw [hz1, Option.bind_some, if_pos (by rfl), hbad])
  intro z hz
  try dsimp only [nA, cA]
  refine JO.m (Z4 rfl rfl (by repeat first | exact .here | apply Ut) (by first | exact cI rfl rfl | exact cE) (by first | exact Z15 rfl rfl | exact Z58 | exact Z3r | exact Z2j) Zl) (by rfl) ?_
  apply Ni
  repeat first | apply Nx | apply Nb
  refine Sl [2] (.cons rfl .nil) ?_
  repeat apply Sq
  apply Rt
  repeat first | apply Rp | apply Rb
  refine JX.toP ?_
  exact JX.retLCs (Lr := [_, _]) (L1 := fun z : Pz.St × List T3 => [PB T b z.2]) (R := fun z => .rep (StR N z.1)) rfl z (by unfold stmtP; rw [hz1, Option.bind_some, if_pos (by rfl), hz]) (.refl _) rfl rfl hb0 rfl Zc HasOwn.mem Z52 (Sub.refl _)
 ·
  subst hw
  rw [show (sGet Z4P (stF b7 b8 b9)).getD .nilFunc = fv Z2z by simp [stF, sGet]]
  repeat apply Sq
  apply Pn
  refine Jt (Z0 rfl) rfl ?_
  refine Jt (Z0 rfl) rfl ?_
  refine JO.callPvK (cp := []) (Lr := [_, _]) rfl (Z61 N T hc h9 b r1 (show r1 <:+ T.ts from (ZL 1 _ _ hz1).1.trans hts) (exprP M) (Z37 M) (fun us hus hu => Z82 T hc b M us hus (by have : r1.length < ts.length := (ZL 1 _ _ hz1).2; omega))) rfl (.refl _) (fun F hF => by repeat (first | (rcases Mc.1 hF with rfl | hF; · (repeat first | exact Mh | apply Mt)) | (cases hF; done))) (.one rfl .nil) (fun hbad => ?_) ?_
  · exact JX.pnI (by unfold stmtP; rw [hz1, Option.bind_some, if_neg (by exact Bool.false_ne_true), if_pos (by rfl), hbad])
  intro z hz
  try dsimp only [nA, cA]
  refine JO.m (Z4 rfl rfl (by repeat first | exact .here | apply Ut) (by first | exact cI rfl rfl | exact cE) (by first | exact Z15 rfl rfl | exact Z58 | exact Z3r | exact Z2j) Zl) (by rfl) ?_
  apply Ni
  repeat first | apply Nx | apply Nb
  refine Sl [2] (.cons rfl .nil) ?_
  repeat apply Sq
  apply Rt
  repeat first | apply Rp | apply Rb
  refine JX.toP ?_
  exact JX.retLCs (Lr := [_, _]) (L1 := fun z : Pz.St × List T3 => [PB T b z.2]) (R := fun z => .rep (StR N z.1)) rfl z (by unfold stmtP; rw [hz1, Option.bind_some, if_neg (by exact Bool.false_ne_true), if_pos (by rfl), hz]) (.refl _) rfl rfl hb0 rfl Zc HasOwn.mem Z52 (Sub.refl _)
 ·
  subst hw
  rw [show (sGet Z4O (stF b7 b8 b9)).getD .nilFunc = fv Z2O by simp [stF, sGet]]
  repeat apply Sq
  apply Pn
  refine Jt (Z0 rfl) rfl ?_
  refine Jt (Z0 rfl) rfl ?_
  refine JO.callPvK (cp := []) (Lr := [_, _]) rfl (Z6s N T hc h9 b r1 (show r1 <:+ T.ts from (ZL 1 _ _ hz1).1.trans hts) (exprP M) (Z37 M) (fun us hus hu => Z82 T hc b M us hus (by have : r1.length < ts.length := (ZL 1 _ _ hz1).2; omega))) rfl (.refl _) (fun F hF => by repeat (first | (rcases Mc.1 hF with rfl | hF; · (repeat first | exact Mh | apply Mt)) | (cases hF; done))) (.one rfl .nil) (fun hbad => ?_) ?_
  · exact JX.pnI (by unfold stmtP; rw [hz1, Option.bind_some, if_neg (by exact Bool.false_ne_true), if_neg (by exact Bool.false_ne_true), if_pos (by rfl), hbad])
  intro z hz
  try dsimp only [nA, cA]
  refine JO.m (Z4 rfl rfl (by repeat first | exact .here | apply Ut) (by first | exact cI rfl rfl | exact cE) (by first | exact Z15 rfl rfl | exact Z58 | exact Z3r | exact Z2j) Zl) (by rfl) ?_
  apply Ni
  repeat first | apply Nx | apply Nb
  refine Sl [2] (.cons rfl .nil) ?_
  repeat apply Sq
  apply Rt
  repeat first | apply Rp | apply Rb
  refine JX.toP ?_
  exact JX.retLCs (Lr := [_, _]) (L1 := fun z : Pz.St × List T3 => [PB T b z.2]) (R := fun z => .rep (StR N z.1)) rfl z (by unfold stmtP; rw [hz1, Option.bind_some, if_neg (by exact Bool.false_ne_true), if_neg (by exact Bool.false_ne_true), if_pos (by rfl), hz]) (.refl _) rfl rfl hb0 rfl Zc HasOwn.mem Z52 (Sub.refl _)
 ·
  subst hw
  rw [show (sGet Z4J (stF b7 b8 b9)).getD .nilFunc = fv Z2B by simp [stF, sGet]]
  repeat apply Sq
  apply Pn
  refine Jt (Z0 rfl) rfl ?_
  refine Jt (Z0 rfl) rfl ?_
  refine JO.callPvK (cp := []) (Lr := [_, _]) rfl (Z66 N T hc h9 b r1 (show r1 <:+ T.ts from (ZL 1 _ _ hz1).1.trans hts) (exprP M) (Z37 M) (fun us hus hu => Z82 T hc b M us hus (by have : r1.length < ts.length := (ZL 1 _ _ hz1).2; omega))) rfl (.refl _) (fun F hF => by repeat (first | (rcases Mc.1 hF with rfl | hF; · (repeat first | exact Mh | apply Mt)) | (cases hF; done))) (.one rfl .nil) (fun hbad => ?_) ?_
  · exact JX.pnI (by unfold stmtP; rw [hz1, Option.bind_some, if_neg (by exact Bool.false_ne_true), if_neg (by exact Bool.false_ne_true), if_neg (by exact Bool.false_ne_true), if_pos (by rfl), hbad])
  intro z hz
  try dsimp only [nA, cA]
  refine JO.m (Z4 rfl rfl (by repeat first | exact .here | apply Ut) (by first | exact cI rfl rfl | exact cE) (by first | exact Z15 rfl rfl | exact Z58 | exact Z3r | exact Z2j) Zl) (by rfl) ?_
  apply Ni
  repeat first | apply Nx | apply Nb
  refine Sl [2] (.cons rfl .nil) ?_
  repeat apply Sq
  apply Rt
  repeat first | apply Rp | apply Rb
  refine JX.toP ?_
  exact JX.retLCs (Lr := [_, _]) (L1 := fun z : Pz.St × List T3 => [PB T b z.2]) (R := fun z => .rep (StR N z.1)) rfl z (by unfold stmtP; rw [hz1, Option.bind_some, if_neg (by exact Bool.false_ne_true), if_neg (by exact Bool.false_ne_true), if_neg (by exact Bool.false_ne_true), if_pos (by rfl), hz]) (.refl _) rfl rfl hb0 rfl Zc HasOwn.mem Z52 (Sub.refl _)
 ·
  subst hw
  rw [show (sGet Z4N (stF b7 b8 b9)).getD .nilFunc = fv Z2y by simp [stF, sGet]]
  repeat apply Sq
  apply Pn
  refine Jt (Z0 rfl) rfl ?_
  refine Jt (Z0 rfl) rfl ?_
  refine JO.callPvK (cp := []) (Lr := [_, _]) rfl (Z65 N T hc h9 b r1 (show r1 <:+ T.ts from (ZL 1 _ _ hz1).1.trans hts) (exprP M) (fun us hus hu => Z82 T hc b M us hus (by have : r1.length < ts.length := (ZL 1 _ _ hz1).2; omega))) rfl (.refl _) (fun F hF => by repeat (first | (rcases Mc.1 hF with rfl | hF; · (repeat first | exact Mh | apply Mt)) | (cases hF; done))) (.one rfl .nil) (fun hbad => ?_) ?_
  · exact JX.pnI (by unfold stmtP; rw [hz1, Option.bind_some, if_neg (by exact Bool.false_ne_true), if_neg (by exact Bool.false_ne_true), if_neg (by exact Bool.false_ne_true), if_neg (by exact Bool.false_ne_true), if_pos (by rfl), hbad])
  intro z hz
  try dsimp only [nA, cA]
  refine JO.m (Z4 rfl rfl (by repeat first | exact .here | apply Ut) (by first | exact cI rfl rfl | exact cE) (by first | exact Z15 rfl rfl | exact Z58 | exact Z3r | exact Z2j) Zl) (by rfl) ?_
  apply Ni
  repeat first | apply Nx | apply Nb
  refine Sl [2] (.cons rfl .nil) ?_
  repeat apply Sq
  apply Rt
  repeat first | apply Rp | apply Rb
  refine JX.toP ?_
  exact JX.retLCs (Lr := [_, _]) (L1 := fun z : Pz.St × List T3 => [PB T b z.2]) (R := fun z => .rep (StR N z.1)) rfl z (by unfold stmtP; rw [hz1, Option.bind_some, if_neg (by exact Bool.false_ne_true), if_neg (by exact Bool.false_ne_true), if_neg (by exact Bool.false_ne_true), if_neg (by exact Bool.false_ne_true), if_pos (by rfl), hz]) (.refl _) rfl rfl hb0 rfl Zc HasOwn.mem Z52 (Sub.refl _)
 ·
  subst hw
  rw [show (sGet Z6O (stF b7 b8 b9)).getD .nilFunc = .func (.func Z1l) #[] #[.pointer (some ⟨b7, 0, none⟩)] by simp [stF, sGet]]
  repeat apply Sq
  apply Pn
  refine Jt (Z0 rfl) rfl ?_
  refine Jt (Z0 rfl) rfl ?_
  refine JO.callPvK (cp := [.pointer (some ⟨b7, 0, none⟩)]) (Lr := [_, _]) rfl (Z4v N T hc h9 b r1 (show r1 <:+ T.ts from (ZL 1 _ _ hz1).1.trans hts) b7 7) rfl (.refl _) (fun F hF => by repeat (first | (rcases Mc.1 hF with rfl | hF; · (repeat first | exact Mh | apply Mt)) | (cases hF; done))) (.one rfl .nil) (fun hbad => ?_) ?_
  · exact JX.pnI (by exact hbad.elim)
  intro z hz
  try dsimp only [nA, cA]
  refine JO.m (Z4 rfl rfl (by repeat first | exact .here | apply Ut) (by first | exact cI rfl rfl | exact cE) (by first | exact Z15 rfl rfl | exact Z58 | exact Z3r | exact Z2j) Zl) (by rfl) ?_
  apply Ni
  repeat first | apply Nx | apply Nb
  refine Sl [2] (.cons rfl .nil) ?_
  repeat apply Sq
  apply Rt
  repeat first | apply Rp | apply Rb
  refine JX.toP ?_
  exact JX.retLCs (Lr := [_, _]) (L1 := fun z : Pz.St × List T3 => [PB T b z.2]) (R := fun z => .rep (StR N z.1)) rfl z (by unfold stmtP; rw [hz1, Option.bind_some, if_neg (by exact Bool.false_ne_true), if_neg (by exact Bool.false_ne_true), if_neg (by exact Bool.false_ne_true), if_neg (by exact Bool.false_ne_true), if_neg (by exact Bool.false_ne_true), if_pos (by rfl), hz]) (.refl _) rfl rfl hb0 rfl Zc HasOwn.mem Z52 (Sub.refl _)
 ·
  subst hw
  rw [show (sGet Z5O (stF b7 b8 b9)).getD .nilFunc = .func (.func Z1l) #[] #[.pointer (some ⟨b8, 0, none⟩)] by simp [stF, sGet]]
  repeat apply Sq
  apply Pn
  refine Jt (Z0 rfl) rfl ?_
  refine Jt (Z0 rfl) rfl ?_
  refine JO.callPvK (cp := [.pointer (some ⟨b8, 0, none⟩)]) (Lr := [_, _]) rfl (Z4v N T hc h9 b r1 (show r1 <:+ T.ts from (ZL 1 _ _ hz1).1.trans hts) b8 8) rfl (.refl _) (fun F hF => by repeat (first | (rcases Mc.1 hF with rfl | hF; · (repeat first | exact Mh | apply Mt)) | (cases hF; done))) (.one rfl .nil) (fun hbad => ?_) ?_
  · exact JX.pnI (by exact hbad.elim)
  intro z hz
  try dsimp only [nA, cA]
  refine JO.m (Z4 rfl rfl (by repeat first | exact .here | apply Ut) (by first | exact cI rfl rfl | exact cE) (by first | exact Z15 rfl rfl | exact Z58 | exact Z3r | exact Z2j) Zl) (by rfl) ?_
  apply Ni
  repeat first | apply Nx | apply Nb
  refine Sl [2] (.cons rfl .nil) ?_
  repeat apply Sq
  apply Rt
  repeat first | apply Rp | apply Rb
  refine JX.toP ?_
  exact JX.retLCs (Lr := [_, _]) (L1 := fun z : Pz.St × List T3 => [PB T b z.2]) (R := fun z => .rep (StR N z.1)) rfl z (by unfold stmtP; rw [hz1, Option.bind_some, if_neg (by exact Bool.false_ne_true), if_neg (by exact Bool.false_ne_true), if_neg (by exact Bool.false_ne_true), if_neg (by exact Bool.false_ne_true), if_neg (by exact Bool.false_ne_true), if_neg (by exact Bool.false_ne_true), if_pos (by rfl), hz]) (.refl _) rfl rfl hb0 rfl Zc HasOwn.mem Z52 (Sub.refl _)
 ·
  subst hw
  rw [show (sGet Z4l (stF b7 b8 b9)).getD .nilFunc = .func (.func Z1l) #[] #[.pointer (some ⟨b9, 0, none⟩)] by simp [stF, sGet]]
  repeat apply Sq
  apply Pn
  refine Jt (Z0 rfl) rfl ?_
  refine Jt (Z0 rfl) rfl ?_
  refine JO.callPvK (cp := [.pointer (some ⟨b9, 0, none⟩)]) (Lr := [_, _]) rfl (Z4v N T hc h9 b r1 (show r1 <:+ T.ts from (ZL 1 _ _ hz1).1.trans hts) b9 9) rfl (.refl _) (fun F hF => by repeat (first | (rcases Mc.1 hF with rfl | hF; · (repeat first | exact Mh | apply Mt)) | (cases hF; done))) (.one rfl .nil) (fun hbad => ?_) ?_
  · exact JX.pnI (by exact hbad.elim)
  intro z hz
  try dsimp only [nA, cA]
  refine JO.m (Z4 rfl rfl (by repeat first | exact .here | apply Ut) (by first | exact cI rfl rfl | exact cE) (by first | exact Z15 rfl rfl | exact Z58 | exact Z3r | exact Z2j) Zl) (by rfl) ?_
  apply Ni
  repeat first | apply Nx | apply Nb
  refine Sl [2] (.cons rfl .nil) ?_
  repeat apply Sq
  apply Rt
  repeat first | apply Rp | apply Rb
  refine JX.toP ?_
  exact JX.retLCs (Lr := [_, _]) (L1 := fun z : Pz.St × List T3 => [PB T b z.2]) (R := fun z => .rep (StR N z.1)) rfl z (by unfold stmtP; rw [hz1, Option.bind_some, if_neg (by exact Bool.false_ne_true), if_neg (by exact Bool.false_ne_true), if_neg (by exact Bool.false_ne_true), if_neg (by exact Bool.false_ne_true), if_neg (by exact Bool.false_ne_true), if_neg (by exact Bool.false_ne_true), if_neg (by exact Bool.false_ne_true), if_pos (by rfl), hz]) (.refl _) rfl rfl hb0 rfl Zc HasOwn.mem Z52 (Sub.refl _)
end Go.Proofs.YtbedigkncjbggaaGreatDoor
namespace Go.Pz
open Go Go.Vc
theorem ZaF {kids : List Ex} {a : Option Addr} {len : Nat} {X : Nat → Prop} {w : World} (h : Pers X w (KidsR kids a len)) :
    ∃ ps : List (Cel exE), ps.map Cel.x = kids ∧ Pers X w (RowG Cel.cs 8 ps a len) ∧ Pers X w (CelF exE ps) := by
  have h0 := h.now
  by_cases hn : len = 0
  · have hk : kids = [] := List.length_eq_zero_iff.1 (by rw [h0.1]; exact hn)
    subst hk
    exact ⟨[], rfl, fun w' _ => ⟨hn.symm, fun h => absurd hn h⟩, fun w' _ p hp => by cases hp⟩
  obtain ⟨b, o, rfl, _⟩ := h0.2 hn
  have hall : ∀ i : Fin kids.length, ∃ cs : List Value, cs.length = 8 ∧ RowAt cs b (o + 8 * i.1) w ∧ Pers X w (ExR kids[i] (.agg cs.toArray)) := fun i => Z8J h (List.getElem?_eq_getElem i.2)
  let f : Fin kids.length → List Value := fun i => Classical.choose (hall i)
  have hf : ∀ i, (f i).length = 8 ∧ RowAt (f i) b (o + 8 * i.1) w ∧ Pers X w (ExR kids[i] (.agg (f i).toArray)) := fun i => Classical.choose_spec (hall i)
  have hl : 0 < kids.length := by rw [h0.1]; omega
  have hX : ¬ X b := Zbk (o := o + 8 * 0) fun w' hk => by
    obtain ⟨hl', hk'⟩ := h w' hk
    obtain ⟨b', o', e, hK⟩ := hk' hn
    injection e with e
    injection e with e1 e2
    subst e1 e2
    obtain ⟨cs, _, h2, h3⟩ := Z76 kids b o w' 0 kids[0] hK (List.getElem?_eq_getElem hl)
    obtain ⟨k, n, h4⟩ := Z46 h2
    exact ⟨k, n, h3 0 _ h4⟩
  obtain ⟨C, t, fr, hC, _⟩ : ∃ (cs : Array Value) (t : TypeId) (fr : Nat × Nat), w.heap[b]? = some (.cells cs t fr) ∧ True := by
    have h2 := hf ⟨0, hl⟩
    obtain ⟨k, n, h4⟩ := Z46 h2.2.2.now
    obtain ⟨cs, t, fr, q1, _⟩ := Z8C (h2.2.1 0 _ h4)
    exact ⟨cs, t, fr, q1, trivial⟩
  refine ⟨List.ofFn fun i : Fin kids.length => ⟨kids[i], f i, (hf i).1, Z95 (hf i).2.2.now⟩, ?_, fun w' hk => ⟨by rw [List.length_ofFn]; exact h0.1, fun _ => ⟨b, o, rfl, fun i p hp => ?_⟩⟩, fun w' hk p hp => ?_⟩
  · refine List.ext_getElem (by simp) fun i h1 h2 => ?_
    simp
  · rw [List.getElem?_ofFn] at hp
    split at hp
    · rename_i hi
      injection hp with hp
      subst hp
      intro j v hj
      have := (hf ⟨i, hi⟩).2.1 j v hj
      rw [Z1a hC] at this
      rw [Z1a (hk.get hC hX)]
      exact this
    · cases hp
  · obtain ⟨i, rfl⟩ := List.mem_ofFn.1 hp
    exact (hf i).2.2 w' hk
section
variable {P : Program} {c : Ctx} {K : List (Nat × Ty)} {L : List Own} {Φ : List (World → Prop)} {Q : Exit → Act → World → Prop}
theorem SA.more {X : Nat → Prop} {a : Act} {w : World} (hs : SA c K L Φ X a w) (Ψ : List (World → Prop)) (hΨ : ∀ F ∈ Ψ, Pers X w F) : SA c K L (Ψ ++ Φ) X a w :=
 ⟨hs.n, hs.d, hs.wf, hs.k, hs.l, hs.ld, fun F hF => by
  rcases List.mem_append.1 hF with hF | hF
  · exact hΨ F hF
  · exact hs.f F hF, hs.x, hs.xs, hs.keeps, hs.may⟩
theorem J.kidsC {x : Code} {kids : List Ex} {a : Option Addr} {len : Nat} (h : KidsR kids a len ∈ Φ) (hj : ∀ ps : List (Cel exE), ps.map Cel.x = kids → J P c K L (RowG Cel.cs 8 ps a len :: CelF exE ps :: Φ) x Q) : J P c K L Φ x Q := by
 refine ⟨fun X a' w hs => ?_⟩
 obtain ⟨ps, h1, h2, h3⟩ := ZaF (hs.f _ h)
 refine (hj ps h1).out X a' w (SA.more hs [_, _] fun F hF => ?_)
 simp only [List.mem_cons, List.mem_nil_iff, or_false] at hF
 rcases hF with rfl | rfl
 · exact h2
 · exact h3
theorem Zgc {xs : List Ex} {v : Value} {X : Nat → Prop} {w : World} (h : Pers X w (ExsR xs v)) : ∃ (ps : List (Cel exE)) (a : Option Addr) (len cap : Nat), ps.map Cel.x = xs ∧ v = .slice a len cap ∧ ps.length = len ∧ (∃ b o, len ≠ 0 → a = some ⟨b, o, none⟩) ∧ Pers X w (RowG Cel.cs 8 ps a len) ∧ Pers X w (CelF exE ps) := by
  obtain ⟨a, len, cap, rfl, hk⟩ := h.now
  have hp : Pers X w (KidsR xs a len) := fun w' hk => by
    obtain ⟨a', len', cap', e, h1⟩ := h w' hk
    injection e with e1 e2 e3
    subst e1 e2 e3
    exact h1
  obtain ⟨ps, h1, h2, h3⟩ := ZaF hp
  refine ⟨ps, a, len, cap, h1, rfl, h2.now.1, ?_, h2, h3⟩
  by_cases hn : len = 0
  · exact ⟨0, 0, fun h => absurd hn h⟩
  · obtain ⟨b, o, e, _⟩ := h2.now.2 hn
    exact ⟨b, o, fun _ => e⟩
theorem J.shapeX {x : Code} {xs : List Ex} {v : Value} (h : ExsR xs v ∈ Φ) (hj : ∀ (ps : List (Cel exE)) (a : Option Addr) (len cap b o : Nat), ps.map Cel.x = xs → v = .slice a len cap → ps.length = len → (len ≠ 0 → a = some ⟨b, o, none⟩) → J P c K L (RowG Cel.cs 8 ps a len :: CelF exE ps :: Φ) x Q) : J P c K L Φ x Q := by
 refine ⟨fun X a' w hs => ?_⟩
 obtain ⟨ps, a, len, cap, h1, h2, h3, ⟨b, o, h4⟩, h5, h6⟩ := Zgc (hs.f _ h)
 refine (hj ps a len cap b o h1 h2 h3 h4).out X a' w (SA.more hs [_, _] fun F hF => ?_)
 simp only [List.mem_cons, List.mem_nil_iff, or_false] at hF
 rcases hF with rfl | rfl
 · exact h5
 · exact h6
theorem J.shapeE {α : Type} {E : Enc α} {G : GoS} {x : Code} {xs : List α} {v : Value} (h : SlE E G xs v ∈ Φ) (hj : ∀ (ps : List (Cel E)) (a : Option Addr) (len cap b o : Nat), ps.map Cel.x = xs → v = .slice a len cap → ps.length = len → (len ≠ 0 → a = some ⟨b, o, none⟩) → J P c K L (RowG Cel.cs E.sz ps a len :: CelF E ps :: Φ) x Q) : J P c K L Φ x Q := by
 refine ⟨fun X a' w hs => ?_⟩
 obtain ⟨ps, a, len, cap, h1, h2, _, h3, ⟨b, o, h4⟩, h5, h6, _⟩ := Zce (hs.f _ h)
 refine (hj ps a len cap b o h1 h2 h3 h4).out X a' w (SA.more hs [_, _] fun F hF => ?_)
 simp only [List.mem_cons, List.mem_nil_iff, or_false] at hF
 rcases hF with rfl | rfl
 · exact h5
 · exact h6
theorem JO.apA {α : Type} {en : α → List Value} {sz : Nat} {L' : List Own} {d : Nat} {ops : Array Oper} {rest : List Oper} {ty t tx e : TypeId} {pos : String} {after : Array Edge} {s x : Operand} {bytes cap : Nat} {xs : List α} (ys : List α) {st : Option (Nat × List Value)} {TX : Ty} {C : Option (Nat × List Value) → List Own}
    (hT : ApTy P t e sz bytes) (hen : ∀ x, (en x).length = sz) (hC : Cx e L st C L') (hG : Grows en sz xs st cap) (h0 : opTy K s = some (.is (sliceO st xs.length cap))) (hx : opTy K x = some TX) (hS : ∀ L, SrcOf P L Φ sz tx TX ys.length (ys.flatMap en)) (hfit : (xs.length + ys.length) * bytes ≤ 140737488355328) (h63 : xs.length + ys.length ≤ 9223372036854775807) (hd : Nat.blt d c.n = true)
    (hn : ∀ (st' : Option (Nat × List Value)) (cap' : Nat), Grows en sz (xs ++ ys) st' cap' → JO P c ((d, .is (sliceO st' (xs ++ ys).length cap')) :: K) (C st') Φ ops rest Q) :
    JO P c K L Φ ops (⟨some d, .call { callee := .builtin .append, args := #[s, x], argTypes := #[t, tx] }, ty, pos, after, none⟩ :: rest) Q := by
  cases st with
  | some p => exact JO.apSL ys hT hC hG h0 hx (hS _) hfit h63 hd fun p' cap' hG' => hn _ _ hG'
  | none =>
    have hxs : xs = [] := hG
    subst hxs
    simp only [List.length_nil, Nat.zero_add, List.nil_append] at hfit h63 hn
    refine JO.subL hC.tl.perm ?_
    refine JO.apN ys hT h0 hx (hS _) hfit h63 hd fun st' cap' hG' => ?_
    exact JO.subL (hC.back st') (hn _ _ hG')
end
end Go.Pz
namespace Go.Pz
open Go Go.Vc
mutual
def ect : Ex → Nat
 | .mk _ _ _ _ _ _ _ kids => ects kids + 1
def ects : List Ex → Nat
 | [] => 0
 | x :: xs => ect x + ects xs
end
theorem Z2S (x : Ex) : ect x = ects x.KS + 1 := by cases x; rw [ect]; rfl
theorem Z4D {xs : List Ex} {x : Ex} (h : x ∈ xs) : ect x ≤ ects xs := by
  induction xs with
  | nil => cases h
  | cons y ys ih =>
    rw [ects]
    rcases List.mem_cons.1 h with rfl | h
    · omega
    · have := ih h; omega
theorem Z8M (xs : List Ex) : xs.length ≤ ects xs := by
  induction xs with
  | nil => exact Nat.zero_le _
  | cons y ys ih => 
    rw [ects, List.length_cons]
    have : 1 ≤ ect y := by rw [Z2S]; omega
    omega
mutual
theorem Zgu : ∀ x : Ex, hgt x ≤ ect x
 | .mk _ _ _ _ _ _ _ kids => by rw [hgt, ect]; have := Z6g kids; omega
theorem Z6g : ∀ xs : List Ex, hgts xs ≤ ects xs
 | [] => by rw [hgts, ects]; exact Nat.le_refl _
 | x :: xs => by rw [hgts, ects]; have := Zgu x; have := Z6g xs; omega
end
def Hb (p : Ps Ex) : Prop := ∀ ts z, p ts = some z → ect z.1 + z.2.length ≤ ts.length
theorem Z32 (k vk vn : Int) (vs tb nm : ByteArray) (sl : Int) : ect (.mk k vk vn vs tb nm sl []) = 1 := by rw [ect, ects]
theorem Z91 (k : Int) (x : Ex) : ect (nd k [x]) = ect x + 1 := by rw [ect, ects, ects]
theorem ZfG (k : Int) (x y : Ex) : ect (nd k [x, y]) = ect x + ect y + 1 := by rw [ect, ects, ects, ects]; omega
theorem Zb7 {part : Ps Ex} {k : Int} {ops : List (ByteArray × Int)} (hp : Hb part) {M : Nat} : ∀ (n : Nat) (x : Ex) (ts : List T3) (z : Ex × List T3), ect x + ts.length ≤ M → chainG part k ops n x ts = some z → ect z.1 + z.2.length ≤ M
  | 0, x, ts, z, hM, h => by rw [chainG] at h; injection h with h; subst h; exact hM
  | n + 1, x, ts, z, hM, h => by
    rw [chainG] at h
    split at h
    · injection h with h; subst h; exact hM
    · rename_i q hq
      obtain ⟨y, h1, h2⟩ := bnd h
      have h3 := hp _ _ h1
      have h4 := (Z4W hq).2
      have h5 : 1 ≤ ect y.1 := by
        obtain ⟨y1, y2⟩ := y
        cases y1; rw [ect]; omega
      refine Zb7 hp n _ _ _ ?_ h2
      rw [ZfG]; omega
theorem Z78 {part : Ps Ex} {k : Int} {ops : List (ByteArray × Int)} (hp : Hb part) : Hb (chainP part k ops) := fun ts z h => by
 obtain ⟨y, h1, h2⟩ := bnd h
 exact Zb7 hp _ _ _ _ (hp _ _ h1) h2
section
variable {e : Ps Ex} (he : Hb e)
include he
theorem ZhH : Hb (kwP e) := fun ts z h => by
  obtain ⟨y, h1, h2⟩ := bnd h
  have h3 := (ZL 1 _ _ h1).2
  split at h2
  · injection h2 with h2; subst h2; rw [Z32]; dsimp only; omega
  split at h2
  · injection h2 with h2; subst h2; rw [Z32]; dsimp only; omega
  split at h2
  · injection h2 with h2; subst h2; rw [Z32]; dsimp only; omega
  split at h2
  · cases h2
  obtain ⟨u, h4, h5⟩ := bnd h2
  have h6 := (Zi _ _ _ _ h4).2
  split at h5
  · rename_i hi
    simp only [Bool.and_eq_true] at hi
    obtain ⟨v, h7, rfl⟩ := mpd h5
    have h8 := (Zi _ _ _ _ h7).2
    have h9 := (Zu hi.2).2
    rw [Z32]; dsimp only; omega
  · obtain ⟨x, h7, h8⟩ := bnd h5
    obtain ⟨v, h9, rfl⟩ := mpd h8
    have h10 := he _ _ h7
    have h11 := (Zi _ _ _ _ h9).2
    dsimp only
    rw [Z91]; omega
theorem Zfe : Hb (atomP e) := fun ts z h => by
  cases ts with
  | nil => cases h
  | cons t r =>
    rw [atomP] at h
    split at h
    · injection h with h; subst h; rw [Z32]; simp only [List.length_cons]; omega
    split at h
    · injection h with h; subst h; rw [Z32]; simp only [List.length_cons]; omega
    split at h
    · split at h
      · rename_i hi
        obtain ⟨v, h7, rfl⟩ := mpd h
        have h8 := (ZG _ _ h7).2
        have h9 := (Zu hi).2
        rw [Z32]; simp only [List.length_cons]; omega
      · injection h with h; subst h; rw [Z32]; simp only [List.length_cons]; omega
    split at h
    · exact ZhH he _ _ h
    · obtain ⟨u, h4, h5⟩ := bnd h
      obtain ⟨x, h7, h8⟩ := bnd h5
      obtain ⟨v, h9, rfl⟩ := mpd h8
      have h10 := he _ _ h7
      have h11 := (Zi _ _ _ _ h9).2
      have h12 := (Zi _ _ _ _ h4).2
      dsimp only; omega
theorem Za4 : ∀ (ts : List T3) (z : Ex × List T3), factorP e ts = some z → ect z.1 + z.2.length ≤ ts.length
  | [], z, h => by rw [factorP] at h; cases h
  | t :: r, z, h => by
    rw [factorP] at h
    split at h
    · obtain ⟨v, h7, rfl⟩ := mpd h
      have := Za4 r v h7
      dsimp only
      rw [Z91]; simp only [List.length_cons]; omega
    · exact Zfe he _ _ h
theorem Zgz : Hb (prodP e) := Z78 (Za4 he)
theorem ZaX : Hb (sumP e) := Z78 (Zgz he)
theorem ZdY {x : Ex} {ts : List T3} {z : Ex × List T3} {M : Nat} (hM : ect x + ts.length ≤ M) (h : cmpP e x ts = some z) : ect z.1 + z.2.length ≤ M := by
  unfold cmpP at h
  split at h
  · rename_i q hq
    obtain ⟨v, h7, rfl⟩ := mpd h
    have h8 := ZaX he _ _ h7
    have h9 := (Z4W hq).2
    have h5 : 1 ≤ ect v.1 := by
      obtain ⟨y1, y2⟩ := v
      cases y1; rw [ect]; omega
    dsimp only
    rw [ZfG]; omega
  · split at h
    · rename_i hi
      have h9 := (Zu hi).2
      split at h
      · rename_i hj
        obtain ⟨v, h7, rfl⟩ := mpd h
        have h8 := (Zi _ _ _ _ h7).2
        have h10 := (Zu hj).2
        dsimp only
        rw [Z91]; omega
      · obtain ⟨v, h7, rfl⟩ := mpd h
        have h8 := (Zi _ _ _ _ h7).2
        dsimp only
        rw [Z91]; omega
    · injection h with h; subst h; exact hM
theorem Zel : ∀ (ts : List T3) (z : Ex × List T3), notP e ts = some z → ect z.1 + z.2.length ≤ ts.length
  | [], z, h => by
    rw [notP] at h
    obtain ⟨y, h1, h2⟩ := bnd h
    exact ZdY he (ZaX he _ _ h1) h2
  | t :: r, z, h => by
    rw [notP] at h
    split at h
    · obtain ⟨v, h7, rfl⟩ := mpd h
      have := Zel r v h7
      dsimp only
      rw [Z91]; simp only [List.length_cons]; omega
    · obtain ⟨y, h1, h2⟩ := bnd h
      exact ZdY he (ZaX he _ _ h1) h2
theorem ZhS : Hb (orP e) := Z78 (Z78 (Zel he))
end
theorem Z9q : ∀ n, Hb (exprP n)
 | 0, ts, z, h => by cases h
 | n + 1, ts, z, h => ZhS (Z9q n) ts z h
def HB (M : Nat) (x : Ex) : Prop := ect x ≤ M
theorem Zi4 {e : Ps Ex} (he : Hb e) {M : Nat} {ts : List T3} {z : Ex × List T3} (hM : ts.length ≤ M) (h : e ts = some z) : HB M z.1 := by
 have := he _ _ h
 unfold HB; omega
def Pb {α : Type} (f : α → List Ex) (M : Nat) (p : Ps α) : Prop := ∀ ts z, ts.length ≤ M → p ts = some z → ∀ x ∈ f z.1, ect x ≤ M
theorem ZcQ {α : Type} {f : α → List Ex} {M : Nat} {p : Ps α} (hd : Dn0 p) (h : Pb f M p) : ∀ n ts z, ts.length ≤ M → listG p n ts = some z → ∀ y ∈ z.1, ∀ x ∈ f y, ect x ≤ M
  | 0, ts, z, _, hz => by rw [listG] at hz; injection hz with hz; subst hz; intro y hy; cases hy
  | n + 1, ts, z, hM, hz => by
    rw [listG] at hz
    split at hz
    · rename_i hi
      obtain ⟨w, h1, h2⟩ := bnd hz
      obtain ⟨y, h3, rfl⟩ := mpd h2
      have h4 := (Zu hi).2
      have h5 := (hd _ _ h1).length_le
      intro v hv
      rcases List.mem_cons.1 hv with rfl | hv
      · exact h _ _ (by omega) h1
      · exact ZcQ hd h n _ _ (by omega) h3 v hv
    · injection hz with hz; subst hz; intro y hy; cases hy
theorem Z6H {α : Type} {f : α → List Ex} {M : Nat} {p : Ps α} {most : Nat} (hd : Dn0 p) (h : Pb f M p) {ts : List T3} {z : List α × List T3} (hM : ts.length ≤ M) (hz : listP most p ts = some z) : ∀ y ∈ z.1, ∀ x ∈ f y, ect x ≤ M := by
  obtain ⟨w, h1, h2⟩ := bnd hz
  obtain ⟨y, h3, h4⟩ := bnd h2
  have h5 := (hd _ _ h1).length_le
  split at h4
  · injection h4 with h4; subst h4
    intro v hv
    rcases List.mem_cons.1 hv with rfl | hv
    · exact h _ _ hM h1
    · exact ZcQ hd h _ _ _ (by omega) h3 v hv
  · cases h4
theorem leM {a b : List T3} {M : Nat} (h : a <:+ b) (hM : b.length ≤ M) : a.length ≤ M := Nat.le_trans h.length_le hM
section
variable {e : Ps Ex} (hd : Dn e) (he : Hb e) {M : Nat}
include he
theorem e_b : Pb (fun x => [x]) M e := fun ts z hM h x hx => by
 rw [List.mem_singleton.1 hx]
 have := he _ _ h; omega
theorem Z8N {ts : List T3} {z : List Ex × List T3} (hM : ts.length ≤ M) (h : whereP e ts = some z) : ∀ x ∈ z.1, ect x ≤ M := by
  unfold whereP at h
  split at h
  · rename_i hi
    obtain ⟨v, h5, rfl⟩ := mpd h
    intro x hx
    rw [List.mem_singleton.1 hx]
    have := he _ _ h5
    have := (Zu hi).2
    omega
  · injection h with h; subst h; intro x hx; cases hx
include hd
theorem Zcr {most : Nat} {ts : List T3} {z : List Ex × List T3} (hM : ts.length ≤ M) (h : listP most e ts = some z) : ∀ x ∈ z.1, ect x ≤ M := fun x hx => Z6H hd.le (e_b he) hM h x hx x List.mem_cons_self
theorem Zfq : Pb (fun l => l) M (withinP e) := fun ts z hM h => by
 obtain ⟨a, h1, h2⟩ := bnd h
 obtain ⟨l, h3, h4⟩ := bnd h2
 obtain ⟨v, h5, rfl⟩ := mpd h4
 exact Zcr (z := l) hd he (leM (Zi _ _ _ _ h1).1 hM) h3
theorem Zbh : ∀ n ts z, ts.length ≤ M → joinsG e n ts = some z → ∀ s ∈ z.1, ∀ x ∈ s.on, ect x ≤ M
  | 0, ts, z, _, hz => by rw [joinsG] at hz; injection hz with hz; subst hz; intro y hy; cases hy
  | n + 1, ts, z, hM, hz => by
    rw [joinsG] at hz
    split at hz
    · obtain ⟨w, h1, h2⟩ := bnd hz
      obtain ⟨y, h3, rfl⟩ := mpd h2
      have h4 := (Z5L hd _ _ h1).1
      have h5 := Z3Q 1 Z18 ts
      intro v hv
      rcases List.mem_cons.1 hv with rfl | hv
      · obtain ⟨a, g1, g2⟩ := bnd h1
        obtain ⟨s, g3, g4⟩ := bnd g2
        obtain ⟨b, g5, g6⟩ := bnd g4
        obtain ⟨x, g7, g8⟩ := mpd g6
        subst g8
        have h6 : b.2.length ≤ M := leM ((Zi _ _ _ _ g5).1.trans ((Z3F _ _ g3).1.trans ((Zi _ _ _ _ g1).1.trans h5))) hM
        intro y hy
        rw [List.mem_singleton.1 hy]
        have := he _ _ g7; omega
      · exact Zbh n _ _ (leM (h4.trans h5) hM) h3 v hv
    · injection hz with hz; subst hz; intro y hy; cases hy
theorem ZcK {ts : List T3} {z : St × List T3} (hM : ts.length ≤ M) (h : stmtP e ts = some z) : ∀ x ∈ exsOf z.1, ect x ≤ M := by
  unfold stmtP at h
  obtain ⟨w, h1, h⟩ := bnd h
  have hw : w.2.length ≤ M := leM (ZL 1 _ _ h1).1 hM
  split at h
  · unfold createP at h
    split at h
    · obtain ⟨n, _, h⟩ := bnd h
      obtain ⟨c, _, rfl⟩ := mpd h
      intro x hx; simp [exsOf, stK] at hx
    · obtain ⟨_, _, h⟩ := bnd h
      obtain ⟨_, _, h⟩ := bnd h
      obtain ⟨_, _, h⟩ := bnd h
      obtain ⟨_, _, h⟩ := bnd h
      obtain ⟨_, _, h⟩ := bnd h
      obtain ⟨_, _, h⟩ := bnd h
      obtain ⟨_, _, h⟩ := bnd h
      split at h
      · obtain ⟨v, _, rfl⟩ := mpd h
        intro x hx; simp [exsOf, stK] at hx
      · injection h with h; subst h
        intro x hx; simp [exsOf, stK] at hx
  split at h
  · obtain ⟨a, g1, h⟩ := bnd h
    obtain ⟨n, g2, h⟩ := bnd h
    have h3 : n.2.length ≤ M := leM ((ZG _ _ g2).1.trans (Zi _ _ _ _ g1).1) hw
    have rows : ∀ tb ns us z, us.length ≤ M → insRows e tb ns us = some z → ∀ x ∈ exsOf z.1, ect x ≤ M := fun tb ns us z hu h => by
      obtain ⟨a, k1, h⟩ := bnd h
      obtain ⟨r, k2, rfl⟩ := mpd h
      have := Z6H (Z2K hd.le).le (Zfq hd he) (leM (Zi _ _ _ _ k1).1 hu) k2
      intro x hx
      simp [exsOf, stK] at hx
      obtain ⟨l, hl, hx⟩ := hx
      exact this l hl x hx
    split at h
    · obtain ⟨l, g3, h⟩ := bnd h
      exact rows _ _ _ _ (leM (Z2K ZG.le _ _ g3).1 h3) h
    · exact rows _ _ _ _ h3 h
  split at h
  · obtain ⟨i, g1, h⟩ := bnd h
    obtain ⟨a, g2, h⟩ := bnd h
    obtain ⟨s, g3, h⟩ := bnd h
    obtain ⟨j, g4, h⟩ := bnd h
    have hi : Pb (fun i : Itm => [i.ex]) M (itemP e) := fun us z hu h => by
      unfold itemP at h
      split at h
      · injection h with h; subst h
        intro x hx
        rename_i ht
        rw [List.mem_singleton.1 hx]
        have := (Zu ht).2
        show ect (.mk 0 0 0 em em em 0 []) ≤ M
        rw [Z32]; omega
      · obtain ⟨v, h5, rfl⟩ := mpd h
        intro x hx
        rw [List.mem_singleton.1 hx]
        have := he _ _ h5
        dsimp only; omega
    have hk : Pb (fun k : Ky => [k.ex]) M (keyP e) := fun us z hu h => by
      obtain ⟨v, h5, h6⟩ := mpd h
      have := he _ _ h5
      split at h6 <;> subst h6 <;> intro x hx <;> rw [List.mem_singleton.1 hx] <;> dsimp only <;> omega
    have b1 := Z6H (Z5D hd).le hi hw g1
    have m1 := leM (Z24 (Z5D hd).le 16 _ _ g1) hw
    have m2 := leM (Zi _ _ _ _ g2).1 m1
    have m3 := leM (Z3F _ _ g3).1 m2
    have b2 := Zbh hd he _ _ _ m3 g4
    split at h
    · obtain ⟨w2, k1, h⟩ := bnd h
      obtain ⟨g, k2, h⟩ := bnd h
      obtain ⟨o, k3, h⟩ := bnd h
      obtain ⟨l, k4, rfl⟩ := mpd h
      have m4 : j.2.length ≤ M := by
        have : ∀ n us z, joinsG e n us = some z → z.2 <:+ us := fun n => by
          induction n with
          | zero => intro us z h; rw [joinsG] at h; injection h with h; subst h; exact List.suffix_refl us
          | succ n ih =>
            intro us z h
            rw [joinsG] at h
            split at h
            · obtain ⟨w, h1, h2⟩ := bnd h
              obtain ⟨y, h3, rfl⟩ := mpd h2
              exact (ih _ _ h3).trans ((Z5L hd _ _ h1).1.trans (Z3Q _ _ _))
            · injection h with h; subst h; exact List.suffix_refl us
        exact leM (this _ _ _ g4) m3
      have b3 := Z8N he m4 k1
      have m5 : w2.2.length ≤ M := by
        unfold whereP at k1
        split at k1
        · rename_i ht
          obtain ⟨v, h5, rfl⟩ := mpd k1
          exact leM ((hd _ _ h5).1.trans (Zu ht).1) m4
        · injection k1 with k1; subst k1; exact m4
      have b4 : ∀ x ∈ g.1, ect x ≤ M ∧ True := fun x hx => by
        unfold groupP at k2
        split at k2
        · rename_i ht
          obtain ⟨a, q1, q2⟩ := bnd k2
          exact ⟨Zcr hd he (leM ((Zi _ _ _ _ q1).1.trans (Zu ht).1) m5) q2 x hx, trivial⟩
        · injection k2 with k2; subst k2; cases hx
      have m6 : g.2.length ≤ M := by
        unfold groupP at k2
        split at k2
        · rename_i ht
          obtain ⟨a, q1, q2⟩ := bnd k2
          exact leM ((Z24 hd.le 16 _ _ q2).trans ((Zi _ _ _ _ q1).1.trans (Zu ht).1)) m5
        · injection k2 with k2; subst k2; exact m5
      have b5 : ∀ k ∈ o.1, ect k.ex ≤ M := fun k hx => by
        unfold orderP at k3
        split at k3
        · rename_i ht
          obtain ⟨a, q1, q2⟩ := bnd k3
          exact Z6H (Z5r hd).le hk (leM ((Zi _ _ _ _ q1).1.trans (Zu ht).1) m6) q2 k hx _ List.mem_cons_self
        · injection k3 with k3; subst k3; cases hx
      have hs : s.1.on = [] := by
        unfold sourceP at g3
        obtain ⟨n, _, g3⟩ := bnd g3
        split at g3
        · obtain ⟨m, _, rfl⟩ := mpd g3; rfl
        split at g3
        · obtain ⟨m, _, rfl⟩ := mpd g3; rfl
        · injection g3 with g3; subst g3; rfl
      intro x hx
      simp [exsOf, stK, hs] at hx
      rcases hx with ⟨a, ha, rfl⟩ | ⟨_, ⟨a, ha, rfl⟩, hx⟩ | ⟨a, ha, rfl⟩ | hx | hx
      · exact b1 a ha _ List.mem_cons_self
      · exact b2 a ha x hx
      · exact b5 a ha
      · exact b3 x hx
      · exact (b4 x hx).1
    · cases h
  split at h
  · obtain ⟨n, g1, h⟩ := bnd h
    obtain ⟨a, g2, h⟩ := bnd h
    obtain ⟨l, g3, h⟩ := bnd h
    obtain ⟨w2, g4, rfl⟩ := mpd h
    have hs : Pb (fun k : ByteArray × Ex => [k.2]) M (setP e) := fun us z hu h => by
      obtain ⟨a, h1, h2⟩ := bnd h
      obtain ⟨l, h3, h4⟩ := bnd h2
      obtain ⟨v, h5, rfl⟩ := mpd h4
      intro x hx
      rw [List.mem_singleton.1 hx]
      have := he _ _ h5
      have := (Zi _ _ _ _ h3).2
      have := (ZG _ _ h1).2
      dsimp only; omega
    have m1 := leM ((Zi _ _ _ _ g2).1.trans (ZG _ _ g1).1) hw
    have b1 := Z6H (Z6C hd).le hs m1 g3
    have b2 := Z8N he (leM (Z24 (Z6C hd).le 16 _ _ g3) m1) g4
    intro x hx
    simp [exsOf, stK] at hx
    rcases hx with hx | ⟨a, ha⟩
    · exact b2 x hx
    · exact b1 _ ha _ List.mem_cons_self
  split at h
  · obtain ⟨a, g1, h⟩ := bnd h
    obtain ⟨n, g2, h⟩ := bnd h
    obtain ⟨w2, g3, rfl⟩ := mpd h
    have b2 := Z8N he (leM ((ZG _ _ g2).1.trans (Zi _ _ _ _ g1).1) hw) g3
    intro x hx
    simp [exsOf, stK] at hx
    exact b2 x hx
  split at h
  · injection h with h; subst h; intro x hx; simp [exsOf, stK] at hx
  split at h
  · injection h with h; subst h; intro x hx; simp [exsOf, stK] at hx
  split at h
  · injection h with h; subst h; intro x hx; simp [exsOf, stK] at hx
  · cases h
end
end Go.Pz
set_option maxRecDepth 20000
namespace Go.Proofs.YtbedigkncjbggaaGreatDoor
open Go Go.Vc
open Go.Pz
abbrev hgK (xs : List Ex) (i : Nat) : Nat := hgts (xs.take i)
theorem Zer (xs : List Ex) (x : Ex) : hgts (xs ++ [x]) = max (hgts xs) (hgt x) := by
 induction xs with
 | nil => simp [hgts]
 | cons y ys ih => rw [List.cons_append, hgts, hgts, ih]; omega
theorem ZaE {xs : List Ex} {i : Nat} (h : i < xs.length) : hgK xs (i + 1) = max (hgK xs i) (hgt (xs.getD i ex0)) := by
 show hgts (xs.take (i + 1)) = _
 rw [List.take_add_one, List.getElem?_eq_getElem h, Option.toList_some, Zer, List.getD_eq_getElem?_getD, List.getElem?_eq_getElem h]
 rfl
theorem Z6R (x : Ex) : hgt x = hgts x.KS + 1 := by cases x; rw [hgt]; rfl
theorem Z5V {xs : List Ex} {i : Nat} (h : i < xs.length) : xs.getD i ex0 ∈ xs := by
 rw [List.getD_eq_getElem?_getD, List.getElem?_eq_getElem h]; exact List.getElem_mem h
theorem Z5C {xs : List Ex} {i : Nat} (h : i < xs.length) : xs[i]? = some (xs.getD i ex0) := by
 rw [List.getD_eq_getElem?_getD, List.getElem?_eq_getElem h]; rfl
theorem Z7G (x : Ex) (hx : ect x ≤ 4096) (ih : ∀ y ∈ x.KS, CallTy Tryz.prog Z4U [.rep (ExR y)] (.is (.int .i64 (hgt y : Nat)))) : CallTy Tryz.prog Z4U [.rep (ExR x)] (.is (.int .i64 (hgt x : Nat))) :=
 CallTy.of (fn := Tryz.f66) Tryz.func66 (n := 20) rfl rfl rfl (fun _ _ => by kernel_rfl) fun E W => by
 have hlen := Z8M x.KS
 rw [Z2S] at hx
 have hhx := Z6g x.KS
 refine J.openA (s := 0) rfl (fun a0 l0 q0 b0 o0 hl0 ha0 => ?_)
 subst hl0
 repeat apply Sq
 apply Pn
 refine JO.box rfl rfl fun b1 => ?_
 refine Jt (Z2 rfl) rfl ?_
 apply Ni
 repeat first | apply Nx | apply Nb
 refine Sl [1] (.cons rfl .nil) ?_
 repeat apply Sq
 apply Pn
 refine Jt (Z2 rfl) rfl ?_
 apply Ni
 repeat first | apply Nx | apply Nb
 refine Sl [1, 3] (.cons rfl (.cons rfl .nil)) ?_
 repeat apply Sq
 apply Pn
 refine Jt (Z1 Z1s rfl) rfl ?_
 refine Jt (Z3 Zf rfl rfl) rfl ?_
 refine Jt (Zq Zk rfl) rfl ?_
 refine Jt (Z0 rfl) rfl ?_
 apply Ni
 repeat first | apply Nx | apply Nb
 refine Sl [3, 7, 8, 9] (.cons rfl (.cons rfl (.cons rfl (.cons rfl .nil)))) ?_
 repeat apply Sq
 apply Bk
 repeat apply Sq
 refine J.loopG (α := Nat) (fun i => [(3, .is (.int .i64 (hgK x.KS i : Nat))), (7, .is (.slice a0 x.KS.length q0)), (8, .is (.int .i64 (x.KS.length : Nat))), (9, .is (.int .i64 (i : Nat)))]) (fun i => [⟨b1, Z6, .is (.agg (exCells x.K x.VK x.VN x.VS x.TB x.NM x.SL a0 x.KS.length q0).toArray)⟩]) (fun i => fun _ => True) (fun i => i ≤ x.KS.length) (fun i => x.KS.length - i) 0 [3, 7, 8, 9] (.cons rfl (.cons rfl (.cons rfl (.cons rfl .nil)))) rfl (fun _ => trivial) (by omega) fun i hi => ?_
 try dsimp only
 try dsimp only at hi
 repeat apply Sq
 apply Pn
 refine Jt (Z1f rfl rfl) rfl ?_
 apply Ni
 repeat first | apply Nx | apply Nb
 refine Sl [3, 7, 8, 9, 10] (.cons rfl (.cons rfl (.cons rfl (.cons rfl (.cons rfl .nil))))) ?_
 repeat apply Sq
 refine Cd rfl (fun ht10 => ?_) (fun ht10 => ?_)
 ·
  try simp only [dT, dF] at ht10
  apply Sk
  repeat first | apply Nx | apply Nb
  repeat apply Sq
  apply Bk
  repeat apply Sq
  apply Pn
  refine Jt (Z7 Z1c rfl (ha0 (by omega)) rfl (by omega) (by omega)) rfl ?_
  refine Jt (Z3H (kid := x.KS.getD i ex0) Zd rfl (by repeat first | exact Mh | apply Mt) (ha0 (by omega)) (Z5C (by omega)) (by omega)) rfl ?_
  refine JO.alloc ZY rfl fun b5 => ?_
  refine JO.m (Z4 rfl rfl (by repeat first | exact .here | apply Ut) (by first | exact cI rfl rfl | exact cE) (by first | exact cI rfl rfl | exact cE | exact cO) Zn) (by rfl) ?_
  apply Ni
  repeat first | apply Nx | apply Nb
  refine Sl [3, 5, 7, 8, 9] (.cons rfl (.cons rfl (.cons rfl (.cons rfl (.cons rfl .nil))))) ?_
  repeat apply Sq
  apply Pn
  refine Jt (Z0 rfl) rfl ?_
  refine Jt (Z2F Zd rfl) rfl ?_
  refine Jt (ZM rfl (ih _ (Z5V (by omega))) (.one rfl .nil)) rfl ?_
  refine Jt (Zch (cc := ((hgK x.KS (i + 1) : Nat) : Int)) rfl rfl (by rw [ZaE (by omega)]; split <;> omega)) rfl ?_
  refine Jt (Z2 rfl) rfl ?_
  apply Ni
  repeat first | apply Nx | apply Nb
  refine Sl [3, 7, 8, 9] (.cons rfl (.cons rfl (.cons rfl (.cons rfl .nil)))) ?_
  repeat apply Sq
  apply Pn
  refine Jt (ZB (cc := ((i + 1 : Nat) : Int)) rfl rfl (by omega) (by omega) (by have := hlen; omega)) rfl ?_
  refine Jt (Z0 rfl) rfl ?_
  apply Ni
  repeat refine JX.normal_block ?_
  refine JX.roundG (x := i) (i + 1) ?_ ?_ [3, 7, 8, 9] ?_ ?_ ?_ ?_
  · exact (by omega)
  · exact (by omega)
  · exact (.cons rfl (.cons rfl (.cons rfl (.cons rfl .nil))))
  · repeat (first | exact .all | exact .nil | refine Has.own (by repeat first | exact .here | apply Tl.past | apply Tl.there) ?_ | refine Has.cons (by repeat (first | exact .here | apply Pk.past | apply Pk.there)) ?_)
  · exact fun G hG => by repeat (first | exact hG | refine List.mem_cons_of_mem _ ?_)
  · exact fun _ _ _ => fun _ _ => trivial
 ·
  try simp only [dT, dF] at ht10
  repeat apply Sq
  refine J.exit ?_
  repeat first | refine Ht ?_ | refine Ms rfl ?_ | refine Ep ?_
  repeat first | apply Nx | apply Nb
  repeat apply Sq
  apply Pn
  refine Jt (Z0 rfl) rfl ?_
  refine Jt (ZB (cc := ((hgt x : Nat) : Int)) rfl rfl (by rw [Z6R, show i = x.KS.length by omega, hgK, List.take_length]; omega) (by have := Z6R x; omega) (by have := Z6R x; omega)) rfl ?_
  refine Jt (Z2 rfl) rfl ?_
  apply Ni
  repeat first | apply Nx | apply Nb
  refine Sl [2] (.cons rfl .nil) ?_
  repeat apply Sq
  apply Rt
  repeat first | apply Rp | apply Rb
  exact JX.ret1sub rfl rfl rfl (Sub.refl _)
theorem Z73 : ∀ (n : Nat) (x : Ex), ect x ≤ n → ect x ≤ 4096 → CallTy Tryz.prog Z4U [.rep (ExR x)] (.is (.int .i64 (hgt x : Nat)))
 | 0, x, h, _ => absurd h (by rw [Z2S]; omega)
 | n + 1, x, h, hx => Z7G x hx fun y hy => Z73 n y (by have := Z4D hy; rw [Z2S] at h; omega) (by have := Z4D hy; rw [Z2S] at hx; omega)
theorem Z7D (x : Ex) (hx : ect x ≤ 4096) (ih : ∀ y ∈ x.KS, CallTy Tryz.prog Z4F [.rep (ExR y)] (.is (.int .i64 (hgt y : Nat)))) : CallTy Tryz.prog Z4F [.rep (ExR x)] (.is (.int .i64 (hgt x : Nat))) :=
 CallTy.of (fn := Tryz.f16) Tryz.func16 (n := 22) rfl rfl rfl (fun _ _ => by kernel_rfl) fun E W => by
 have hlen := Z8M x.KS
 rw [Z2S] at hx
 have hhx := Z6g x.KS
 refine J.openA (s := 0) rfl (fun a0 l0 q0 b0 o0 hl0 ha0 => ?_)
 subst hl0
 repeat apply Sq
 apply Pn
 refine JO.box rfl rfl fun b1 => ?_
 refine Jt (Z2 rfl) rfl ?_
 apply Ni
 repeat first | apply Nx | apply Nb
 refine Sl [1] (.cons rfl .nil) ?_
 repeat apply Sq
 apply Pn
 refine Jt (Z2 rfl) rfl ?_
 apply Ni
 repeat first | apply Nx | apply Nb
 refine Sl [1, 3] (.cons rfl (.cons rfl .nil)) ?_
 repeat apply Sq
 apply Pn
 refine Jt (Z2 rfl) rfl ?_
 apply Ni
 repeat first | apply Nx | apply Nb
 refine Sl [1, 3, 4] (.cons rfl (.cons rfl (.cons rfl .nil))) ?_
 repeat apply Sq
 apply Bk
 repeat apply Sq
 refine J.loopG (α := Nat) (fun i => [(1, .is (.pointer (some ⟨b1, 0, none⟩))), (3, .is (.int .i64 (hgK x.KS i : Nat))), (4, .is (.int .i64 (i : Nat)))]) (fun i => [⟨b1, Z6, .is (.agg (exCells x.K x.VK x.VN x.VS x.TB x.NM x.SL a0 x.KS.length q0).toArray)⟩]) (fun i => fun _ => True) (fun i => i ≤ x.KS.length) (fun i => x.KS.length - i) 0 [1, 3, 4] (.cons rfl (.cons rfl (.cons rfl .nil))) rfl (fun _ => trivial) (by omega) fun i hi => ?_
 try dsimp only
 try dsimp only at hi
 repeat apply Sq
 apply Pn
 refine Jt (Z0 rfl) rfl ?_
 refine Jt (Z1 Z1s rfl) rfl ?_
 refine Jt (Z3 Zf rfl rfl) rfl ?_
 refine Jt (Zq Zk rfl) rfl ?_
 refine Jt (Z1f rfl rfl) rfl ?_
 apply Ni
 repeat first | apply Nx | apply Nb
 refine Sl [1, 3, 4, 9] (.cons rfl (.cons rfl (.cons rfl (.cons rfl .nil)))) ?_
 repeat apply Sq
 refine Cd rfl (fun ht9 => ?_) (fun ht9 => ?_)
 ·
  try simp only [dT, dF] at ht9
  apply Sk
  repeat first | apply Nx | apply Nb
  repeat apply Sq
  apply Bk
  repeat apply Sq
  apply Pn
  refine Jt (Z0 rfl) rfl ?_
  refine Jt (Z1 Z1s rfl) rfl ?_
  refine Jt (Z3 Zf rfl rfl) rfl ?_
  refine Jt (Z0 rfl) rfl ?_
  refine Jt (Z7 Z1c rfl (ha0 (by omega)) rfl (by omega) (by omega)) rfl ?_
  refine Jt (Z3H (kid := x.KS.getD i ex0) Zd rfl (by repeat first | exact Mh | apply Mt) (ha0 (by omega)) (Z5C (by omega)) (by omega)) rfl ?_
  refine Jt (ZM rfl (ih _ (Z5V (by omega))) (.one rfl .nil)) rfl ?_
  refine Jt (Zch (cc := ((hgK x.KS (i + 1) : Nat) : Int)) rfl rfl (by rw [ZaE (by omega)]; split <;> omega)) rfl ?_
  refine Jt (Z2 rfl) rfl ?_
  apply Ni
  repeat first | apply Nx | apply Nb
  refine Sl [1, 3, 4] (.cons rfl (.cons rfl (.cons rfl .nil))) ?_
  repeat apply Sq
  apply Pn
  refine Jt (Z0 rfl) rfl ?_
  refine Jt (ZB (cc := ((i + 1 : Nat) : Int)) rfl rfl (by omega) (by omega) (by have := hlen; omega)) rfl ?_
  refine Jt (Z2 rfl) rfl ?_
  apply Ni
  repeat refine JX.normal_block ?_
  refine JX.roundG (x := i) (i + 1) ?_ ?_ [1, 3, 4] ?_ ?_ ?_ ?_
  · exact (by omega)
  · exact (by omega)
  · exact (.cons rfl (.cons rfl (.cons rfl .nil)))
  · repeat (first | exact .all | exact .nil | refine Has.own (by repeat first | exact .here | apply Tl.past | apply Tl.there) ?_ | refine Has.cons (by repeat (first | exact .here | apply Pk.past | apply Pk.there)) ?_)
  · exact fun G hG => by repeat (first | exact hG | refine List.mem_cons_of_mem _ ?_)
  · exact fun _ _ _ => fun _ _ => trivial
 ·
  try simp only [dT, dF] at ht9
  repeat apply Sq
  refine J.exit ?_
  repeat first | refine Ht ?_ | refine Ms rfl ?_ | refine Ep ?_
  repeat first | apply Nx | apply Nb
  repeat apply Sq
  apply Pn
  refine Jt (Z0 rfl) rfl ?_
  refine Jt (ZB (cc := ((hgt x : Nat) : Int)) rfl rfl (by rw [Z6R, show i = x.KS.length by omega, hgK, List.take_length]; omega) (by have := Z6R x; omega) (by have := Z6R x; omega)) rfl ?_
  refine Jt (Z2 rfl) rfl ?_
  apply Ni
  repeat first | apply Nx | apply Nb
  refine Sl [2] (.cons rfl .nil) ?_
  repeat apply Sq
  apply Rt
  repeat first | apply Rp | apply Rb
  exact JX.ret1sub rfl rfl rfl (Sub.refl _)
theorem Z6G : ∀ (n : Nat) (x : Ex), ect x ≤ n → ect x ≤ 4096 → CallTy Tryz.prog Z4F [.rep (ExR x)] (.is (.int .i64 (hgt x : Nat)))
 | 0, x, h, _ => absurd h (by rw [Z2S]; omega)
 | n + 1, x, h, hx => Z7D x hx fun y hy => Z6G n y (by have := Z4D hy; rw [Z2S] at h; omega) (by have := Z4D hy; rw [Z2S] at hx; omega)
end Go.Proofs.YtbedigkncjbggaaGreatDoor
