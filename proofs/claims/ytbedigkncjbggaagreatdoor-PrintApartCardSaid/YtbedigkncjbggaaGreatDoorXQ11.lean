/- The parser: a statement. No condition. -/
import Derived.Test.YtbedigkncjbggaaGreatDoorXQ10
import Derived.Test.YtbedigkncjbggaaGreatDoorXQ4
import Derived.Test.YtbedigkncjbggaaGreatDoorXG7
import Derived.Test.YtbedigkncjbggaaGreatDoorXG6
import Derived.Test.YtbedigkncjbggaaGreatDoorXQ6
import Derived.Test.YtbedigkncjbggaaGreatDoorXG8
import Derived.Test.YtbedigkncjbggaaGreatDoorXQ1
set_option maxRecDepth 20000
namespace Go.Proofs.YtbedigkncjbggaaGreatDoor
open Go Go.Vc
open Go.Pz
theorem Z3C {N : Nat} {st : Pz.St} : Cnt (.rep (StR N st)) 14 := fun E v w h => by
 obtain ⟨vc, vn, vr, vi, vf, vw, vg, vo, vs, rfl, h1, h2, h3, h4, h5, h6, h7, h8, h9⟩ := (h : Pers E w (StR N st v)).now
 have hs : ∀ {α : Type} {En : Enc α} {G : GoS} {xs : List α} {v : Value}, SlE En G xs v w → v.oneCell' = true := fun h => by
   obtain ⟨ps, a, len, cap, _, rfl, _⟩ := h; rfl
 have hx : ∀ {xs : List Ex} {v : Value}, ExsR xs v w → v.oneCell' = true := fun h => by
   obtain ⟨a, len, cap, rfl, _⟩ := h; rfl
 refine ⟨rfl, fun u hu => ?_⟩
 simp only [Value.cells, List.mem_cons, List.mem_nil_iff, or_false] at hu
 rcases hu with rfl|rfl|rfl|rfl|rfl|rfl|rfl|rfl|rfl|rfl|rfl|rfl|rfl|rfl <;> first|rfl|exact hs qN|exact hx qN
theorem Z6w {N : Nat} {st : Pz.St} : ∀ E v w, (Ty.rep (StR N st)).p E v w → ∃ cs, v = .agg cs ∧ cs.size = 14 := fun E v w h => by
 obtain ⟨vc, vn, vr, vi, vf, vw, vg, vo, vs, rfl, _⟩ := (h : Pers E w (StR N st v)).now
 exact ⟨_, rfl, rfl⟩
theorem JO.mapMkS {P : Program} {c : Ctx} {K : List (Nat × Ty)} {L : List Own} {Φ : List (World → Prop)} {Q : Exit → Act → World → Prop} {ops : Array Oper} {rest : List Oper} {d : Nat} {t ty : TypeId} {pos : String} {after : Array Edge} (hd : Nat.blt d c.n = true) (hn : ∀ r, JO P c ((d, .is (.map (some r))) :: K) (⟨r, 0, .ob (sObj [] 0)⟩ :: L) Φ ops rest Q) : JO P c K L Φ ops (⟨some d, .makeMap t none, ty, pos, after, none⟩ :: rest) Q := JO.mapMk hd hn
theorem Zb6 {k : Int} {bx : Nat} {X : Nat → Prop} {w : World} (h : Pers X w (PlF k (.func (.func Z1C) #[] #[.pointer (some ⟨bx, 0, none⟩)]))) : Pers X w (HeapIs bx [.int .i64 k] Z4Z) := fun w' hk => by
 obtain ⟨by_, e, h1⟩ := h w' hk
 injection e with _ _ e
 injection e with e
 injection e with e _
 injection e with e
 injection e with e
 injection e with e _
 subst e
 exact h1
def stF (b7 b8 b9 : Nat) : SEs := [(Z3V, fv Z3f, 0), (Z5g, fv Z3g, 1), (Z53, fv Z3y, 2), (Z5f, fv Z3h, 3), (Z5a, fv Z3e, 4), (Z6V, .func (.func Z1C) #[] #[.pointer (some ⟨b7, 0, none⟩)], 5), (Z5W, .func (.func Z1C) #[] #[.pointer (some ⟨b8, 0, none⟩)], 6), (Z4H, .func (.func Z1C) #[] #[.pointer (some ⟨b9, 0, none⟩)], 7)]
theorem Zio {b7 b8 b9 : Nat} {w : ByteArray} (h : (sGet w (stF b7 b8 b9)).isSome = true) : w = Z3V ∨ w = Z5g ∨ w = Z53 ∨ w = Z5f ∨ w = Z5a ∨ w = Z6V ∨ w = Z5W ∨ w = Z4H := by
 simp only [stF, sGet] at h
 repeat' split at h
 all_goals first|(cases h; done) | simp [*]
theorem Zim {b7 b8 b9 : Nat} {e : Ps Ex} {ts r1 : List T3} {k1 n1 : Int} {w : ByteArray} (hz : takeP 1 ts = some (⟨k1, w, n1⟩, r1)) (h : (sGet w (stF b7 b8 b9)).isSome = false) : stmtP e ts = none := by
 have hne : ∀ s, (s = Z3V ∨ s = Z5g ∨ s = Z53 ∨ s = Z5f ∨ s = Z5a ∨ s = Z6V ∨ s = Z5W ∨ s = Z4H) → ¬ sq w s = true := fun s hs hq => by
  have := ZbA hq
  subst this
  rcases hs with rfl|rfl|rfl|rfl|rfl|rfl|rfl|rfl <;> simp [stF, sGet] at h
 unfold stmtP
 rw [hz, Option.bind_some]
 rw [if_neg (hne _ (by simp)), if_neg (hne _ (by simp)), if_neg (hne _ (by simp)), if_neg (hne _ (by simp)), if_neg (hne _ (by simp)), if_neg (hne _ (by simp)), if_neg (hne _ (by simp)), if_neg (hne _ (by simp))]
attribute [local irreducible] SlE ExsR
theorem Z6B (N : Nat) (T : Tk) (hc : T.ts.length ≤ T.cap) (h9 : T.ts.length ≤ 2049) (b : Nat) (ts : List T3) (hts : ts <:+ T.ts) (M : Nat) (hM : ts.length < M) : CallP Tryz.prog Z47 [PB T b ts] [T.G, AF, NH N] [.is (.pointer (some ⟨b, 0, none⟩))] (stmtP (exprP M) ts = none) flt (fun z : Pz.St × List T3 => stmtP (exprP M) ts = some z) (fun z => [PB T b z.2]) (fun z => .rep (StR N z.1)) :=
CallP.ofN (N := N) (List.mem_cons_of_mem _ (List.mem_cons_of_mem _ List.mem_cons_self)) (fn := Tryz.f26) Tryz.func26 (n := 43) rfl rfl rfl (fun _ _ => by kernel_rfl) fun E W hNW hb0 => by
 refine vQ ?_
 refine JO.alloc Z1o rfl fun b2 => ?_
 refine vS [0, 2] ?_
 refine J.regS 17 hmx qK qK ?_
 refine yz (Z2 rfl) ?_
 refine yz (Z2 rfl) ?_
 refine yz (Z5 rfl) ?_
 refine yz (Z0 Zk rfl) ?_
 refine yz (Z1 ZA rfl rfl) ?_
 refine yz (Zo Z16 rfl) ?_
 refine yz (Z2i rfl rfl) ?_
 refine yz (Z2 rfl) ?_
 refine yg rfl rfl rfl (fun hg => Z2 (.inl rfl)) ?_
 refine yg rfl rfl rfl (fun hg => Z5 (qR rfl)) ?_
 refine yg rfl rfl rfl (fun hg => Z0 Zk (qR rfl)) ?_
 refine yg rfl rfl rfl (fun hg => Z1 ZA (qR rfl) rfl) ?_
 refine yg rfl rfl rfl (fun hg => Z7 Z17 (qR rfl) rfl (.inl rfl) qM (Z2Q (Z33 hg))) ?_
 refine yg rfl rfl rfl (fun hg => Z0 Z35 (qR rfl)) ?_
 refine yg rfl rfl rfl (fun hg => ZJ (enc := T3.cells) (sz := 3) (i := T.k ts) (j := 0) (y := ts.headD t3D) (u := .int .i64 (ts.headD t3D).k) Zt (qR rfl) qI rfl (Tk.head hts (Z33 hg)) (by rw [Tk.j_eq hc hts (Z33 hg)]; omega) rfl) ?_
 refine yg rfl rfl rfl (fun hg => ZM (qR rfl) (.inl rfl)) ?_
 refine yz (ZV rfl rfl rfl id) ?_
 apply yn
 refine FinS.tail0 ?_
 refine JO.callPK (Lr := _) (Zb (.pointer (some ⟨b, 0, none⟩)) _) rfl (Z1k _) Z19 qA (fun hbad => ?_) ?_
 · exact JX.pnI (by unfold stmtP; rw [Zc7, ← Z78, hbad]; rfl)
 intro z hz
 have hK : isK 1 ts = true := by rw [← Z78]; exact hz
 refine vD ?_
 refine vP [0, 2] ?_
 refine JO.mapMkS rfl (fun r24 => ?_)
 refine JO.m (Z21 Zs Zv rfl rfl rfl (by simp [sGet]) .here) (by rfl) ?_
 refine JO.m (Z21 Zs Zv rfl rfl rfl (by simp [sGet]) .here) (by rfl) ?_
 refine JO.m (Z21 Zs Zv rfl rfl rfl (by simp [sGet]) .here) (by rfl) ?_
 refine JO.m (Z21 Zs Zv rfl rfl rfl (by simp [sGet]) .here) (by rfl) ?_
 refine JO.m (Z21 Zs Zv rfl rfl rfl (by simp [sGet]) .here) (by rfl) ?_
 refine Jq (ZL rfl (Z6D 7) qA) ?_
 refine JO.open_ (s := 25) (R := PlF 7) rfl ?_
 rintro _ ⟨_, b7, rfl, _⟩
 refine JO.fact (HeapIs b7 [.int .i64 7] Z4Z) (fun X w hf _ => Zb6 (hf _ List.mem_cons_self)) ?_
 refine JO.m (Z21 Zs Zv rfl rfl rfl (by simp [sGet]) .here) (by rfl) ?_
 refine Jq (ZL rfl (Z6D 8) qA) ?_
 refine JO.open_ (s := 26) (R := PlF 8) rfl ?_
 rintro _ ⟨_, b8, rfl, _⟩
 refine JO.fact (HeapIs b8 [.int .i64 8] Z4Z) (fun X w hf _ => Zb6 (hf _ List.mem_cons_self)) ?_
 refine JO.m (Z21 Zs Zv rfl rfl rfl (by simp [sGet]) .here) (by rfl) ?_
 refine Jq (ZL rfl (Z6D 9) qA) ?_
 refine JO.open_ (s := 27) (R := PlF 9) rfl ?_
 rintro _ ⟨_, b9, rfl, _⟩
 refine JO.fact (HeapIs b9 [.int .i64 9] Z4Z) (fun X w hf _ => Zb6 (hf _ List.mem_cons_self)) ?_
 refine JO.m (Z21 Zs Zv rfl rfl rfl (by simp [sGet]) .here) (by rfl) ?_
 refine Jm rfl (Ja rfl ?_)
 refine vP [0, 2, 3] ?_
 refine Jm rfl (Jm rfl ?_)
 refine JO.callPK (Lr := [_, _]) (Z1x T hc b ts hts 1) rfl (List.perm_append_comm (l₁ := [_, _]) (l₂ := [_])) qF qA (fun hbad => ?_) ?_
 · exact JX.pnI (by unfold stmtP; rw [hbad]; rfl)
 rintro ⟨⟨k1, w, n1⟩, r1⟩ hz1
 refine vD ?_
 refine Jq (Z4y (off := 1) qK rfl rfl) ?_
 refine Jq (Zis (l := stF b7 b8 b9) (V := (sGet w (stF b7 b8 b9)).getD .nilFunc) (B := (sGet w (stF b7 b8 b9)).isSome) Zs Zv Z5z rfl rfl (List.mem_cons_of_mem _ List.mem_cons_self) rfl rfl) ?_
 refine Jm rfl (Jq (ZgG rfl rfl) ?_)
 refine Jq (ZgG rfl rfl) ?_
 refine Ja rfl (Ja rfl ?_)
 refine vP [0, 2, 4, 5] ?_
 refine Jm rfl (Jm rfl ?_)
 refine JO.callPK (Lr := _) (Zb (.pointer (some ⟨b, 0, none⟩)) (sGet w (stF b7 b8 b9)).isSome) rfl (Z1k _) Z19 qA (fun hbad => ?_) ?_
 · exact JX.pnI (by exact Zim hz1 hbad)
 intro _ hfo
 refine vD ?_
 refine vS [0, 2, 4] ?_
 rcases Zio hfo with hw | hw | hw | hw | hw | hw | hw | hw
 subst hw
 rw [show (sGet Z3V (stF b7 b8 b9)).getD .nilFunc = fv Z3f by simp [stF, sGet]]
 refine vQ ?_
 refine Jm rfl (Jm rfl ?_)
 refine JO.callPvK (cp := []) (Lr := [_, _]) rfl (Z7n N T hc h9 b r1 (show r1 <:+ T.ts from (ZP 1 _ _ hz1).1.trans hts)) rfl (.refl _) qF (.one rfl .nil) (fun hbad => ?_) ?_
 · exact JX.pnI (by unfold stmtP; rw [hz1, Option.bind_some, if_pos (by rfl), hbad])
 intro z hz
 refine vD ?_
 refine JO.m (Z3 rfl rfl qU qC (by first|exact Z1e rfl rfl|exact Z6q|exact Z4B|exact Z3C) Zu) (by rfl) ?_
 refine vS [2] ?_
 refine vR ?_
 refine JX.toP ?_
 exact JX.retLCs (Lr := [_, _]) (L1 := fun z : Pz.St × List T3 => [PB T b z.2]) (R := fun z => .rep (StR N z.1)) rfl z (by unfold stmtP; rw [hz1, Option.bind_some, if_pos (by rfl), hz]) (.refl _) rfl rfl hb0 rfl Zc HasOwn.mem Z6w (Sub.refl _)
 subst hw
 rw [show (sGet Z5g (stF b7 b8 b9)).getD .nilFunc = fv Z3g by simp [stF, sGet]]
 refine vQ ?_
 refine Jm rfl (Jm rfl ?_)
 refine JO.callPvK (cp := []) (Lr := [_, _]) rfl (Z7k N T hc h9 b r1 (show r1 <:+ T.ts from (ZP 1 _ _ hz1).1.trans hts) (exprP M) (Z2l M) (fun us hus hu => Z9C T hc b M us hus (by have : r1.length < ts.length := (ZP 1 _ _ hz1).2; omega))) rfl (.refl _) qF (.one rfl .nil) (fun hbad => ?_) ?_
 · exact JX.pnI (by unfold stmtP; rw [hz1, Option.bind_some, if_neg (by exact Bool.false_ne_true), if_pos (by rfl), hbad])
 intro z hz
 refine vD ?_
 refine JO.m (Z3 rfl rfl qU qC (by first|exact Z1e rfl rfl|exact Z6q|exact Z4B|exact Z3C) Zu) (by rfl) ?_
 refine vS [2] ?_
 refine vR ?_
 refine JX.toP ?_
 exact JX.retLCs (Lr := [_, _]) (L1 := fun z : Pz.St × List T3 => [PB T b z.2]) (R := fun z => .rep (StR N z.1)) rfl z (by unfold stmtP; rw [hz1, Option.bind_some, if_neg (by exact Bool.false_ne_true), if_pos (by rfl), hz]) (.refl _) rfl rfl hb0 rfl Zc HasOwn.mem Z6w (Sub.refl _)
 subst hw
 rw [show (sGet Z53 (stF b7 b8 b9)).getD .nilFunc = fv Z3y by simp [stF, sGet]]
 refine vQ ?_
 refine Jm rfl (Jm rfl ?_)
 refine JO.callPvK (cp := []) (Lr := [_, _]) rfl (Z7V N T hc h9 b r1 (show r1 <:+ T.ts from (ZP 1 _ _ hz1).1.trans hts) (exprP M) (Z2l M) (fun us hus hu => Z9C T hc b M us hus (by have : r1.length < ts.length := (ZP 1 _ _ hz1).2; omega))) rfl (.refl _) qF (.one rfl .nil) (fun hbad => ?_) ?_
 · exact JX.pnI (by unfold stmtP; rw [hz1, Option.bind_some, if_neg (by exact Bool.false_ne_true), if_neg (by exact Bool.false_ne_true), if_pos (by rfl), hbad])
 intro z hz
 refine vD ?_
 refine JO.m (Z3 rfl rfl qU qC (by first|exact Z1e rfl rfl|exact Z6q|exact Z4B|exact Z3C) Zu) (by rfl) ?_
 refine vS [2] ?_
 refine vR ?_
 refine JX.toP ?_
 exact JX.retLCs (Lr := [_, _]) (L1 := fun z : Pz.St × List T3 => [PB T b z.2]) (R := fun z => .rep (StR N z.1)) rfl z (by unfold stmtP; rw [hz1, Option.bind_some, if_neg (by exact Bool.false_ne_true), if_neg (by exact Bool.false_ne_true), if_pos (by rfl), hz]) (.refl _) rfl rfl hb0 rfl Zc HasOwn.mem Z6w (Sub.refl _)
 subst hw
 rw [show (sGet Z5f (stF b7 b8 b9)).getD .nilFunc = fv Z3h by simp [stF, sGet]]
 refine vQ ?_
 refine Jm rfl (Jm rfl ?_)
 refine JO.callPvK (cp := []) (Lr := [_, _]) rfl (Z7u N T hc h9 b r1 (show r1 <:+ T.ts from (ZP 1 _ _ hz1).1.trans hts) (exprP M) (Z2l M) (fun us hus hu => Z9C T hc b M us hus (by have : r1.length < ts.length := (ZP 1 _ _ hz1).2; omega))) rfl (.refl _) qF (.one rfl .nil) (fun hbad => ?_) ?_
 · exact JX.pnI (by unfold stmtP; rw [hz1, Option.bind_some, if_neg (by exact Bool.false_ne_true), if_neg (by exact Bool.false_ne_true), if_neg (by exact Bool.false_ne_true), if_pos (by rfl), hbad])
 intro z hz
 refine vD ?_
 refine JO.m (Z3 rfl rfl qU qC (by first|exact Z1e rfl rfl|exact Z6q|exact Z4B|exact Z3C) Zu) (by rfl) ?_
 refine vS [2] ?_
 refine vR ?_
 refine JX.toP ?_
 exact JX.retLCs (Lr := [_, _]) (L1 := fun z : Pz.St × List T3 => [PB T b z.2]) (R := fun z => .rep (StR N z.1)) rfl z (by unfold stmtP; rw [hz1, Option.bind_some, if_neg (by exact Bool.false_ne_true), if_neg (by exact Bool.false_ne_true), if_neg (by exact Bool.false_ne_true), if_pos (by rfl), hz]) (.refl _) rfl rfl hb0 rfl Zc HasOwn.mem Z6w (Sub.refl _)
 subst hw
 rw [show (sGet Z5a (stF b7 b8 b9)).getD .nilFunc = fv Z3e by simp [stF, sGet]]
 refine vQ ?_
 refine Jm rfl (Jm rfl ?_)
 refine JO.callPvK (cp := []) (Lr := [_, _]) rfl (Z7s N T hc h9 b r1 (show r1 <:+ T.ts from (ZP 1 _ _ hz1).1.trans hts) (exprP M) (fun us hus hu => Z9C T hc b M us hus (by have : r1.length < ts.length := (ZP 1 _ _ hz1).2; omega))) rfl (.refl _) qF (.one rfl .nil) (fun hbad => ?_) ?_
 · exact JX.pnI (by unfold stmtP; rw [hz1, Option.bind_some, if_neg (by exact Bool.false_ne_true), if_neg (by exact Bool.false_ne_true), if_neg (by exact Bool.false_ne_true), if_neg (by exact Bool.false_ne_true), if_pos (by rfl), hbad])
 intro z hz
 refine vD ?_
 refine JO.m (Z3 rfl rfl qU qC (by first|exact Z1e rfl rfl|exact Z6q|exact Z4B|exact Z3C) Zu) (by rfl) ?_
 refine vS [2] ?_
 refine vR ?_
 refine JX.toP ?_
 exact JX.retLCs (Lr := [_, _]) (L1 := fun z : Pz.St × List T3 => [PB T b z.2]) (R := fun z => .rep (StR N z.1)) rfl z (by unfold stmtP; rw [hz1, Option.bind_some, if_neg (by exact Bool.false_ne_true), if_neg (by exact Bool.false_ne_true), if_neg (by exact Bool.false_ne_true), if_neg (by exact Bool.false_ne_true), if_pos (by rfl), hz]) (.refl _) rfl rfl hb0 rfl Zc HasOwn.mem Z6w (Sub.refl _)
 subst hw
 rw [show (sGet Z6V (stF b7 b8 b9)).getD .nilFunc = .func (.func Z1C) #[] #[.pointer (some ⟨b7, 0, none⟩)] by simp [stF, sGet]]
 refine vQ ?_
 refine Jm rfl (Jm rfl ?_)
 refine JO.callPvK (cp := [.pointer (some ⟨b7, 0, none⟩)]) (Lr := [_, _]) rfl (Z5H N T hc h9 b r1 (show r1 <:+ T.ts from (ZP 1 _ _ hz1).1.trans hts) b7 7) rfl (.refl _) qF (.one rfl .nil) (fun hbad => ?_) ?_
 · exact JX.pnI (by exact hbad.elim)
 intro z hz
 refine vD ?_
 refine JO.m (Z3 rfl rfl qU qC (by first|exact Z1e rfl rfl|exact Z6q|exact Z4B|exact Z3C) Zu) (by rfl) ?_
 refine vS [2] ?_
 refine vR ?_
 refine JX.toP ?_
 exact JX.retLCs (Lr := [_, _]) (L1 := fun z : Pz.St × List T3 => [PB T b z.2]) (R := fun z => .rep (StR N z.1)) rfl z (by unfold stmtP; rw [hz1, Option.bind_some, if_neg (by exact Bool.false_ne_true), if_neg (by exact Bool.false_ne_true), if_neg (by exact Bool.false_ne_true), if_neg (by exact Bool.false_ne_true), if_neg (by exact Bool.false_ne_true), if_pos (by rfl), hz]) (.refl _) rfl rfl hb0 rfl Zc HasOwn.mem Z6w (Sub.refl _)
 subst hw
 rw [show (sGet Z5W (stF b7 b8 b9)).getD .nilFunc = .func (.func Z1C) #[] #[.pointer (some ⟨b8, 0, none⟩)] by simp [stF, sGet]]
 refine vQ ?_
 refine Jm rfl (Jm rfl ?_)
 refine JO.callPvK (cp := [.pointer (some ⟨b8, 0, none⟩)]) (Lr := [_, _]) rfl (Z5H N T hc h9 b r1 (show r1 <:+ T.ts from (ZP 1 _ _ hz1).1.trans hts) b8 8) rfl (.refl _) qF (.one rfl .nil) (fun hbad => ?_) ?_
 · exact JX.pnI (by exact hbad.elim)
 intro z hz
 refine vD ?_
 refine JO.m (Z3 rfl rfl qU qC (by first|exact Z1e rfl rfl|exact Z6q|exact Z4B|exact Z3C) Zu) (by rfl) ?_
 refine vS [2] ?_
 refine vR ?_
 refine JX.toP ?_
 exact JX.retLCs (Lr := [_, _]) (L1 := fun z : Pz.St × List T3 => [PB T b z.2]) (R := fun z => .rep (StR N z.1)) rfl z (by unfold stmtP; rw [hz1, Option.bind_some, if_neg (by exact Bool.false_ne_true), if_neg (by exact Bool.false_ne_true), if_neg (by exact Bool.false_ne_true), if_neg (by exact Bool.false_ne_true), if_neg (by exact Bool.false_ne_true), if_neg (by exact Bool.false_ne_true), if_pos (by rfl), hz]) (.refl _) rfl rfl hb0 rfl Zc HasOwn.mem Z6w (Sub.refl _)
 subst hw
 rw [show (sGet Z4H (stF b7 b8 b9)).getD .nilFunc = .func (.func Z1C) #[] #[.pointer (some ⟨b9, 0, none⟩)] by simp [stF, sGet]]
 refine vQ ?_
 refine Jm rfl (Jm rfl ?_)
 refine JO.callPvK (cp := [.pointer (some ⟨b9, 0, none⟩)]) (Lr := [_, _]) rfl (Z5H N T hc h9 b r1 (show r1 <:+ T.ts from (ZP 1 _ _ hz1).1.trans hts) b9 9) rfl (.refl _) qF (.one rfl .nil) (fun hbad => ?_) ?_
 · exact JX.pnI (by exact hbad.elim)
 intro z hz
 refine vD ?_
 refine JO.m (Z3 rfl rfl qU qC (by first|exact Z1e rfl rfl|exact Z6q|exact Z4B|exact Z3C) Zu) (by rfl) ?_
 refine vS [2] ?_
 refine vR ?_
 refine JX.toP ?_
 exact JX.retLCs (Lr := [_, _]) (L1 := fun z : Pz.St × List T3 => [PB T b z.2]) (R := fun z => .rep (StR N z.1)) rfl z (by unfold stmtP; rw [hz1, Option.bind_some, if_neg (by exact Bool.false_ne_true), if_neg (by exact Bool.false_ne_true), if_neg (by exact Bool.false_ne_true), if_neg (by exact Bool.false_ne_true), if_neg (by exact Bool.false_ne_true), if_neg (by exact Bool.false_ne_true), if_neg (by exact Bool.false_ne_true), if_pos (by rfl), hz]) (.refl _) rfl rfl hb0 rfl Zc HasOwn.mem Z6w (Sub.refl _)
end Go.Proofs.YtbedigkncjbggaaGreatDoor
namespace Go.Pz
open Go Go.Vc
theorem Zdo {kids : List Ex} {a : Option Addr} {len : Nat} {X : Nat → Prop} {w : World} (h : Pers X w (KidsR kids a len)) :
   ∃ ps : List (Cel exE), ps.map Cel.x = kids ∧ Pers X w (RowG Cel.cs 8 ps a len) ∧ Pers X w (CelF exE ps) := by
 have h0 := h.now
 by_cases hn : len = 0
 · have hk : kids = [] := List.length_eq_zero_iff.1 (by rw [h0.1]; exact hn)
   subst hk
   exact ⟨[], rfl, fun w' _ => ⟨hn.symm, fun h => absurd hn h⟩, fun w' _ p hp => by cases hp⟩
 obtain ⟨b, o, rfl, _⟩ := h0.2 hn
 have hall : ∀ i : Fin kids.length, ∃ cs : List Value, cs.length = 8 ∧ RowAt cs b (o + 8 * i.1) w ∧ Pers X w (ExR kids[i] (.agg cs.toArray)) := fun i => ZdK h (List.getElem?_eq_getElem i.2)
 let f : Fin kids.length → List Value := fun i => Classical.choose (hall i)
 have hf : ∀ i, (f i).length = 8 ∧ RowAt (f i) b (o + 8 * i.1) w ∧ Pers X w (ExR kids[i] (.agg (f i).toArray)) := fun i => Classical.choose_spec (hall i)
 have hl : 0 < kids.length := by rw [h0.1]; omega
 have hX : ¬ X b := Zds (o := o + 8 * 0) fun w' hk => by
   obtain ⟨hl', hk'⟩ := h w' hk
   obtain ⟨b', o', e, hK⟩ := hk' hn
   injection e with e
   injection e with e1 e2
   subst e1 e2
   obtain ⟨cs, _, h2, h3⟩ := Z8U kids b o w' 0 kids[0] hK (List.getElem?_eq_getElem hl)
   obtain ⟨k, n, h4⟩ := Z5t h2
   exact ⟨k, n, h3 0 _ h4⟩
 obtain ⟨C, t, fr, hC, _⟩ : ∃ (cs : Array Value) (t : TypeId) (fr : Nat × Nat), w.heap[b]? = some (.cells cs t fr) ∧ True := by
   have h2 := hf ⟨0, hl⟩
   obtain ⟨k, n, h4⟩ := Z5t h2.2.2.now
   obtain ⟨cs, t, fr, q1, _⟩ := ZaR (h2.2.1 0 _ h4)
   exact ⟨cs, t, fr, q1, trivial⟩
 refine ⟨List.ofFn fun i : Fin kids.length => ⟨kids[i], f i, (hf i).1, Zbz (hf i).2.2.now⟩, ?_, fun w' hk => ⟨by rw [List.length_ofFn]; exact h0.1, fun _ => ⟨b, o, rfl, fun i p hp => ?_⟩⟩, fun w' hk p hp => ?_⟩
 · refine List.ext_getElem (by simp) fun i h1 h2 => ?_
   simp
 · rw [List.getElem?_ofFn] at hp
   split at hp
   · rename_i hi
     injection hp with hp
     subst hp
     intro j v hj
     have := (hf ⟨i, hi⟩).2.1 j v hj
     rw [Z1j hC] at this
     rw [Z1j (hk.get hC hX)]
     exact this
   · cases hp
 · obtain ⟨i, rfl⟩ := List.mem_ofFn.1 hp
   exact (hf i).2.2 w' hk
section
variable {P : Program} {c : Ctx} {K : List (Nat × Ty)} {L : List Own} {Φ : List (World → Prop)} {Q : Exit → Act → World → Prop}
theorem SA.more {X : Nat → Prop} {a : Act} {w : World} (hs : SA c K L Φ X a w) (Ψ : List (World → Prop)) (hΨ : ∀ F ∈ Ψ, Pers X w F) : SA c K L (Ψ ++ Φ) X a w :=
 ⟨hs.n, hs.d, hs.wf, hs.k, hs.l, hs.ld, fun F hF => by
  rcases List.mem_append.1 hF with hF | hF
  · exact hΨ F hF
  · exact hs.f F hF, hs.x, hs.xs, hs.keeps, hs.may⟩
theorem J.kidsC {x : Code} {kids : List Ex} {a : Option Addr} {len : Nat} (h : KidsR kids a len ∈ Φ) (hj : ∀ ps : List (Cel exE), ps.map Cel.x = kids → J P c K L (RowG Cel.cs 8 ps a len :: CelF exE ps :: Φ) x Q) : J P c K L Φ x Q := by
 refine ⟨fun X a' w hs => ?_⟩
 obtain ⟨ps, h1, h2, h3⟩ := Zdo (hs.f _ h)
 refine (hj ps h1).out X a' w (SA.more hs [_, _] fun F hF => ?_)
 simp only [List.mem_cons, List.mem_nil_iff, or_false] at hF
 rcases hF with rfl|rfl
 · exact h2
 · exact h3
theorem Zk1 {xs : List Ex} {v : Value} {X : Nat → Prop} {w : World} (h : Pers X w (ExsR xs v)) : ∃ (ps : List (Cel exE)) (a : Option Addr) (len cap : Nat), ps.map Cel.x = xs ∧ v = .slice a len cap ∧ ps.length = len ∧ (∃ b o, len ≠ 0 → a = some ⟨b, o, none⟩) ∧ Pers X w (RowG Cel.cs 8 ps a len) ∧ Pers X w (CelF exE ps) := by
 obtain ⟨a, len, cap, rfl, hk⟩ := h.now
 have hp : Pers X w (KidsR xs a len) := fun w' hk => by
   obtain ⟨a', len', cap', e, h1⟩ := h w' hk
   injection e with e1 e2 e3
   subst e1 e2 e3
   exact h1
 obtain ⟨ps, h1, h2, h3⟩ := Zdo hp
 refine ⟨ps, a, len, cap, h1, rfl, h2.now.1, ?_, h2, h3⟩
 by_cases hn : len = 0
 · exact ⟨0, 0, fun h => absurd hn h⟩
 · obtain ⟨b, o, e, _⟩ := h2.now.2 hn
   exact ⟨b, o, fun _ => e⟩
theorem J.shapeX {x : Code} {xs : List Ex} {v : Value} (h : ExsR xs v ∈ Φ) (hj : ∀ (ps : List (Cel exE)) (a : Option Addr) (len cap b o : Nat), ps.map Cel.x = xs → v = .slice a len cap → ps.length = len → (len ≠ 0 → a = some ⟨b, o, none⟩) → J P c K L (RowG Cel.cs 8 ps a len :: CelF exE ps :: Φ) x Q) : J P c K L Φ x Q := by
 refine ⟨fun X a' w hs => ?_⟩
 obtain ⟨ps, a, len, cap, h1, h2, h3, ⟨b, o, h4⟩, h5, h6⟩ := Zk1 (hs.f _ h)
 refine (hj ps a len cap b o h1 h2 h3 h4).out X a' w (SA.more hs [_, _] fun F hF => ?_)
 simp only [List.mem_cons, List.mem_nil_iff, or_false] at hF
 rcases hF with rfl|rfl
 · exact h5
 · exact h6
theorem J.shapeE {α : Type} {E : Enc α} {G : GoS} {x : Code} {xs : List α} {v : Value} (h : SlE E G xs v ∈ Φ) (hj : ∀ (ps : List (Cel E)) (a : Option Addr) (len cap b o : Nat), ps.map Cel.x = xs → v = .slice a len cap → ps.length = len → (len ≠ 0 → a = some ⟨b, o, none⟩) → J P c K L (RowG Cel.cs E.sz ps a len :: CelF E ps :: Φ) x Q) : J P c K L Φ x Q := by
 refine ⟨fun X a' w hs => ?_⟩
 obtain ⟨ps, a, len, cap, h1, h2, _, h3, ⟨b, o, h4⟩, h5, h6, _⟩ := ZbS (hs.f _ h)
 refine (hj ps a len cap b o h1 h2 h3 h4).out X a' w (SA.more hs [_, _] fun F hF => ?_)
 simp only [List.mem_cons, List.mem_nil_iff, or_false] at hF
 rcases hF with rfl|rfl
 · exact h5
 · exact h6
theorem JO.apA {α : Type} {en : α → List Value} {sz : Nat} {L' : List Own} {d : Nat} {ops : Array Oper} {rest : List Oper} {ty t tx e : TypeId} {pos : String} {after : Array Edge} {s x : Operand} {bytes cap : Nat} {xs : List α} (ys : List α) {st : Option (Nat × List Value)} {TX : Ty} {C : Option (Nat × List Value) → List Own}
   (hT : ApTy P t e sz bytes) (hen : ∀ x, (en x).length = sz) (hC : Cx e L st C L') (hG : Grows en sz xs st cap) (h0 : opTy K s = some (.is (sliceO st xs.length cap))) (hx : opTy K x = some TX) (hS : ∀ L, SrcOf P L Φ sz tx TX ys.length (ys.flatMap en)) (hfit : (xs.length + ys.length) * bytes ≤ 140737488355328) (h63 : xs.length + ys.length ≤ 9223372036854775807) (hd : Nat.blt d c.n = true)
   (hn : ∀ (st' : Option (Nat × List Value)) (cap' : Nat), Grows en sz (xs ++ ys) st' cap' → JO P c ((d, .is (sliceO st' (xs ++ ys).length cap')) :: K) (C st') Φ ops rest Q) :
   JO P c K L Φ ops (⟨some d, .call { callee := .builtin .append, args := #[s, x], argTypes := #[t, tx] }, ty, pos, after, none⟩ :: rest) Q := by
 cases st with
 | some p => exact JO.apSL ys hT hC hG h0 hx (hS _) hfit h63 hd fun p' cap' hG' => hn _ _ hG'
 | none =>
   have hxs : xs = [] := hG
   subst hxs
   simp only [List.length_nil, Nat.zero_add, List.nil_append] at hfit h63 hn
   refine JO.subL hC.tl.perm ?_
   refine JO.apN ys hT h0 hx (hS _) hfit h63 hd fun st' cap' hG' => ?_
   exact JO.subL (hC.back st') (hn _ _ hG')
end
end Go.Pz
set_option maxRecDepth 20000
namespace Go.Proofs.YtbedigkncjbggaaGreatDoor
open Go Go.Vc
open Go.Pz
abbrev hgK (xs : List Ex) (i : Nat) : Nat := hgts (xs.take i)
theorem ZgU (xs : List Ex) (x : Ex) : hgts (xs ++ [x]) = max (hgts xs) (hgt x) := by
 induction xs with
 | nil => simp [hgts]
 | cons y ys ih => rw [List.cons_append, hgts, hgts, ih]; omega
theorem Ziu {xs : List Ex} {i : Nat} (h : i < xs.length) : hgK xs (i + 1) = max (hgK xs i) (hgt (xs.getD i ex0)) := by
 show hgts (xs.take (i + 1)) = _
 rw [List.take_add_one, List.getElem?_eq_getElem h, Option.toList_some, ZgU, List.getD_eq_getElem?_getD, List.getElem?_eq_getElem h]
 rfl
theorem Zd7 (x : Ex) : hgt x = hgts x.KS + 1 := by cases x; rw [hgt]; rfl
theorem Z2X {xs : List Ex} {i : Nat} (h : i < xs.length) : xs.getD i ex0 ∈ xs := by
 rw [List.getD_eq_getElem?_getD, List.getElem?_eq_getElem h]; exact List.getElem_mem h
theorem Z2Y {xs : List Ex} {i : Nat} (h : i < xs.length) : xs[i]? = some (xs.getD i ex0) := by
 rw [List.getD_eq_getElem?_getD, List.getElem?_eq_getElem h]; rfl
theorem Z9s (x : Ex) (hx : ect x ≤ 4096) (ih : ∀ y ∈ x.KS, CallTy Tryz.prog Z5T [.rep (ExR y)] (.is (.int .i64 (hgt y : Nat)))) : CallTy Tryz.prog Z5T [.rep (ExR x)] (.is (.int .i64 (hgt x : Nat))) :=
 CallTy.of (fn := Tryz.f66) Tryz.func66 (n := 20) rfl rfl rfl (fun _ _ => by kernel_rfl) fun E W => by
 have hlen := Zb2 x.KS
 rw [Z2K] at hx
 have hhx := Z9U x.KS
 refine J.openA (s := 0) rfl (fun a0 l0 q0 b0 o0 hl0 ha0 => ?_)
 subst hl0
 refine vQ ?_
 refine JO.box rfl rfl fun b1 => ?_
 refine Ja rfl ?_
 refine vP [1] ?_
 refine Ja rfl ?_
 refine vP [1, 3] ?_
 refine Jq (Z0 Z2U rfl) ?_
 refine Jq (Z1 Zh rfl rfl) ?_
 refine Jq (Zo Zl rfl) ?_
 refine Jm rfl ?_
 refine vS [3, 7, 8, 9] ?_
 apply yk
 repeat apply yQ
 refine J.loopG (α := Nat) (fun i => [(3, .is (.int .i64 (hgK x.KS i : Nat))), (7, .is (.slice a0 x.KS.length q0)), (8, .is (.int .i64 (x.KS.length : Nat))), (9, .is (.int .i64 (i : Nat)))]) (fun i => [⟨b1, Z6, .is (.agg (exCells x.K x.VK x.VN x.VS x.TB x.NM x.SL a0 x.KS.length q0).toArray)⟩]) (fun i => fun _ => True) (fun i => i ≤ x.KS.length) (fun i => x.KS.length - i) 0 [3, 7, 8, 9] (.cons rfl (.cons rfl (.cons rfl (.cons rfl .nil)))) rfl (fun _ => trivial) qM fun i hi => ?_
 refine vQ ?_
 refine Jq (ZW rfl rfl) ?_
 refine vS [3, 7, 8, 9, 10] ?_
 refine yC rfl (fun ht10 => ?_) (fun ht10 => ?_)
 try simp only [yd, yf] at ht10
 apply yK
 refine vN ?_
 apply yk
 refine vQ ?_
 refine Jq (Z7 Z1X rfl (ha0 qM) rfl qM qM) ?_
 refine Jq (Z3s (kid := x.KS.getD i ex0) Za rfl qI (ha0 qM) (Z2Y qM) qM) ?_
 refine JO.alloc Z13 rfl fun b5 => ?_
 refine JO.m (Z3 rfl rfl qU qC qO Zq) (by rfl) ?_
 refine vP [3, 5, 7, 8, 9] ?_
 refine Jm rfl (Jq (Z2S Za rfl) ?_)
 refine Jq (ZL rfl (ih _ (Z2X qM)) (.one rfl .nil)) ?_
 refine Jq (ZjB (cc := ((hgK x.KS (i + 1) : Nat) : Int)) rfl rfl (by rw [Ziu qM]; split <;> omega)) ?_
 refine Ja rfl ?_
 refine vP [3, 7, 8, 9] ?_
 refine Jq (ZE (cc := ((i + 1 : Nat) : Int)) rfl rfl qM qM (by have := hlen; omega)) ?_
 refine Jm rfl ?_
 apply yI
 repeat refine JX.normal_block ?_
 refine JX.roundG (x := i) (i + 1) ?_ ?_ [3, 7, 8, 9] ?_ ?_ ?_ ?_
 · exact qM
 · exact qM
 · exact qS
 · exact qH
 · exact qG
 · exact fun _ _ _ => fun _ _ => trivial
 try simp only [yd, yf] at ht10
 repeat apply yQ
 refine J.exit ?_
 repeat first|refine yH ?_|refine yM rfl ?_|refine yE ?_
 refine vN ?_
 apply yN
 refine Jm rfl (Jq (ZE (cc := ((hgt x : Nat) : Int)) rfl rfl (by rw [Zd7, show i = x.KS.length by omega, hgK, List.take_length]; omega) (by have := Zd7 x; omega) (by have := Zd7 x; omega)) ?_)
 refine Ja rfl ?_
 refine vS [2] ?_
 refine vR ?_
 exact JX.ret1sub rfl rfl rfl (Sub.refl _)
theorem Z8F : ∀ (n : Nat) (x : Ex), ect x ≤ n → ect x ≤ 4096 → CallTy Tryz.prog Z5T [.rep (ExR x)] (.is (.int .i64 (hgt x : Nat)))
 | 0, x, h, _ => absurd h (by rw [Z2K]; omega)
 | n + 1, x, h, hx => Z9s x hx fun y hy => Z8F n y (by have := Z42 hy; rw [Z2K] at h; omega) (by have := Z42 hy; rw [Z2K] at hx; omega)
theorem sz2 {a b : ByteArray} (ha : a.data.toList.length ≤ 4000000000000) (hb : b.data.toList.length ≤ 4000000000000) : a.size + b.size ≤ 9223372036854775807 := by
 rw [← Z1q, ← Z1q]; omega
abbrev kT (x : Ex) (i : Nat) : List ByteArray := (x.KS.take i).map fun k => bl (prO k)
theorem Zfd {x : Ex} {i : Nat} (h : i < x.KS.length) : kT x (i + 1) = kT x i ++ [bl (prO (x.KS.getD i ex0))] := by
 show ((x.KS.take (i + 1)).map _) = _
 rw [List.take_add_one, List.getElem?_eq_getElem h, Option.toList_some, List.map_append, List.getD_eq_getElem?_getD, List.getElem?_eq_getElem h]
 rfl
theorem Z87 {x : Ex} {i n : Nat} (hn : n = x.KS.length) (hi : i < 2) : (kT x n ++ [em, em])[i]? = some (bl (opK x i)) := by
 subst hn
 unfold opK kT
 rw [List.take_length]
 cases x.KS with
 | nil => match i, hi with
   | 0, _ => rfl
   | 1, _ => rfl
 | cons y l => cases l with
   | nil => match i, hi with
     | 0, _ => rfl
     | 1, _ => rfl
   | cons z l => match i, hi with
     | 0, _ => rfl
     | 1, _ => rfl
theorem Zy (l k : List UInt8) : bl l ++ bl k = bl (l ++ k) := by
 apply ByteArray.ext
 apply Array.ext'
 simp
theorem Zll {q : Int} (h5 : 5 ≤ q) (h17 : q ≤ 17) : ([.string ⟨#[43]⟩, .string ⟨#[45]⟩, .string ⟨#[42]⟩, .string ⟨#[47]⟩, .string ⟨#[37]⟩, .string ⟨#[61]⟩, .string ⟨#[60, 62]⟩, .string ⟨#[60]⟩, .string ⟨#[60, 61]⟩, .string ⟨#[62]⟩, .string ⟨#[62, 61]⟩, .string ⟨#[65, 78, 68]⟩, .string ⟨#[79, 82]⟩] : List Value).toArray[(q - 5).toNat]? = some (.string (bl (opS q))) := by
 have : q = 5 ∨ q = 6 ∨ q = 7 ∨ q = 8 ∨ q = 9 ∨ q = 10 ∨ q = 11 ∨ q = 12 ∨ q = 13 ∨ q = 14 ∨ q = 15 ∨ q = 16 ∨ q = 17 := by omega
 rcases this with rfl|rfl|rfl|rfl|rfl|rfl|rfl|rfl|rfl|rfl|rfl|rfl|rfl <;> rfl
theorem Ziw {q : Int} (h0 : 20 ≤ q) (h1 : q ≤ 23) : ([.string ⟨#[67, 79, 85, 78, 84]⟩, .string ⟨#[83, 85, 77]⟩, .string ⟨#[77, 73, 78]⟩, .string ⟨#[77, 65, 88]⟩] : List Value).toArray[(q - 20).toNat]? = some (.string (aggW q)) := by
 have : q = 20 ∨ q = 21 ∨ q = 22 ∨ q = 23 := by omega
 rcases this with rfl|rfl|rfl|rfl <;> rfl
theorem Zgu (x : Ex) : Ex.mk x.K x.VK x.VN x.VS x.TB x.NM x.SL x.KS = x := by cases x; rfl
def inK (x : Ex) : List UInt8 := match x.KS with | [] => [42] | y :: _ => prE y
theorem Zk0 {x : Ex} (h : 0 < x.KS.length) : inK x = prE (x.KS.getD 0 ex0) := by
 unfold inK
 cases hk : x.KS with
 | nil => rw [hk] at h; cases h
 | cons y l => rfl
theorem Zfg {x : Ex} (h : x.KS.length = 0) : inK x = [42] := by
 unfold inK
 rw [List.length_eq_zero_iff.1 h]
theorem Zkc {x : Ex} (hw : Wf nmOk x) (hx : ect x ≤ 4096) : (inK x).length ≤ 20500000 := by
 unfold inK
 cases hk : x.KS with
 | nil => decide
 | cons y l =>
   have hm : y ∈ x.KS := by rw [hk]; exact List.mem_cons_self
   have h3 := Z42 hm
   rw [Z2K] at hx
   exact Zae (Za6 hw y hm) qM
abbrev PX (x : Ex) : Prop := CallF Tryz.prog Z4w [GF, TF] [.rep (ExR x)] (.is (.string (bl (prE x))))
theorem Zi8 {x : Ex} (h : 0 < x.KS.length) (ih : ∀ y ∈ x.KS, PX y) : CallF Tryz.prog Z4w [GF, TF] [.rep (ExR (x.KS.getD 0 ex0))] (.is (.string (bl (inK x)))) := by
 rw [Zk0 h]; exact ih _ (Z2X h)
theorem Za5 (x : Ex) (hw : Wf nmOk x) (hx : ect x ≤ 4096) (hP : PX x) : CallF Tryz.prog Zbc [GF, TF] [.rep (ExR x)] (.is (.string (bl (prO x)))) :=
CallF.of (fn := Tryz.f53) Tryz.func53 (n := 18) rfl rfl rfl (fun _ _ => by kernel_rfl) fun E W => by
 have hpl := Zae hw hx
 refine J.openA (s := 0) rfl (fun a0 l0 q0 b0 o0 hl0 ha0 => ?_)
 subst hl0
 refine vQ ?_
 refine JO.box rfl rfl fun b1 => ?_
 refine Ja rfl ?_
 refine vS [1] ?_
 refine J.reg0 hmx qK qK ?_
 refine yz (Z0 Z2U rfl) ?_
 refine yz (Z1 Zh rfl rfl) ?_
 refine yz (Zo Zl rfl) ?_
 refine yz (Z2i rfl rfl) ?_
 refine yz (Z2 rfl) ?_
 refine yg rfl rfl rfl (fun hg => Z0 Z28 (.inl rfl)) ?_
 refine yg rfl rfl rfl (fun hg => Z1 Zt (qR rfl) rfl) ?_
 refine yg rfl rfl rfl (fun hg => ZW (qR rfl) (.inl rfl)) ?_
 refine yz (ZV rfl rfl rfl id) ?_
 apply yn
 refine FinS.nil0 ?_
 refine vS [1, 11] ?_
 refine yC rfl (fun ht11 => ?_) (fun ht11 => ?_)
 try simp only [yd, yf] at ht11
 refine vQ ?_
 refine Jq (ZI (cs := [_, _, _, _, _, _, _, _]) Za rfl rfl rfl) ?_
 refine Jq (ZG rfl (hP) qF (.sub rfl (Sub.ex_eq (Sub.exMk qI) (Zgu x)) .nil)) ?_
 refine Jq (Zd (u := bl (40 :: prE x)) rfl rfl (sz2 qZ qZ) (by exact Zy [40] _)) ?_
 refine Jq (Zd (u := bl (40 :: prE x ++ [41])) rfl rfl (sz2 qZ qZ) (by exact Zy _ [41])) ?_
 refine Ja rfl ?_
 refine vS [2] ?_
 refine vR ?_
 exact JX.ret1is rfl rfl (by have hb : big x = true := (by unfold big; simpa using ht11); unfold prO parS; rw [if_pos hb]; rfl)
 try simp only [yd, yf] at ht11
 apply yK
 refine vN ?_
 apply yN
 refine Jq (ZI (cs := [_, _, _, _, _, _, _, _]) Za rfl rfl rfl) ?_
 refine Jq (ZG rfl (hP) qF (.sub rfl (Sub.ex_eq (Sub.exMk qI) (Zgu x)) .nil)) ?_
 refine Ja rfl ?_
 refine vS [2] ?_
 refine vR ?_
 exact JX.ret1is rfl rfl (by have hb : big x = false := (by unfold big; simpa using ht11); unfold prO parS; rw [if_neg (by rw [hb]; simp)])
set_option maxHeartbeats 2000000 in
theorem Zau (x : Ex) (hw : Wf nmOk x) (hx : ect x ≤ 4096) (ih : ∀ y ∈ x.KS, PX y) : CallF Tryz.prog Z4w [GF, TF] [.rep (ExR x)] (.is (.string (bl (prE x)))) :=
CallF.of (fn := Tryz.f22) Tryz.func22 (n := 113) rfl rfl rfl (fun _ _ => by kernel_rfl) fun E W => by
 have hlen := Zb2 x.KS
 have hx0 := hx
 rw [Z2K] at hx0
 have hl0_ := Zf3 hw hx 0
 have hl1_ := Zf3 hw hx 1
 have hpl := Zae hw hx
 have htb : x.TB.data.toList.length ≤ 2048 ∧ x.NM.data.toList.length ≤ 2048 := ZlC hw
 obtain ⟨htb1, htb2⟩ := htb
 have htb3 : (tx x.TB).length ≤ 2048 := htb1
 have htb4 : (tx x.NM).length ≤ 2048 := htb2
 have hvn := Zlm hw
 have h2k := Zkx hw
 have hpe := Zkv x
 have hop := ZhB x.K
 have hag : (aggW x.K).data.toList.length ≤ 5 := Zh7 x.K
 have hag2 : (tx (aggW x.K)).length ≤ 5 := hag
 have hin := Zkc hw hx
 refine J.openA (s := 0) rfl (fun a0 l0 q0 b0 o0 hl0 ha0 => ?_)
 subst hl0
 refine vQ ?_
 refine JO.box rfl rfl fun b1 => ?_
 refine Ja rfl ?_
 refine vP [1] ?_
 refine Ja rfl ?_
 refine vP [1, 3] ?_
 refine Jq (Z0 Z2U rfl) ?_
 refine Jq (Z1 Zh rfl rfl) ?_
 refine Jq (Zo Zl rfl) ?_
 refine Jm rfl ?_
 refine vS [1, 3, 8, 9, 10] ?_
 apply yk
 repeat apply yQ
 refine J.loopG (α := Nat × Option (Nat × List Value) × Nat) (fun z => [(1, .is (.pointer (some ⟨b1, 0, none⟩))), (3, .is (sliceO z.2.1 (kT x z.1).length z.2.2)), (8, .is (.slice a0 x.KS.length q0)), (9, .is (.int .i64 (x.KS.length : Nat))), (10, .is (.int .i64 (z.1 : Nat)))]) (fun z => ownO z.2.1 Zx [⟨b1, Z6, .is (.agg (exCells x.K x.VK x.VN x.VS x.TB x.NM x.SL a0 x.KS.length q0).toArray)⟩]) (fun z => fun _ => True) (fun z => z.1 ≤ x.KS.length ∧ Grows strC 1 (kT x z.1) z.2.1 z.2.2) (fun z => x.KS.length - z.1) (0, none, 0) [1, 3, 8, 9, 10] (.cons rfl (.cons rfl (.cons rfl (.cons rfl (.cons rfl .nil))))) rfl (fun _ => trivial) ⟨by omega, rfl⟩ fun ⟨i, st, cp⟩ ⟨hi, hG⟩ => ?_
 try dsimp only
 try dsimp only at st
 try dsimp only at cp
 try dsimp only at hi
 try dsimp only at hG
 refine vQ ?_
 refine Jq (ZW rfl rfl) ?_
 refine vS [1, 3, 8, 9, 10, 11] ?_
 refine yC rfl (fun ht11 => ?_) (fun ht11 => ?_)
 try simp only [yd, yf] at ht11
 apply yK
 refine vN ?_
 apply yk
 refine vQ ?_
 refine Jq (Z7 Z1X rfl (ha0 qM) rfl qM qM) ?_
 refine Jq (Z3s (kid := (x.KS.getD i ex0)) Za rfl qI (ha0 qM) (Z2Y qM) qM) ?_
 refine JO.alloc Z13 rfl fun b5 => ?_
 refine JO.m (Z3 rfl rfl qU qC qO Zq) (by rfl) ?_
 refine vP [1, 3, 5, 8, 9, 10] ?_
 refine Jm rfl (Jq (Z2S Za rfl) ?_)
 refine Jq (ZG rfl (Za5 (x.KS.getD i ex0) (Za6 hw _ (Z2X qM)) (by have := Z42 (Z2X (xs := x.KS) (i := i) qM); omega) (ih _ (Z2X qM))) qF (.one rfl .nil)) ?_
 refine Jq (ZF (cs := [_]) Z1c qM qM (.cons rfl .nil) rfl rfl rfl) ?_
 have hkl : (kT x i).length = i := by simp; omega
 refine JO.apO (ys := [bl (prO (x.KS.getD i ex0))]) Z2r Z2c yV hG rfl rfl (fun L => Z3o ZX rfl rfl) (by simp) (by rw [hkl]; show (i + 1) * 16 ≤ _; omega) (by rw [hkl]; show i + 1 ≤ _; omega) rfl (fun st2 cp2 hG2 => ?_)
 try dsimp only
 rw [← Zfd qM]
 refine Ja rfl ?_
 refine vP [1, 3, 8, 9, 10] ?_
 refine Jq (ZE (cc := ((i + 1 : Nat) : Int)) rfl rfl qM qM qM) ?_
 refine Jm rfl ?_
 apply yI
 repeat refine JX.normal_block ?_
 refine JX.roundG (x := (i, st, cp)) (i + 1, st2, cp2) ?_ ?_ [1, 3, 8, 9, 10] ?_ ?_ ?_ ?_
 · exact ⟨by show i + 1 ≤ _; omega, by show Grows strC 1 (kT x (i + 1)) _ _; rw [Zfd qM]; exact hG2⟩
 · exact (by show x.KS.length - (i + 1) < x.KS.length - i; omega)
 · exact qS
 · exact qH
 · exact qG
 · exact fun _ _ _ => fun _ _ => trivial
 try simp only [yd, yf] at ht11
 repeat apply yQ
 refine J.exit ?_
 repeat first|refine yH ?_|refine yM rfl ?_|refine yE ?_
 refine vN ?_
 apply yN
 refine Jm rfl (Jq (ZF (cs := [_, _]) Z1c qM qM (.cons rfl (.cons rfl .nil)) rfl rfl rfl) ?_)
 have hkl : (kT x i).length = i := by simp; omega
 refine JO.apO (ys := [em, em]) Z2r Z2c yV hG rfl rfl (fun L => Z3o ZX rfl rfl) (by simp) (by rw [hkl]; show (i + 2) * 16 ≤ _; omega) (by rw [hkl]; show i + 2 ≤ _; omega) rfl (fun st3 cp3 hG3 => ?_)
 try dsimp only
 refine Ja rfl ?_
 refine vS [1, 3] ?_
 have hix : i = x.KS.length := by omega
 refine J.freezeO Z2c hG3 (e := Zx) yV (fun _ h => h) rfl rfl ?_
 obtain ⟨cap2, hso⟩ := Zcr hG3
 obtain ⟨b3, cs3, rfl⟩ := Z4K hG3 (by rw [List.length_append]; show 0 < _ + 2; omega)
 rw [hso]
 refine vQ ?_
 refine Jq (Z0 Z28 rfl) ?_
 refine Jq (Z1 Zt rfl rfl) ?_
 refine vS [1, 3, 24] ?_
 apply yk
 refine vQ ?_
 refine Jq (ZM rfl rfl) ?_
 refine Ja rfl ?_
 refine vS [1, 3, 24, 25] ?_
 refine yC rfl (fun ht25 => ?_) (fun ht25 => ?_)
 try simp only [yd, yf] at ht25
 refine vQ ?_
 refine Jq (Z0 Z6F rfl) ?_
 refine Jq (ZI (cs := [_, _, _]) Z4n rfl rfl rfl) ?_
 refine Jq (ZG rfl (ZdB ⟨x.VK, x.VN, x.VS⟩ hvn.1 hvn.2) qF qA) ?_
 refine Ja rfl ?_
 refine vS [2] ?_
 refine vR ?_
 exact JX.ret1is rfl rfl (by rw [hpe, if_pos ht25]; rfl)
 try simp only [yd, yf] at ht25
 refine vQ ?_
 refine Jq (ZM rfl rfl) ?_
 refine Ja rfl ?_
 refine vS [1, 3, 24, 30] ?_
 refine yC rfl (fun ht30 => ?_) (fun ht30 => ?_)
 try simp only [yd, yf] at ht30
 refine vQ ?_
 refine Jq (Z0 Z43 rfl) ?_
 refine Jq (Z1 Z9 rfl rfl) ?_
 refine Jq (Z3m rfl rfl) ?_
 refine vS [1, 34] ?_
 refine yC rfl (fun ht34 => ?_) (fun ht34 => ?_)
 try simp only [yd, yf] at ht34
 refine vQ ?_
 refine Jq (Z0 Z43 rfl) ?_
 refine Jq (Z1 Z9 rfl rfl) ?_
 refine Jq (Zd (u := bl (tx x.TB ++ [46])) rfl rfl (sz2 qZ qZ) (by exact Zy (tx x.TB) [46])) ?_
 refine Jq (Z0 Z3l rfl) ?_
 refine Jq (Z1 Z9 rfl rfl) ?_
 refine Jq (Zd (u := bl (tx x.TB ++ [46] ++ tx x.NM)) rfl rfl (sz2 qZ qZ) (by exact Zy _ (tx x.NM))) ?_
 refine Ja rfl ?_
 refine vS [2] ?_
 refine vR ?_
 exact JX.ret1is rfl rfl (by rw [hpe, if_neg (by rw [ht25]; simp), if_pos ht30, if_neg (by rw [← Z2L]; simpa using ht34)]; simp)
 try simp only [yd, yf] at ht34
 apply yK
 refine vN ?_
 apply yN
 refine Jq (Z0 Z3l rfl) ?_
 refine Jq (Z1 Z9 rfl rfl) ?_
 refine Ja rfl ?_
 refine vS [2] ?_
 refine vR ?_
 exact JX.ret1is rfl rfl (by rw [hpe, if_neg (by rw [ht25]; simp), if_pos ht30, if_pos (by rw [← Z2L]; simpa using ht34)])
 try simp only [yd, yf] at ht30
 refine vQ ?_
 refine Jq (ZM rfl rfl) ?_
 refine Ja rfl ?_
 refine vS [1, 3, 24, 43] ?_
 refine yC rfl (fun ht43 => ?_) (fun ht43 => ?_)
 try simp only [yd, yf] at ht43
 refine vQ ?_
 refine Jm rfl (Jq (Z7 Z1B rfl rfl rfl qM (by rw [List.length_append]; show (0 : Int) < ((_ + 2 : Nat) : Int); omega)) ?_)
 refine Jq (ZJ (enc := strC) (sz := 1) (i := 0) (j := 0) (y := bl (opK x 0)) (u := .string (bl (opK x 0))) Z9 rfl qI rfl (Z87 hix qD) rfl rfl) ?_
 refine Jq (Zd (u := bl (45 :: opK x 0)) rfl rfl (sz2 qZ qZ) (by exact Zy [45] _)) ?_
 refine Ja rfl ?_
 refine vS [2] ?_
 refine vR ?_
 exact JX.ret1is rfl rfl (by rw [hpe, if_neg (by rw [ht25]; simp), if_neg (by rw [ht30]; simp), if_pos ht43])
 try simp only [yd, yf] at ht43
 refine vQ ?_
 refine Jq (ZM rfl rfl) ?_
 refine Ja rfl ?_
 refine vS [1, 3, 24, 49] ?_
 refine yC rfl (fun ht49 => ?_) (fun ht49 => ?_)
 try simp only [yd, yf] at ht49
 refine vQ ?_
 refine Jm rfl (Jq (Z7 Z1B rfl rfl rfl qM (by rw [List.length_append]; show (0 : Int) < ((_ + 2 : Nat) : Int); omega)) ?_)
 refine Jq (ZJ (enc := strC) (sz := 1) (i := 0) (j := 0) (y := bl (opK x 0)) (u := .string (bl (opK x 0))) Z9 rfl qI rfl (Z87 hix qD) rfl rfl) ?_
 refine Jq (Zd (u := bl ([78, 79, 84] ++ 32 :: opK x 0)) rfl rfl (sz2 qZ qZ) (by exact Zy [78, 79, 84, 32] _)) ?_
 refine Ja rfl ?_
 refine vS [2] ?_
 refine vR ?_
 exact JX.ret1is rfl rfl (by rw [hpe, if_neg (by rw [ht25]; simp), if_neg (by rw [ht30]; simp), if_neg (by rw [ht43]; simp), if_pos ht49])
 try simp only [yd, yf] at ht49
 refine vQ ?_
 refine Jq (ZM rfl rfl) ?_
 refine Ja rfl ?_
 refine vS [1, 3, 24, 55] ?_
 refine yC rfl (fun ht55 => ?_) (fun ht55 => ?_)
 try simp only [yd, yf] at ht55
 refine vQ ?_
 refine Jm rfl (Jq (Z7 Z1B rfl rfl rfl qM (by rw [List.length_append]; show (0 : Int) < ((_ + 2 : Nat) : Int); omega)) ?_)
 refine Jq (ZJ (enc := strC) (sz := 1) (i := 0) (j := 0) (y := bl (opK x 0)) (u := .string (bl (opK x 0))) Z9 rfl qI rfl (Z87 hix qD) rfl rfl) ?_
 refine Jq (Zd (u := bl (opK x 0 ++ [32, 73, 83, 32, 78, 85, 76, 76])) rfl rfl (sz2 qZ qZ) (by exact Zy _ [32, 73, 83, 32, 78, 85, 76, 76])) ?_
 refine Ja rfl ?_
 refine vS [2] ?_
 refine vR ?_
 exact JX.ret1is rfl rfl (by rw [hpe, if_neg (by rw [ht25]; simp), if_neg (by rw [ht30]; simp), if_neg (by rw [ht43]; simp), if_neg (by rw [ht49]; simp), if_pos ht55])
 try simp only [yd, yf] at ht55
 refine vQ ?_
 refine Jq (ZM rfl rfl) ?_
 refine Ja rfl ?_
 refine vS [1, 3, 24, 61] ?_
 refine yC rfl (fun ht61 => ?_) (fun ht61 => ?_)
 try simp only [yd, yf] at ht61
 refine vQ ?_
 refine Jm rfl (Jq (Z7 Z1B rfl rfl rfl qM (by rw [List.length_append]; show (0 : Int) < ((_ + 2 : Nat) : Int); omega)) ?_)
 refine Jq (ZJ (enc := strC) (sz := 1) (i := 0) (j := 0) (y := bl (opK x 0)) (u := .string (bl (opK x 0))) Z9 rfl qI rfl (Z87 hix qD) rfl rfl) ?_
 refine Jq (Zd (u := bl (opK x 0 ++ [32, 73, 83, 32, 78, 79, 84, 32, 78, 85, 76, 76])) rfl rfl (sz2 qZ qZ) (by exact Zy _ [32, 73, 83, 32, 78, 79, 84, 32, 78, 85, 76, 76])) ?_
 refine Ja rfl ?_
 refine vS [2] ?_
 refine vR ?_
 exact JX.ret1is rfl rfl (by rw [hpe, if_neg (by rw [ht25]; simp), if_neg (by rw [ht30]; simp), if_neg (by rw [ht43]; simp), if_neg (by rw [ht49]; simp), if_neg (by rw [ht55]; simp), if_pos ht61])
 try simp only [yd, yf] at ht61
 refine vQ ?_
 refine Jq (ZM rfl rfl) ?_
 refine Ja rfl ?_
 refine vS [1, 3, 24, 67] ?_
 first|apply J.or [1, 3] rfl (.cons rfl (.cons rfl .nil))|apply J.orN [1, 3] rfl qS
 · intro ht67
   refine vQ ?_
   refine Jq (ZM rfl rfl) ?_
   refine Ja rfl ?_
   apply yI
   refine JX.next ?_
   apply J.orT [1, 3] rfl qS
   · intro ht67
     refine vQ ?_
     refine Jq (ZM rfl rfl) ?_
     refine Ja rfl ?_
     apply yI
     refine JX.next ?_
     apply J.orT [1, 3] rfl qS
     · intro ht67
       refine vQ ?_
       refine Jq (ZM rfl rfl) ?_
       refine Ja rfl ?_
       apply yI
       exact JX.mids [67, 1, 3] qS
 repeat apply yQ
 refine yC rfl (fun ht67 => ?_) (fun ht67 => ?_)
 try simp only [yd, yf] at ht67
 refine vQ ?_
 refine Ja rfl ?_
 refine vP [1, 6] ?_
 refine Jq (Z0 Z2U rfl) ?_
 refine Jq (Z1 Zh rfl rfl) ?_
 refine Jq (Zo Zl rfl) ?_
 refine Jq (Z2i rfl rfl) ?_
 refine vS [1, 6, 75] ?_
 refine yC rfl (fun ht75 => ?_) (fun ht75 => ?_)
 try simp only [yd, yf] at ht75
 refine vQ ?_
 refine Jq (Z0 Z2U rfl) ?_
 refine Jq (Z1 Zh rfl rfl) ?_
 refine Jq (Z7 Z1X rfl (ha0 qM) rfl qM qM) ?_
 refine Jq (Z3s (i := 0) (kid := x.KS.getD 0 ex0) Za rfl qI (ha0 qM) (Z2Y qM) qM) ?_
 refine Jq (ZG rfl (Zi8 qM ih) qF qA) ?_
 refine Ja rfl ?_
 refine vS [1, 6] ?_
 have hK : 20 ≤ x.K ∧ x.K ≤ 23 := by simp at ht67; omega
 refine vQ ?_
 refine Jq (ZB (cs := [_, _, _, _]) ZaM (.cons rfl (.cons rfl (.cons rfl (.cons rfl .nil)))) rfl rfl) ?_
 refine Jq (Z0 Z28 rfl) ?_
 refine Jq (Z1 Zt rfl rfl) ?_
 refine Jq (Zaj (v := x.K - 20) rfl rfl (Z1r qM qM)) ?_
 refine Jq (Z6k (n := 4) (e := 9) qK Z9 qK rfl rfl qM qM (Ziw qM qM)) ?_
 refine Jq (Zd (u := bl (tx (aggW x.K) ++ [40])) rfl rfl (sz2 qZ qZ) (by exact Zy (tx (aggW x.K)) [40])) ?_
 refine Jm rfl (Jq (Zd (u := bl (tx (aggW x.K) ++ [40] ++ inK x)) rfl rfl (sz2 qZ qZ) (by first|exact Zy _ (inK x)|(rw [Zfg qM]; exact Zy _ [42]))) ?_)
 refine Jq (Zd (u := bl (tx (aggW x.K) ++ [40] ++ inK x ++ [41])) rfl rfl (sz2 qZ qZ) (by exact Zy _ [41])) ?_
 refine Ja rfl ?_
 refine vS [2] ?_
 refine vR ?_
 exact JX.ret1is rfl rfl (by rw [hpe, if_neg (by rw [ht25]; simp), if_neg (by rw [ht30]; simp), if_neg (by rw [ht43]; simp), if_neg (by rw [ht49]; simp), if_neg (by rw [ht55]; simp), if_neg (by rw [ht61]; simp), if_pos (by simp; omega)]; show Value.string _ = Value.string (bl (tx (aggW x.K) ++ 40 :: (inK x ++ [41]))); simp)
 try simp only [yd, yf] at ht75
 apply yK
 repeat first|apply yX|apply yB
 have hK : 20 ≤ x.K ∧ x.K ≤ 23 := by simp at ht67; omega
 refine vQ ?_
 refine Jq (ZB (cs := [_, _, _, _]) ZaM (.cons rfl (.cons rfl (.cons rfl (.cons rfl .nil)))) rfl rfl) ?_
 refine Jq (Z0 Z28 rfl) ?_
 refine Jq (Z1 Zt rfl rfl) ?_
 refine Jq (Zaj (v := x.K - 20) rfl rfl (Z1r qM qM)) ?_
 refine Jq (Z6k (n := 4) (e := 9) qK Z9 qK rfl rfl qM qM (Ziw qM qM)) ?_
 refine Jq (Zd (u := bl (tx (aggW x.K) ++ [40])) rfl rfl (sz2 qZ qZ) (by exact Zy (tx (aggW x.K)) [40])) ?_
 refine Jm rfl (Jq (Zd (u := bl (tx (aggW x.K) ++ [40] ++ inK x)) rfl rfl (sz2 qZ qZ) (by first|exact Zy _ (inK x)|(rw [Zfg qM]; exact Zy _ [42]))) ?_)
 refine Jq (Zd (u := bl (tx (aggW x.K) ++ [40] ++ inK x ++ [41])) rfl rfl (sz2 qZ qZ) (by exact Zy _ [41])) ?_
 refine Ja rfl ?_
 refine vS [2] ?_
 refine vR ?_
 exact JX.ret1is rfl rfl (by rw [hpe, if_neg (by rw [ht25]; simp), if_neg (by rw [ht30]; simp), if_neg (by rw [ht43]; simp), if_neg (by rw [ht49]; simp), if_neg (by rw [ht55]; simp), if_neg (by rw [ht61]; simp), if_pos (by simp; omega)]; show Value.string _ = Value.string (bl (tx (aggW x.K) ++ 40 :: (inK x ++ [41]))); simp)
 try simp only [yd, yf] at ht67
 apply yK
 refine vN ?_
 refine J.reg0 hmx qK qK ?_
 refine yz (Z0 Z28 rfl) ?_
 refine yz (Z1 Zt rfl rfl) ?_
 refine yz (ZW rfl rfl) ?_
 refine yz (Z2 rfl) ?_
 refine yg rfl rfl rfl (fun hg => Z0 Z28 (.inl rfl)) ?_
 refine yg rfl rfl rfl (fun hg => Z1 Zt (qR rfl) rfl) ?_
 refine yg rfl rfl rfl (fun hg => Z2i (qR rfl) (.inl rfl)) ?_
 refine yz (Z11 rfl rfl rfl id) ?_
 apply yn
 refine FinS.nil0 ?_
 refine vS [1, 3, 97] ?_
 refine yC rfl (fun ht97 => ?_) (fun ht97 => ?_)
 try simp only [yd, yf] at ht97
 refine vQ ?_
 refine Ja rfl ?_
 refine vS [2] ?_
 refine vR ?_
 exact JX.ret1is rfl rfl (by rw [hpe, if_neg (by rw [ht25]; simp), if_neg (by rw [ht30]; simp), if_neg (by rw [ht43]; simp), if_neg (by rw [ht49]; simp), if_neg (by rw [ht55]; simp), if_neg (by rw [ht61]; simp), if_neg (by simp at ht67 ⊢; omega), if_pos ht97])
 try simp only [yd, yf] at ht97
 apply yK
 repeat first|apply yX|apply yB
 have hK5 : 5 ≤ x.K ∧ x.K ≤ 17 := by simp at ht97; omega
 repeat apply yQ
 refine J.reg0 hmx qK qK ?_
 refine yz (Z2 rfl) ?_
 refine yz (Z7 Z1B rfl rfl rfl qM (by rw [List.length_append]; show (0 : Int) < ((_ + 2 : Nat) : Int); omega)) ?_
 refine yz (ZJ (enc := strC) (sz := 1) (i := 0) (j := 0) (y := bl (opK x 0)) (u := .string (bl (opK x 0))) Z9 rfl qI rfl (Z87 hix qD) rfl rfl) ?_
 refine yz (Zd (u := bl (opK x 0 ++ [32])) rfl rfl (sz2 qZ qZ) (by exact Zy _ [32])) ?_
 refine yz (ZB (cs := [_, _, _, _, _, _, _, _, _, _, _, _, _]) ZdT (.cons rfl (.cons rfl (.cons rfl (.cons rfl (.cons rfl (.cons rfl (.cons rfl (.cons rfl (.cons rfl (.cons rfl (.cons rfl (.cons rfl (.cons rfl .nil))))))))))))) rfl rfl) ?_
 refine yz (Z0 Z28 rfl) ?_
 refine yz (Z1 Zt rfl rfl) ?_
 refine yz (Zaj (v := x.K - 5) rfl rfl (Z1r qM qM)) ?_
 refine yz (Z6k (n := 13) (e := 9) qK Z9 qK rfl rfl qM qM (Zll qM qM)) ?_
 refine yz (Zd (u := bl (opK x 0 ++ [32] ++ opS x.K)) rfl rfl (sz2 qZ qZ) (by exact Zy _ _)) ?_
 refine yz (Zd (u := bl (opK x 0 ++ [32] ++ opS x.K ++ [32])) rfl rfl (sz2 qZ qZ) (by exact Zy _ [32])) ?_
 refine yz (Z2 rfl) ?_
 refine yz (Z7 Z1B rfl rfl rfl qM (by rw [List.length_append]; show (1 : Int) < ((_ + 2 : Nat) : Int); omega)) ?_
 refine yz (ZJ (enc := strC) (sz := 1) (i := 1) (j := 0) (y := bl (opK x 1)) (u := .string (bl (opK x 1))) Z9 rfl qI rfl (Z87 hix qD) rfl rfl) ?_
 refine yz (Zd (u := bl (opK x 0 ++ [32] ++ opS x.K ++ [32] ++ opK x 1)) rfl rfl (sz2 qZ qZ) (by exact Zy _ _)) ?_
 refine yz (Z1s rfl) ?_
 apply yn
 refine FinS.nil0 ?_
 refine vS [2] ?_
 refine vR ?_
 exact JX.ret1is rfl rfl (by rw [hpe, if_neg (by rw [ht25]; simp), if_neg (by rw [ht30]; simp), if_neg (by rw [ht43]; simp), if_neg (by rw [ht49]; simp), if_neg (by rw [ht55]; simp), if_neg (by rw [ht61]; simp), if_neg (by simp at ht67 ⊢; omega), if_neg (by rw [ht97]; simp)]; simp)
end Go.Proofs.YtbedigkncjbggaaGreatDoor
