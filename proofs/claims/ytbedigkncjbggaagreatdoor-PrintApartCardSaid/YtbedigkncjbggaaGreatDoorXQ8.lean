/- Statements in memory. No condition. -/
import Derived.Test.YtbedigkncjbggaaGreatDoorXQ7
import Derived.Test.YtbedigkncjbggaaGreatDoorXQ4
import Derived.Test.YtbedigkncjbggaaGreatDoorXG7
import Derived.Test.YtbedigkncjbggaaGreatDoorXQ1
set_option maxRecDepth 20000
namespace Go.Proofs.YtbedigkncjbggaaGreatDoor
open Go Go.Vc Go.Pz
theorem Zh2 {v : Value} (h : v.oneCell' = true) : v.cells = #[v] := by
 cases v <;> first|rfl | cases h
theorem ZaU {cs : List Value} (h : cs.length = 1) (ho : ∀ u ∈ cs, u.oneCell' = true) : (hdv cs).cells = cs.toArray := by
 match cs, h with
 | [a], _ => exact Zh2 (ho a List.mem_cons_self)
theorem Z58 : exE.flat := fun p => rfl
theorem Zie : itE.flat := fun p => rfl
theorem Zdm : kyE.flat := fun p => rfl
theorem Zi7 : coE.flat := fun p => rfl
theorem Zeh : srE.flat := fun p => rfl
theorem Zd3 : stE.flat := fun p => ZaU p.h p.o
theorem Zd1 : rwE.flat := fun p => ZaU p.h p.o
abbrev FC (N : Nat) : GoS := FrS N Z12 4
abbrev FN (N : Nat) : GoS := FrS N Zx 1
abbrev FX (N : Nat) : GoS := FrS N Z6 8
abbrev stV (st : St) (vc vn vr vi vf vw vg vo vs : Value) : Value := .agg #[.int .i64 st.kind, .string st.tb, .string st.nm, vc, vn, vr, vi, vf, vw, vg, vo, .int .i64 st.limit, vs, .bool st.hash]
def StR (N : Nat) (st : St) (v : Value) (w : World) : Prop := ∃ vc vn vr vi vf vw vg vo vs : Value, v = stV st vc vn vr vi vf vw vg vo vs ∧ SlE coE (FC N) st.cols vc w ∧ SlE stE (FN N) st.names vn w ∧ SlE rwE noS st.rows vr w ∧ SlE itE noS st.items vi w ∧ SlE srE noS st.from_ vf w ∧ SlE exE (FX N) st.where_ vw w ∧ ExsR st.group vg w ∧ SlE kyE noS st.order vo w ∧ ExsR st.sets vs w
abbrev nilv : Value := .slice none 0 0
theorem Zf {α : Type} {E : Enc α} {G : GoS} {w : World} (hG : G none 0 0 w) : SlE E G [] nilv w := ⟨[], none, 0, 0, rfl, rfl, Nat.le_refl _, ⟨rfl, fun h => absurd rfl h⟩, (fun p hp => by cases hp), hG⟩
theorem Z1b {w : World} : ExsR [] nilv w := ⟨none, 0, 0, rfl, rfl, fun h => absurd rfl h⟩
theorem Sub.st {L : List Own} {Φ : List (World → Prop)} {N : Nat} {st : St} {cs : Array Value} {vc vn vr vi vf vw vg vo vs : Value} (hc : Value.agg cs = stV st vc vn vr vi vf vw vg vo vs)
   (h : ∀ X w, (∀ F ∈ Φ, Pers X w F) → ∀ w', Keeps X w w' → SlE coE (FC N) st.cols vc w' ∧ SlE stE (FN N) st.names vn w' ∧ SlE rwE noS st.rows vr w' ∧ SlE itE noS st.items vi w' ∧ SlE srE noS st.from_ vf w' ∧ SlE exE (FX N) st.where_ vw w' ∧ ExsR st.group vg w' ∧ SlE kyE noS st.order vo w' ∧ ExsR st.sets vs w') :
   Sub L Φ (.is (.agg cs)) (.rep (StR N st)) := fun X v w hf e => by
 rw [show v = _ from e, hc]
 intro w' hk
 exact ⟨vc, vn, vr, vi, vf, vw, vg, vo, vs, rfl, h X w hf.2 w' hk⟩
theorem ZgX {N : Nat} {st : St} {X : Nat → Prop} {v : Value} {w : World} (h : Pers X w (StR N st v)) : ∃ vc vn vr vi vf vw vg vo vs : Value, v = stV st vc vn vr vi vf vw vg vo vs ∧ Pers X w (SlE coE (FC N) st.cols vc) ∧ Pers X w (SlE stE (FN N) st.names vn) ∧ Pers X w (SlE rwE noS st.rows vr) ∧ Pers X w (SlE itE noS st.items vi) ∧ Pers X w (SlE srE noS st.from_ vf) ∧ Pers X w (SlE exE (FX N) st.where_ vw) ∧ Pers X w (ExsR st.group vg) ∧ Pers X w (SlE kyE noS st.order vo) ∧ Pers X w (ExsR st.sets vs) := by
 obtain ⟨vc, vn, vr, vi, vf, vw, vg, vo, vs, hv, _⟩ := h.now
 have key : ∀ w', Keeps X w w' → SlE coE (FC N) st.cols vc w' ∧ SlE stE (FN N) st.names vn w' ∧ SlE rwE noS st.rows vr w' ∧ SlE itE noS st.items vi w' ∧ SlE srE noS st.from_ vf w' ∧ SlE exE (FX N) st.where_ vw w' ∧ ExsR st.group vg w' ∧ SlE kyE noS st.order vo w' ∧ ExsR st.sets vs w' := fun w' hk => by
   obtain ⟨vc', vn', vr', vi', vf', vw', vg', vo', vs', hv', h1⟩ := h w' hk
   rw [hv] at hv'
   injection hv' with hv'
   injection hv' with hv'
   simp only [List.cons.injEq, and_true, true_and] at hv'
   obtain ⟨e1, e2, e3, e4, e5, e6, e7, e8, e9⟩ := hv'
   subst e1 e2 e3 e4 e5 e6 e7 e8 e9
   exact h1
 exact ⟨vc, vn, vr, vi, vf, vw, vg, vo, vs, hv, fun w' hk => (key w' hk).1, fun w' hk => (key w' hk).2.1, fun w' hk => (key w' hk).2.2.1, fun w' hk => (key w' hk).2.2.2.1, fun w' hk => (key w' hk).2.2.2.2.1, fun w' hk => (key w' hk).2.2.2.2.2.1, fun w' hk => (key w' hk).2.2.2.2.2.2.1, fun w' hk => (key w' hk).2.2.2.2.2.2.2.1, fun w' hk => (key w' hk).2.2.2.2.2.2.2.2⟩
section
variable {P : Program} {c : Ctx} {K : List (Nat × Ty)} {L : List Own} {Φ : List (World → Prop)} {Q : Exit → Act → World → Prop}
theorem SA.openSt {N s : Nat} {st : St} {X : Nat → Prop} {a : Act} {w : World} (h : Go.Vc.look K s = some (.rep (StR N st))) (hs : SA c K L Φ X a w) : ∃ vc vn vr vi vf vw vg vo vs : Value, SA c ((s, .is (stV st vc vn vr vi vf vw vg vo vs)) :: K) L (SlE coE (FC N) st.cols vc :: SlE stE (FN N) st.names vn :: SlE rwE noS st.rows vr :: SlE itE noS st.items vi :: SlE srE noS st.from_ vf :: SlE exE (FX N) st.where_ vw :: ExsR st.group vg :: SlE kyE noS st.order vo :: ExsR st.sets vs :: Φ) X a w := by
 obtain ⟨vc, vn, vr, vi, vf, vw, vg, vo, vs, hv, h1, h2, h3, h4, h5, h6, h7, h8, h9⟩ := ZgX (hs.k s _ h : Pers X w (StR N st (a.tmps.getD s undef)))
 refine ⟨vc, vn, vr, vi, vf, vw, vg, vo, vs, hs.tell hv [_, _, _, _, _, _, _, _, _] fun F hF => ?_⟩
 simp only [List.mem_cons, List.mem_nil_iff, or_false] at hF
 rcases hF with rfl|rfl|rfl|rfl|rfl|rfl|rfl|rfl|rfl <;> assumption
theorem J.openSt {N s : Nat} {st : St} {y : Code} (h : Go.Vc.look K s = some (.rep (StR N st)))
  (hj : ∀ vc vn vr vi vf vw vg vo vs : Value, J P c ((s, .is (stV st vc vn vr vi vf vw vg vo vs)) :: K) L (SlE coE (FC N) st.cols vc :: SlE stE (FN N) st.names vn :: SlE rwE noS st.rows vr :: SlE itE noS st.items vi :: SlE srE noS st.from_ vf :: SlE exE (FX N) st.where_ vw :: ExsR st.group vg :: SlE kyE noS st.order vo :: ExsR st.sets vs :: Φ) y Q) : J P c K L Φ y Q := by
 refine ⟨fun X a w hs => ?_⟩
 obtain ⟨vc, vn, vr, vi, vf, vw, vg, vo, vs, h1⟩ := SA.openSt h hs
 exact (hj vc vn vr vi vf vw vg vo vs).out X a w h1
end
end Go.Proofs.YtbedigkncjbggaaGreatDoor
set_option maxRecDepth 20000
namespace Go.Proofs.YtbedigkncjbggaaGreatDoor
open Go Go.Vc
open Go.Pz
theorem Z8u {α β S : Type} (N : Nat) (T : Tk) (hc : T.ts.length ≤ T.cap) (h9 : T.ts.length ≤ 2049) (b : Nat) (ts : List T3) (hts : ts <:+ T.ts) (En : Enc β) (hE : En.flat) (hs : En.sz = 8) (part : Ps α) (proj : β → α) (hpd : Dn part) (X : S → List Own) (I : S → List β → Prop) (s0 : S) (hI0 : I s0 []) (hXb : ∀ s, ∀ o ∈ X s0, ∃ o' ∈ X s, o'.b = o.b) (hXo : ∀ s, (X s).all (fun o => o.T.out) = true) (most : Nat) (fp : FuncId) (cp : List Value) (hpart : ∀ us s l, us <:+ T.ts → l.length + us.length ≤ ts.length → I s l → CallP Tryz.prog fp (PB T b us :: X s) [T.G, AF, NH N] ([.is (.pointer (some ⟨b, 0, none⟩))] ++ cp.map Ty.is) (part us = none) flt (fun z : β × List T3 × S => part us = some (proj z.1, z.2.1) ∧ I z.2.2 (l ++ [z.1])) (fun z => PB T b z.2.1 :: X z.2.2) (fun z => .rep (En.T z.1))) : CallP Tryz.prog Z5r (PB T b ts :: X s0) [T.G, AF, NH N] [.is (.pointer (some ⟨b, 0, none⟩)), .is (.int .i64 (most : Int)), .is (.func (.func fp) #[] cp.toArray)] (listP most part ts = none) flt (fun z : List β × List T3 × S => listP most part ts = some (z.1.map proj, z.2.1) ∧ I z.2.2 z.1) (fun z => PB T b z.2.1 :: X z.2.2) (fun z => .rep (SlE En (FrS N Z6 En.sz) z.1)) :=
CallP.ofN (N := N) (List.mem_cons_of_mem _ (List.mem_cons_of_mem _ List.mem_cons_self)) (fn := Tryz.f118) Tryz.func118 (n := 27) rfl rfl rfl (fun _ _ => by kernel_rfl) fun E W hNW hb0 => by
 refine vQ ?_
 refine Ja rfl ?_
 refine vP [0, 1, 2] ?_
 refine Jm rfl (Jm rfl ?_)
 refine JO.callPvK (cp := cp) (Lr := []) rfl (hpart ts s0 [] hts (by simp) hI0) rfl (.of_eq (List.append_nil _).symm) qF (.one rfl .nil) (fun hbad => ?_) ?_
 · exact JX.pnI (by rw [Z1U, hbad]; rfl)
 rintro ⟨x1, us1, s1⟩ ⟨hz1, hI1⟩
 refine vD ?_
 try simp only [List.append_nil]
 refine JO.openT (s := 10) rfl (fun p1 hp1 => ?_)
 refine JO.buildE hE (by rw [hs]; exact ZT) (by rw [hs]; rfl) (by rw [hs]; decide) rfl rfl (fun b11 => ?_)
 refine Ja rfl ?_
 refine vS [0, 1, 2, 7] ?_
 apply yk
 repeat apply yQ
 refine J.loopH (α := List (Cel En) × Option (Nat × List Value) × Nat × List T3 × S) (fun x => [(0, .is (.pointer (some ⟨b, 0, none⟩))), (1, .is (.int .i64 (most : Int))), (2, .is (.func (.func fp) #[] cp.toArray)), (7, .is (sliceO x.2.1 x.1.length x.2.2.1))]) (fun x => ownO x.2.1 Z6 (PB T b x.2.2.2.1 :: X x.2.2.2.2)) (fun x => CelF En x.1) (fun x => x.2.2.2.1 <:+ T.ts ∧ x.1.length + x.2.2.2.1.length ≤ ts.length ∧ Grows Cel.cs En.sz x.1 x.2.1 x.2.2.1 ∧ I x.2.2.2.2 (x.1.map Cel.x) ∧ listP most part ts = listI most part ((x.1.map Cel.x).map proj) x.2.2.2.1) (fun x => x.2.2.2.1.length) ([p1], some (b11, p1.cs), 1, us1, s1) [0, 1, 2, 7] (.cons rfl (.cons rfl (.cons rfl (.cons rfl .nil)))) rfl (fun X w hF => fun w' hk p hp => by rw [List.mem_singleton.1 hp]; exact hF _ List.mem_cons_self w' hk) ⟨(show us1 <:+ ts from (hpd _ _ hz1).1).trans hts, (show 1 + us1.length ≤ ts.length by have : us1.length < ts.length := (hpd _ _ hz1).2; omega), growE p1, (by rw [List.map_singleton, hp1]; exact hI1), (by rw [Z1U, hz1, List.map_singleton, hp1]; rfl)⟩ fun ⟨ps, st, cap, us, s⟩ ⟨hus, hlen, hG, hIs, hP⟩ => ?_
 try dsimp only
 try dsimp only at hus
 try dsimp only at hlen
 try dsimp only at hG
 try dsimp only at hIs
 try dsimp only at hP
 refine vQ ?_
 refine Jm rfl ?_
 refine JO.subL (L' := PB T b us :: ownO st Z6 (X s)) Z26.symm ?_
 refine JO.callK (Lr := ownO st Z6 (X s)) (Ze T hc b us hus ZC) rfl (.refl _) qF qA ?_
 intro _ _
 refine vD ?_
 refine JO.subL (L' := ownO st Z6 (PB T b (skT 5 ZC us) :: X s)) Z26 ?_
 refine vS [0, 1, 2, 7, 13] ?_
 refine yC rfl (fun ht13 => ?_) (fun ht13 => ?_)
 apply yK
 refine vN ?_
 apply yk
 have hcm : isT 5 ZC us = true := ht13
 rw [ZU hcm]
 refine vQ ?_
 refine Jm rfl (Jm rfl (Jm rfl ?_))
 refine JO.subL (L' := (PB T b us.tail :: X s) ++ ownO st Z6 []) Z2u.symm ?_
 refine JO.callPvK (cp := cp) (Lr := ownO st Z6 []) rfl (hpart us.tail s (ps.map Cel.x) (Zm hus) (by have := (Zz hcm).2; rw [List.length_map]; omega) hIs) rfl (.refl _) qF (.one rfl .nil) (fun hbad => ?_) ?_
 · exact JX.pnI (by rw [hP, Z2v hpd.le hcm, hbad]; rfl)
 rintro ⟨x2, us2, s2⟩ ⟨hz2, hI2⟩
 refine vD ?_
 refine JO.subL (L' := ownO st Z6 (PB T b us2 :: X s2)) Z2u ?_
 refine JO.openT (s := 17) rfl (fun p2 hp2 => ?_)
 have hd2 := (hpd _ _ hz2).2
 have hlt := (Zz hcm).2
 have hle9 := hts.length_le
 refine Jq (Z2I hE (by rw [hs]; exact ZT) (by rw [hs]; rfl) (by rw [hs]; decide) rfl) ?_
 refine JO.apO (ys := [p2]) (by rw [hs]; exact Z1l) Cel.hlen .here hG rfl rfl (srcE p2 Zl) (by simp) (by show (ps.length + 1) * 104 ≤ 140737488355328; omega) (by show ps.length + 1 ≤ 9223372036854775807; omega) rfl (fun st2 cap2 hG2 => ?_)
 refine Ja rfl ?_
 apply yI
 repeat refine JX.normal_block ?_
 refine JX.roundG (x := (ps, st, cap, us, s)) (ps ++ [p2], st2, cap2, us2, s2) ?_ ?_ [0, 1, 2, 7] ?_ ?_ ?_ ?_
 · exact ⟨(show us2 <:+ us.tail from (hpd _ _ hz2).1).trans (Zm hus), (by show (ps ++ [p2]).length + us2.length ≤ ts.length; rw [List.length_append]; show ps.length + 1 + us2.length ≤ ts.length; have : us2.length < us.tail.length := hd2; omega), hG2, (by rw [List.map_append, List.map_singleton, hp2]; exact hI2), (by rw [hP, Z2v hpd.le hcm, hz2, List.map_append, List.map_singleton, hp2, List.map_append]; rfl)⟩
 · exact (by show us2.length < us.length; have : us2.length < us.tail.length := hd2; omega)
 · exact qS
 · exact qH
 · exact qG
 · exact fun X w hF => fun w' hk => CelF.snoc (hF _ qI w' hk) (hF _ List.mem_cons_self w' hk)
 repeat apply yQ
 refine J.exit ?_
 repeat first|refine yH ?_|refine yM rfl ?_|refine yE ?_
 repeat first|apply yX|apply yB
 have hcm : isT 5 ZC us = false := ht13
 rw [ZZ hcm]
 rw [hG.sl.1]
 refine vQ ?_
 refine Jm rfl (Jm rfl (Jq (Zo Zl rfl) ?_))
 refine Jm rfl (Jq (Z44 rfl rfl) ?_)
 refine JO.callPK (Lr := _) (Zb (.pointer (some ⟨b, 0, none⟩)) (decide ((ps.length : Int) ≤ (most : Int)))) rfl (Z1k _) Z19 qA (fun hbad => ?_) ?_
 · exact JX.pnI (by rw [hP]; exact Z4M hcm (by rw [List.length_map, List.length_map]; have := of_decide_eq_false hbad; omega))
 intro _ hmo
 refine vD ?_
 refine vS [7] ?_
 refine J.freezeOMW (e := Z6) (sz := En.sz) hNW Cel.hlen hG .here (fun q hq => ?_) rfl (by rw [List.all_cons, hXo]; rfl) ?_
 · rw [List.map_cons] at hq
   rcases List.mem_cons.1 hq with rfl | hq
   · exact ⟨_, List.mem_cons_self, rfl⟩
   · obtain ⟨o, ho, e⟩ := List.mem_map.1 hq
     obtain ⟨o2, ho2, e2⟩ := hXb s o ho
     exact ⟨o2, List.mem_cons_of_mem _ ho2, e2.trans e⟩
 refine vQ ?_
 refine Jm rfl (Ja rfl ?_)
 refine vS [6] ?_
 refine vR ?_
 refine JX.toP ?_
 exact JX.retL1 (Lr := []) (L1 := fun z : List β × List T3 × S => PB T b z.2.1 :: X z.2.2) (R := fun z => .rep (SlE En (FrS N Z6 En.sz) z.1)) rfl (ps.map Cel.x, us, s) ⟨by rw [hP, Z5h hcm, if_pos (by rw [List.length_map, List.length_map]; have := of_decide_eq_true hmo; omega)], hIs⟩ (.of_eq (List.append_nil _).symm) (by rw [List.all_cons, hXo]; rfl) rfl hb0 rfl (Sub.slE hG.sl.2 qI qI (fun X w hf => hf _ qI))
theorem Z5o {α : Type} (N : Nat) (T : Tk) (hc : T.ts.length ≤ T.cap) (h9 : T.ts.length ≤ 2049) (b : Nat) (ts : List T3) (hts : ts <:+ T.ts) (En : Enc α) (hE : En.flat) (hs : En.sz = 8) (part : Ps α) (hpd : Dn part) (most : Nat) (fp : FuncId) (hpart : ∀ us, us <:+ T.ts → us.length ≤ ts.length → CallP Tryz.prog fp [PB T b us] [T.G, AF, NH N] [.is (.pointer (some ⟨b, 0, none⟩))] (part us = none) flt (fun z : α × List T3 => part us = some z) (fun z => [PB T b z.2]) (fun z => .rep (En.T z.1))) :
  CallP Tryz.prog Z5r [PB T b ts] [T.G, AF, NH N] [.is (.pointer (some ⟨b, 0, none⟩)), .is (.int .i64 (most : Int)), .is (fv fp)] (listP most part ts = none) flt (fun z : List α × List T3 => listP most part ts = some z) (fun z => [PB T b z.2]) (fun z => .rep (SlE En (FrS N Z6 En.sz) z.1)) :=
 (Z8u (S := Unit) N T hc h9 b ts hts En hE hs part id hpd (fun _ => []) (fun _ _ => True) () trivial (fun _ _ h => by cases h) (fun _ => rfl) most fp [] fun us s l hus hu _ => (hpart us hus qM).map id (fun z => (z.1, z.2, ())) (fun z hz => ⟨hz, trivial⟩) (fun z _ => rfl) (fun z _ => rfl)).map id (fun z => (z.1, z.2.1)) (fun z hz => by have := hz.1; rwa [List.map_id] at this) (fun _ _ => rfl) (fun _ _ => rfl)
theorem Z84 {α β S : Type} (N : Nat) (T : Tk) (hc : T.ts.length ≤ T.cap) (h9 : T.ts.length ≤ 2049) (b : Nat) (ts : List T3) (hts : ts <:+ T.ts) (En : Enc β) (hE : En.flat) (hs : En.sz = 9) (part : Ps α) (proj : β → α) (hpd : Dn part) (X : S → List Own) (I : S → List β → Prop) (s0 : S) (hI0 : I s0 []) (hXb : ∀ s, ∀ o ∈ X s0, ∃ o' ∈ X s, o'.b = o.b) (hXo : ∀ s, (X s).all (fun o => o.T.out) = true) (most : Nat) (fp : FuncId) (cp : List Value) (hpart : ∀ us s l, us <:+ T.ts → l.length + us.length ≤ ts.length → I s l → CallP Tryz.prog fp (PB T b us :: X s) [T.G, AF, NH N] ([.is (.pointer (some ⟨b, 0, none⟩))] ++ cp.map Ty.is) (part us = none) flt (fun z : β × List T3 × S => part us = some (proj z.1, z.2.1) ∧ I z.2.2 (l ++ [z.1])) (fun z => PB T b z.2.1 :: X z.2.2) (fun z => .rep (En.T z.1))) : CallP Tryz.prog Z5n (PB T b ts :: X s0) [T.G, AF, NH N] [.is (.pointer (some ⟨b, 0, none⟩)), .is (.int .i64 (most : Int)), .is (.func (.func fp) #[] cp.toArray)] (listP most part ts = none) flt (fun z : List β × List T3 × S => listP most part ts = some (z.1.map proj, z.2.1) ∧ I z.2.2 z.1) (fun z => PB T b z.2.1 :: X z.2.2) (fun z => .rep (SlE En (FrS N Z23 En.sz) z.1)) :=
CallP.ofN (N := N) (List.mem_cons_of_mem _ (List.mem_cons_of_mem _ List.mem_cons_self)) (fn := Tryz.f114) Tryz.func114 (n := 27) rfl rfl rfl (fun _ _ => by kernel_rfl) fun E W hNW hb0 => by
 refine vQ ?_
 refine Ja rfl ?_
 refine vP [0, 1, 2] ?_
 refine Jm rfl (Jm rfl ?_)
 refine JO.callPvK (cp := cp) (Lr := []) rfl (hpart ts s0 [] hts (by simp) hI0) rfl (.of_eq (List.append_nil _).symm) qF (.one rfl .nil) (fun hbad => ?_) ?_
 · exact JX.pnI (by rw [Z1U, hbad]; rfl)
 rintro ⟨x1, us1, s1⟩ ⟨hz1, hI1⟩
 refine vD ?_
 try simp only [List.append_nil]
 refine JO.openT (s := 10) rfl (fun p1 hp1 => ?_)
 refine JO.buildE hE (by rw [hs]; exact Z8D) (by rw [hs]; rfl) (by rw [hs]; decide) rfl rfl (fun b11 => ?_)
 refine Ja rfl ?_
 refine vS [0, 1, 2, 7] ?_
 apply yk
 repeat apply yQ
 refine J.loopH (α := List (Cel En) × Option (Nat × List Value) × Nat × List T3 × S) (fun x => [(0, .is (.pointer (some ⟨b, 0, none⟩))), (1, .is (.int .i64 (most : Int))), (2, .is (.func (.func fp) #[] cp.toArray)), (7, .is (sliceO x.2.1 x.1.length x.2.2.1))]) (fun x => ownO x.2.1 Z23 (PB T b x.2.2.2.1 :: X x.2.2.2.2)) (fun x => CelF En x.1) (fun x => x.2.2.2.1 <:+ T.ts ∧ x.1.length + x.2.2.2.1.length ≤ ts.length ∧ Grows Cel.cs En.sz x.1 x.2.1 x.2.2.1 ∧ I x.2.2.2.2 (x.1.map Cel.x) ∧ listP most part ts = listI most part ((x.1.map Cel.x).map proj) x.2.2.2.1) (fun x => x.2.2.2.1.length) ([p1], some (b11, p1.cs), 1, us1, s1) [0, 1, 2, 7] (.cons rfl (.cons rfl (.cons rfl (.cons rfl .nil)))) rfl (fun X w hF => fun w' hk p hp => by rw [List.mem_singleton.1 hp]; exact hF _ List.mem_cons_self w' hk) ⟨(show us1 <:+ ts from (hpd _ _ hz1).1).trans hts, (show 1 + us1.length ≤ ts.length by have : us1.length < ts.length := (hpd _ _ hz1).2; omega), growE p1, (by rw [List.map_singleton, hp1]; exact hI1), (by rw [Z1U, hz1, List.map_singleton, hp1]; rfl)⟩ fun ⟨ps, st, cap, us, s⟩ ⟨hus, hlen, hG, hIs, hP⟩ => ?_
 try dsimp only
 try dsimp only at hus
 try dsimp only at hlen
 try dsimp only at hG
 try dsimp only at hIs
 try dsimp only at hP
 refine vQ ?_
 refine Jm rfl ?_
 refine JO.subL (L' := PB T b us :: ownO st Z23 (X s)) Z26.symm ?_
 refine JO.callK (Lr := ownO st Z23 (X s)) (Ze T hc b us hus ZC) rfl (.refl _) qF qA ?_
 intro _ _
 refine vD ?_
 refine JO.subL (L' := ownO st Z23 (PB T b (skT 5 ZC us) :: X s)) Z26 ?_
 refine vS [0, 1, 2, 7, 13] ?_
 refine yC rfl (fun ht13 => ?_) (fun ht13 => ?_)
 apply yK
 refine vN ?_
 apply yk
 have hcm : isT 5 ZC us = true := ht13
 rw [ZU hcm]
 refine vQ ?_
 refine Jm rfl (Jm rfl (Jm rfl ?_))
 refine JO.subL (L' := (PB T b us.tail :: X s) ++ ownO st Z23 []) Z2u.symm ?_
 refine JO.callPvK (cp := cp) (Lr := ownO st Z23 []) rfl (hpart us.tail s (ps.map Cel.x) (Zm hus) (by have := (Zz hcm).2; rw [List.length_map]; omega) hIs) rfl (.refl _) qF (.one rfl .nil) (fun hbad => ?_) ?_
 · exact JX.pnI (by rw [hP, Z2v hpd.le hcm, hbad]; rfl)
 rintro ⟨x2, us2, s2⟩ ⟨hz2, hI2⟩
 refine vD ?_
 refine JO.subL (L' := ownO st Z23 (PB T b us2 :: X s2)) Z2u ?_
 refine JO.openT (s := 17) rfl (fun p2 hp2 => ?_)
 have hd2 := (hpd _ _ hz2).2
 have hlt := (Zz hcm).2
 have hle9 := hts.length_le
 refine Jq (Z2I hE (by rw [hs]; exact Z8D) (by rw [hs]; rfl) (by rw [hs]; decide) rfl) ?_
 refine JO.apO (ys := [p2]) (by rw [hs]; exact ZbK) Cel.hlen .here hG rfl rfl (srcE p2 Z2h) (by simp) (by show (ps.length + 1) * 112 ≤ 140737488355328; omega) (by show ps.length + 1 ≤ 9223372036854775807; omega) rfl (fun st2 cap2 hG2 => ?_)
 refine Ja rfl ?_
 apply yI
 repeat refine JX.normal_block ?_
 refine JX.roundG (x := (ps, st, cap, us, s)) (ps ++ [p2], st2, cap2, us2, s2) ?_ ?_ [0, 1, 2, 7] ?_ ?_ ?_ ?_
 · exact ⟨(show us2 <:+ us.tail from (hpd _ _ hz2).1).trans (Zm hus), (by show (ps ++ [p2]).length + us2.length ≤ ts.length; rw [List.length_append]; show ps.length + 1 + us2.length ≤ ts.length; have : us2.length < us.tail.length := hd2; omega), hG2, (by rw [List.map_append, List.map_singleton, hp2]; exact hI2), (by rw [hP, Z2v hpd.le hcm, hz2, List.map_append, List.map_singleton, hp2, List.map_append]; rfl)⟩
 · exact (by show us2.length < us.length; have : us2.length < us.tail.length := hd2; omega)
 · exact qS
 · exact qH
 · exact qG
 · exact fun X w hF => fun w' hk => CelF.snoc (hF _ qI w' hk) (hF _ List.mem_cons_self w' hk)
 repeat apply yQ
 refine J.exit ?_
 repeat first|refine yH ?_|refine yM rfl ?_|refine yE ?_
 repeat first|apply yX|apply yB
 have hcm : isT 5 ZC us = false := ht13
 rw [ZZ hcm]
 rw [hG.sl.1]
 refine vQ ?_
 refine Jm rfl (Jm rfl (Jq (Zo Z2h rfl) ?_))
 refine Jm rfl (Jq (Z44 rfl rfl) ?_)
 refine JO.callPK (Lr := _) (Zb (.pointer (some ⟨b, 0, none⟩)) (decide ((ps.length : Int) ≤ (most : Int)))) rfl (Z1k _) Z19 qA (fun hbad => ?_) ?_
 · exact JX.pnI (by rw [hP]; exact Z4M hcm (by rw [List.length_map, List.length_map]; have := of_decide_eq_false hbad; omega))
 intro _ hmo
 refine vD ?_
 refine vS [7] ?_
 refine J.freezeOMW (e := Z23) (sz := En.sz) hNW Cel.hlen hG .here (fun q hq => ?_) rfl (by rw [List.all_cons, hXo]; rfl) ?_
 · rw [List.map_cons] at hq
   rcases List.mem_cons.1 hq with rfl | hq
   · exact ⟨_, List.mem_cons_self, rfl⟩
   · obtain ⟨o, ho, e⟩ := List.mem_map.1 hq
     obtain ⟨o2, ho2, e2⟩ := hXb s o ho
     exact ⟨o2, List.mem_cons_of_mem _ ho2, e2.trans e⟩
 refine vQ ?_
 refine Jm rfl (Ja rfl ?_)
 refine vS [6] ?_
 refine vR ?_
 refine JX.toP ?_
 exact JX.retL1 (Lr := []) (L1 := fun z : List β × List T3 × S => PB T b z.2.1 :: X z.2.2) (R := fun z => .rep (SlE En (FrS N Z23 En.sz) z.1)) rfl (ps.map Cel.x, us, s) ⟨by rw [hP, Z5h hcm, if_pos (by rw [List.length_map, List.length_map]; have := of_decide_eq_true hmo; omega)], hIs⟩ (.of_eq (List.append_nil _).symm) (by rw [List.all_cons, hXo]; rfl) rfl hb0 rfl (Sub.slE hG.sl.2 qI qI (fun X w hf => hf _ qI))
theorem Z8G {α : Type} (N : Nat) (T : Tk) (hc : T.ts.length ≤ T.cap) (h9 : T.ts.length ≤ 2049) (b : Nat) (ts : List T3) (hts : ts <:+ T.ts) (En : Enc α) (hE : En.flat) (hs : En.sz = 9) (part : Ps α) (hpd : Dn part) (most : Nat) (fp : FuncId) (hpart : ∀ us, us <:+ T.ts → us.length ≤ ts.length → CallP Tryz.prog fp [PB T b us] [T.G, AF, NH N] [.is (.pointer (some ⟨b, 0, none⟩))] (part us = none) flt (fun z : α × List T3 => part us = some z) (fun z => [PB T b z.2]) (fun z => .rep (En.T z.1))) :
  CallP Tryz.prog Z5n [PB T b ts] [T.G, AF, NH N] [.is (.pointer (some ⟨b, 0, none⟩)), .is (.int .i64 (most : Int)), .is (fv fp)] (listP most part ts = none) flt (fun z : List α × List T3 => listP most part ts = some z) (fun z => [PB T b z.2]) (fun z => .rep (SlE En (FrS N Z23 En.sz) z.1)) :=
 (Z84 (S := Unit) N T hc h9 b ts hts En hE hs part id hpd (fun _ => []) (fun _ _ => True) () trivial (fun _ _ h => by cases h) (fun _ => rfl) most fp [] fun us s l hus hu _ => (hpart us hus qM).map id (fun z => (z.1, z.2, ())) (fun z hz => ⟨hz, trivial⟩) (fun z _ => rfl) (fun z _ => rfl)).map id (fun z => (z.1, z.2.1)) (fun z hz => by have := hz.1; rwa [List.map_id] at this) (fun _ _ => rfl) (fun _ _ => rfl)
theorem Z8H {α β S : Type} (N : Nat) (T : Tk) (hc : T.ts.length ≤ T.cap) (h9 : T.ts.length ≤ 2049) (b : Nat) (ts : List T3) (hts : ts <:+ T.ts) (En : Enc β) (hE : En.flat) (hs : En.sz = 9) (part : Ps α) (proj : β → α) (hpd : Dn part) (X : S → List Own) (I : S → List β → Prop) (s0 : S) (hI0 : I s0 []) (hXb : ∀ s, ∀ o ∈ X s0, ∃ o' ∈ X s, o'.b = o.b) (hXo : ∀ s, (X s).all (fun o => o.T.out) = true) (most : Nat) (fp : FuncId) (cp : List Value) (hpart : ∀ us s l, us <:+ T.ts → l.length + us.length ≤ ts.length → I s l → CallP Tryz.prog fp (PB T b us :: X s) [T.G, AF, NH N] ([.is (.pointer (some ⟨b, 0, none⟩))] ++ cp.map Ty.is) (part us = none) flt (fun z : β × List T3 × S => part us = some (proj z.1, z.2.1) ∧ I z.2.2 (l ++ [z.1])) (fun z => PB T b z.2.1 :: X z.2.2) (fun z => .rep (En.T z.1))) : CallP Tryz.prog Z5D (PB T b ts :: X s0) [T.G, AF, NH N] [.is (.pointer (some ⟨b, 0, none⟩)), .is (.int .i64 (most : Int)), .is (.func (.func fp) #[] cp.toArray)] (listP most part ts = none) flt (fun z : List β × List T3 × S => listP most part ts = some (z.1.map proj, z.2.1) ∧ I z.2.2 z.1) (fun z => PB T b z.2.1 :: X z.2.2) (fun z => .rep (SlE En (FrS N Z2o En.sz) z.1)) :=
CallP.ofN (N := N) (List.mem_cons_of_mem _ (List.mem_cons_of_mem _ List.mem_cons_self)) (fn := Tryz.f119) Tryz.func119 (n := 27) rfl rfl rfl (fun _ _ => by kernel_rfl) fun E W hNW hb0 => by
 refine vQ ?_
 refine Ja rfl ?_
 refine vP [0, 1, 2] ?_
 refine Jm rfl (Jm rfl ?_)
 refine JO.callPvK (cp := cp) (Lr := []) rfl (hpart ts s0 [] hts (by simp) hI0) rfl (.of_eq (List.append_nil _).symm) qF (.one rfl .nil) (fun hbad => ?_) ?_
 · exact JX.pnI (by rw [Z1U, hbad]; rfl)
 rintro ⟨x1, us1, s1⟩ ⟨hz1, hI1⟩
 refine vD ?_
 try simp only [List.append_nil]
 refine JO.openT (s := 10) rfl (fun p1 hp1 => ?_)
 refine JO.buildE hE (by rw [hs]; exact Z9i) (by rw [hs]; rfl) (by rw [hs]; decide) rfl rfl (fun b11 => ?_)
 refine Ja rfl ?_
 refine vS [0, 1, 2, 7] ?_
 apply yk
 repeat apply yQ
 refine J.loopH (α := List (Cel En) × Option (Nat × List Value) × Nat × List T3 × S) (fun x => [(0, .is (.pointer (some ⟨b, 0, none⟩))), (1, .is (.int .i64 (most : Int))), (2, .is (.func (.func fp) #[] cp.toArray)), (7, .is (sliceO x.2.1 x.1.length x.2.2.1))]) (fun x => ownO x.2.1 Z2o (PB T b x.2.2.2.1 :: X x.2.2.2.2)) (fun x => CelF En x.1) (fun x => x.2.2.2.1 <:+ T.ts ∧ x.1.length + x.2.2.2.1.length ≤ ts.length ∧ Grows Cel.cs En.sz x.1 x.2.1 x.2.2.1 ∧ I x.2.2.2.2 (x.1.map Cel.x) ∧ listP most part ts = listI most part ((x.1.map Cel.x).map proj) x.2.2.2.1) (fun x => x.2.2.2.1.length) ([p1], some (b11, p1.cs), 1, us1, s1) [0, 1, 2, 7] (.cons rfl (.cons rfl (.cons rfl (.cons rfl .nil)))) rfl (fun X w hF => fun w' hk p hp => by rw [List.mem_singleton.1 hp]; exact hF _ List.mem_cons_self w' hk) ⟨(show us1 <:+ ts from (hpd _ _ hz1).1).trans hts, (show 1 + us1.length ≤ ts.length by have : us1.length < ts.length := (hpd _ _ hz1).2; omega), growE p1, (by rw [List.map_singleton, hp1]; exact hI1), (by rw [Z1U, hz1, List.map_singleton, hp1]; rfl)⟩ fun ⟨ps, st, cap, us, s⟩ ⟨hus, hlen, hG, hIs, hP⟩ => ?_
 try dsimp only
 try dsimp only at hus
 try dsimp only at hlen
 try dsimp only at hG
 try dsimp only at hIs
 try dsimp only at hP
 refine vQ ?_
 refine Jm rfl ?_
 refine JO.subL (L' := PB T b us :: ownO st Z2o (X s)) Z26.symm ?_
 refine JO.callK (Lr := ownO st Z2o (X s)) (Ze T hc b us hus ZC) rfl (.refl _) qF qA ?_
 intro _ _
 refine vD ?_
 refine JO.subL (L' := ownO st Z2o (PB T b (skT 5 ZC us) :: X s)) Z26 ?_
 refine vS [0, 1, 2, 7, 13] ?_
 refine yC rfl (fun ht13 => ?_) (fun ht13 => ?_)
 apply yK
 refine vN ?_
 apply yk
 have hcm : isT 5 ZC us = true := ht13
 rw [ZU hcm]
 refine vQ ?_
 refine Jm rfl (Jm rfl (Jm rfl ?_))
 refine JO.subL (L' := (PB T b us.tail :: X s) ++ ownO st Z2o []) Z2u.symm ?_
 refine JO.callPvK (cp := cp) (Lr := ownO st Z2o []) rfl (hpart us.tail s (ps.map Cel.x) (Zm hus) (by have := (Zz hcm).2; rw [List.length_map]; omega) hIs) rfl (.refl _) qF (.one rfl .nil) (fun hbad => ?_) ?_
 · exact JX.pnI (by rw [hP, Z2v hpd.le hcm, hbad]; rfl)
 rintro ⟨x2, us2, s2⟩ ⟨hz2, hI2⟩
 refine vD ?_
 refine JO.subL (L' := ownO st Z2o (PB T b us2 :: X s2)) Z2u ?_
 refine JO.openT (s := 17) rfl (fun p2 hp2 => ?_)
 have hd2 := (hpd _ _ hz2).2
 have hlt := (Zz hcm).2
 have hle9 := hts.length_le
 refine Jq (Z2I hE (by rw [hs]; exact Z9i) (by rw [hs]; rfl) (by rw [hs]; decide) rfl) ?_
 refine JO.apO (ys := [p2]) (by rw [hs]; exact ZcL) Cel.hlen .here hG rfl rfl (srcE p2 Z2b) (by simp) (by show (ps.length + 1) * 112 ≤ 140737488355328; omega) (by show ps.length + 1 ≤ 9223372036854775807; omega) rfl (fun st2 cap2 hG2 => ?_)
 refine Ja rfl ?_
 apply yI
 repeat refine JX.normal_block ?_
 refine JX.roundG (x := (ps, st, cap, us, s)) (ps ++ [p2], st2, cap2, us2, s2) ?_ ?_ [0, 1, 2, 7] ?_ ?_ ?_ ?_
 · exact ⟨(show us2 <:+ us.tail from (hpd _ _ hz2).1).trans (Zm hus), (by show (ps ++ [p2]).length + us2.length ≤ ts.length; rw [List.length_append]; show ps.length + 1 + us2.length ≤ ts.length; have : us2.length < us.tail.length := hd2; omega), hG2, (by rw [List.map_append, List.map_singleton, hp2]; exact hI2), (by rw [hP, Z2v hpd.le hcm, hz2, List.map_append, List.map_singleton, hp2, List.map_append]; rfl)⟩
 · exact (by show us2.length < us.length; have : us2.length < us.tail.length := hd2; omega)
 · exact qS
 · exact qH
 · exact qG
 · exact fun X w hF => fun w' hk => CelF.snoc (hF _ qI w' hk) (hF _ List.mem_cons_self w' hk)
 repeat apply yQ
 refine J.exit ?_
 repeat first|refine yH ?_|refine yM rfl ?_|refine yE ?_
 repeat first|apply yX|apply yB
 have hcm : isT 5 ZC us = false := ht13
 rw [ZZ hcm]
 rw [hG.sl.1]
 refine vQ ?_
 refine Jm rfl (Jm rfl (Jq (Zo Z2b rfl) ?_))
 refine Jm rfl (Jq (Z44 rfl rfl) ?_)
 refine JO.callPK (Lr := _) (Zb (.pointer (some ⟨b, 0, none⟩)) (decide ((ps.length : Int) ≤ (most : Int)))) rfl (Z1k _) Z19 qA (fun hbad => ?_) ?_
 · exact JX.pnI (by rw [hP]; exact Z4M hcm (by rw [List.length_map, List.length_map]; have := of_decide_eq_false hbad; omega))
 intro _ hmo
 refine vD ?_
 refine vS [7] ?_
 refine J.freezeOMW (e := Z2o) (sz := En.sz) hNW Cel.hlen hG .here (fun q hq => ?_) rfl (by rw [List.all_cons, hXo]; rfl) ?_
 · rw [List.map_cons] at hq
   rcases List.mem_cons.1 hq with rfl | hq
   · exact ⟨_, List.mem_cons_self, rfl⟩
   · obtain ⟨o, ho, e⟩ := List.mem_map.1 hq
     obtain ⟨o2, ho2, e2⟩ := hXb s o ho
     exact ⟨o2, List.mem_cons_of_mem _ ho2, e2.trans e⟩
 refine vQ ?_
 refine Jm rfl (Ja rfl ?_)
 refine vS [6] ?_
 refine vR ?_
 refine JX.toP ?_
 exact JX.retL1 (Lr := []) (L1 := fun z : List β × List T3 × S => PB T b z.2.1 :: X z.2.2) (R := fun z => .rep (SlE En (FrS N Z2o En.sz) z.1)) rfl (ps.map Cel.x, us, s) ⟨by rw [hP, Z5h hcm, if_pos (by rw [List.length_map, List.length_map]; have := of_decide_eq_true hmo; omega)], hIs⟩ (.of_eq (List.append_nil _).symm) (by rw [List.all_cons, hXo]; rfl) rfl hb0 rfl (Sub.slE hG.sl.2 qI qI (fun X w hf => hf _ qI))
theorem Z5E {α : Type} (N : Nat) (T : Tk) (hc : T.ts.length ≤ T.cap) (h9 : T.ts.length ≤ 2049) (b : Nat) (ts : List T3) (hts : ts <:+ T.ts) (En : Enc α) (hE : En.flat) (hs : En.sz = 9) (part : Ps α) (hpd : Dn part) (most : Nat) (fp : FuncId) (hpart : ∀ us, us <:+ T.ts → us.length ≤ ts.length → CallP Tryz.prog fp [PB T b us] [T.G, AF, NH N] [.is (.pointer (some ⟨b, 0, none⟩))] (part us = none) flt (fun z : α × List T3 => part us = some z) (fun z => [PB T b z.2]) (fun z => .rep (En.T z.1))) :
  CallP Tryz.prog Z5D [PB T b ts] [T.G, AF, NH N] [.is (.pointer (some ⟨b, 0, none⟩)), .is (.int .i64 (most : Int)), .is (fv fp)] (listP most part ts = none) flt (fun z : List α × List T3 => listP most part ts = some z) (fun z => [PB T b z.2]) (fun z => .rep (SlE En (FrS N Z2o En.sz) z.1)) :=
 (Z8H (S := Unit) N T hc h9 b ts hts En hE hs part id hpd (fun _ => []) (fun _ _ => True) () trivial (fun _ _ h => by cases h) (fun _ => rfl) most fp [] fun us s l hus hu _ => (hpart us hus qM).map id (fun z => (z.1, z.2, ())) (fun z hz => ⟨hz, trivial⟩) (fun z _ => rfl) (fun z _ => rfl)).map id (fun z => (z.1, z.2.1)) (fun z hz => by have := hz.1; rwa [List.map_id] at this) (fun _ _ => rfl) (fun _ _ => rfl)
theorem Z7r {α β S : Type} (N : Nat) (T : Tk) (hc : T.ts.length ≤ T.cap) (h9 : T.ts.length ≤ 2049) (b : Nat) (ts : List T3) (hts : ts <:+ T.ts) (En : Enc β) (hE : En.flat) (hs : En.sz = 4) (part : Ps α) (proj : β → α) (hpd : Dn part) (X : S → List Own) (I : S → List β → Prop) (s0 : S) (hI0 : I s0 []) (hXb : ∀ s, ∀ o ∈ X s0, ∃ o' ∈ X s, o'.b = o.b) (hXo : ∀ s, (X s).all (fun o => o.T.out) = true) (most : Nat) (fp : FuncId) (cp : List Value) (hpart : ∀ us s l, us <:+ T.ts → l.length + us.length ≤ ts.length → I s l → CallP Tryz.prog fp (PB T b us :: X s) [T.G, AF, NH N] ([.is (.pointer (some ⟨b, 0, none⟩))] ++ cp.map Ty.is) (part us = none) flt (fun z : β × List T3 × S => part us = some (proj z.1, z.2.1) ∧ I z.2.2 (l ++ [z.1])) (fun z => PB T b z.2.1 :: X z.2.2) (fun z => .rep (En.T z.1))) : CallP Tryz.prog Z4Q (PB T b ts :: X s0) [T.G, AF, NH N] [.is (.pointer (some ⟨b, 0, none⟩)), .is (.int .i64 (most : Int)), .is (.func (.func fp) #[] cp.toArray)] (listP most part ts = none) flt (fun z : List β × List T3 × S => listP most part ts = some (z.1.map proj, z.2.1) ∧ I z.2.2 z.1) (fun z => PB T b z.2.1 :: X z.2.2) (fun z => .rep (SlE En (FrS N Z12 En.sz) z.1)) :=
CallP.ofN (N := N) (List.mem_cons_of_mem _ (List.mem_cons_of_mem _ List.mem_cons_self)) (fn := Tryz.f143) Tryz.func143 (n := 27) rfl rfl rfl (fun _ _ => by kernel_rfl) fun E W hNW hb0 => by
 refine vQ ?_
 refine Ja rfl ?_
 refine vP [0, 1, 2] ?_
 refine Jm rfl (Jm rfl ?_)
 refine JO.callPvK (cp := cp) (Lr := []) rfl (hpart ts s0 [] hts (by simp) hI0) rfl (.of_eq (List.append_nil _).symm) qF (.one rfl .nil) (fun hbad => ?_) ?_
 · exact JX.pnI (by rw [Z1U, hbad]; rfl)
 rintro ⟨x1, us1, s1⟩ ⟨hz1, hI1⟩
 refine vD ?_
 try simp only [List.append_nil]
 refine JO.openT (s := 10) rfl (fun p1 hp1 => ?_)
 refine JO.buildE hE (by rw [hs]; exact Z7d) (by rw [hs]; rfl) (by rw [hs]; decide) rfl rfl (fun b11 => ?_)
 refine Ja rfl ?_
 refine vS [0, 1, 2, 7] ?_
 apply yk
 repeat apply yQ
 refine J.loopH (α := List (Cel En) × Option (Nat × List Value) × Nat × List T3 × S) (fun x => [(0, .is (.pointer (some ⟨b, 0, none⟩))), (1, .is (.int .i64 (most : Int))), (2, .is (.func (.func fp) #[] cp.toArray)), (7, .is (sliceO x.2.1 x.1.length x.2.2.1))]) (fun x => ownO x.2.1 Z12 (PB T b x.2.2.2.1 :: X x.2.2.2.2)) (fun x => CelF En x.1) (fun x => x.2.2.2.1 <:+ T.ts ∧ x.1.length + x.2.2.2.1.length ≤ ts.length ∧ Grows Cel.cs En.sz x.1 x.2.1 x.2.2.1 ∧ I x.2.2.2.2 (x.1.map Cel.x) ∧ listP most part ts = listI most part ((x.1.map Cel.x).map proj) x.2.2.2.1) (fun x => x.2.2.2.1.length) ([p1], some (b11, p1.cs), 1, us1, s1) [0, 1, 2, 7] (.cons rfl (.cons rfl (.cons rfl (.cons rfl .nil)))) rfl (fun X w hF => fun w' hk p hp => by rw [List.mem_singleton.1 hp]; exact hF _ List.mem_cons_self w' hk) ⟨(show us1 <:+ ts from (hpd _ _ hz1).1).trans hts, (show 1 + us1.length ≤ ts.length by have : us1.length < ts.length := (hpd _ _ hz1).2; omega), growE p1, (by rw [List.map_singleton, hp1]; exact hI1), (by rw [Z1U, hz1, List.map_singleton, hp1]; rfl)⟩ fun ⟨ps, st, cap, us, s⟩ ⟨hus, hlen, hG, hIs, hP⟩ => ?_
 try dsimp only
 try dsimp only at hus
 try dsimp only at hlen
 try dsimp only at hG
 try dsimp only at hIs
 try dsimp only at hP
 refine vQ ?_
 refine Jm rfl ?_
 refine JO.subL (L' := PB T b us :: ownO st Z12 (X s)) Z26.symm ?_
 refine JO.callK (Lr := ownO st Z12 (X s)) (Ze T hc b us hus ZC) rfl (.refl _) qF qA ?_
 intro _ _
 refine vD ?_
 refine JO.subL (L' := ownO st Z12 (PB T b (skT 5 ZC us) :: X s)) Z26 ?_
 refine vS [0, 1, 2, 7, 13] ?_
 refine yC rfl (fun ht13 => ?_) (fun ht13 => ?_)
 apply yK
 refine vN ?_
 apply yk
 have hcm : isT 5 ZC us = true := ht13
 rw [ZU hcm]
 refine vQ ?_
 refine Jm rfl (Jm rfl (Jm rfl ?_))
 refine JO.subL (L' := (PB T b us.tail :: X s) ++ ownO st Z12 []) Z2u.symm ?_
 refine JO.callPvK (cp := cp) (Lr := ownO st Z12 []) rfl (hpart us.tail s (ps.map Cel.x) (Zm hus) (by have := (Zz hcm).2; rw [List.length_map]; omega) hIs) rfl (.refl _) qF (.one rfl .nil) (fun hbad => ?_) ?_
 · exact JX.pnI (by rw [hP, Z2v hpd.le hcm, hbad]; rfl)
 rintro ⟨x2, us2, s2⟩ ⟨hz2, hI2⟩
 refine vD ?_
 refine JO.subL (L' := ownO st Z12 (PB T b us2 :: X s2)) Z2u ?_
 refine JO.openT (s := 17) rfl (fun p2 hp2 => ?_)
 have hd2 := (hpd _ _ hz2).2
 have hlt := (Zz hcm).2
 have hle9 := hts.length_le
 refine Jq (Z2I hE (by rw [hs]; exact Z7d) (by rw [hs]; rfl) (by rw [hs]; decide) rfl) ?_
 refine JO.apO (ys := [p2]) (by rw [hs]; exact Zb3) Cel.hlen .here hG rfl rfl (srcE p2 Z2B) (by simp) (by show (ps.length + 1) * 32 ≤ 140737488355328; omega) (by show ps.length + 1 ≤ 9223372036854775807; omega) rfl (fun st2 cap2 hG2 => ?_)
 refine Ja rfl ?_
 apply yI
 repeat refine JX.normal_block ?_
 refine JX.roundG (x := (ps, st, cap, us, s)) (ps ++ [p2], st2, cap2, us2, s2) ?_ ?_ [0, 1, 2, 7] ?_ ?_ ?_ ?_
 · exact ⟨(show us2 <:+ us.tail from (hpd _ _ hz2).1).trans (Zm hus), (by show (ps ++ [p2]).length + us2.length ≤ ts.length; rw [List.length_append]; show ps.length + 1 + us2.length ≤ ts.length; have : us2.length < us.tail.length := hd2; omega), hG2, (by rw [List.map_append, List.map_singleton, hp2]; exact hI2), (by rw [hP, Z2v hpd.le hcm, hz2, List.map_append, List.map_singleton, hp2, List.map_append]; rfl)⟩
 · exact (by show us2.length < us.length; have : us2.length < us.tail.length := hd2; omega)
 · exact qS
 · exact qH
 · exact qG
 · exact fun X w hF => fun w' hk => CelF.snoc (hF _ qI w' hk) (hF _ List.mem_cons_self w' hk)
 repeat apply yQ
 refine J.exit ?_
 repeat first|refine yH ?_|refine yM rfl ?_|refine yE ?_
 repeat first|apply yX|apply yB
 have hcm : isT 5 ZC us = false := ht13
 rw [ZZ hcm]
 rw [hG.sl.1]
 refine vQ ?_
 refine Jm rfl (Jm rfl (Jq (Zo Z2B rfl) ?_))
 refine Jm rfl (Jq (Z44 rfl rfl) ?_)
 refine JO.callPK (Lr := _) (Zb (.pointer (some ⟨b, 0, none⟩)) (decide ((ps.length : Int) ≤ (most : Int)))) rfl (Z1k _) Z19 qA (fun hbad => ?_) ?_
 · exact JX.pnI (by rw [hP]; exact Z4M hcm (by rw [List.length_map, List.length_map]; have := of_decide_eq_false hbad; omega))
 intro _ hmo
 refine vD ?_
 refine vS [7] ?_
 refine J.freezeOMW (e := Z12) (sz := En.sz) hNW Cel.hlen hG .here (fun q hq => ?_) rfl (by rw [List.all_cons, hXo]; rfl) ?_
 · rw [List.map_cons] at hq
   rcases List.mem_cons.1 hq with rfl | hq
   · exact ⟨_, List.mem_cons_self, rfl⟩
   · obtain ⟨o, ho, e⟩ := List.mem_map.1 hq
     obtain ⟨o2, ho2, e2⟩ := hXb s o ho
     exact ⟨o2, List.mem_cons_of_mem _ ho2, e2.trans e⟩
 refine vQ ?_
 refine Jm rfl (Ja rfl ?_)
 refine vS [6] ?_
 refine vR ?_
 refine JX.toP ?_
 exact JX.retL1 (Lr := []) (L1 := fun z : List β × List T3 × S => PB T b z.2.1 :: X z.2.2) (R := fun z => .rep (SlE En (FrS N Z12 En.sz) z.1)) rfl (ps.map Cel.x, us, s) ⟨by rw [hP, Z5h hcm, if_pos (by rw [List.length_map, List.length_map]; have := of_decide_eq_true hmo; omega)], hIs⟩ (.of_eq (List.append_nil _).symm) (by rw [List.all_cons, hXo]; rfl) rfl hb0 rfl (Sub.slE hG.sl.2 qI qI (fun X w hf => hf _ qI))
theorem Z7t {α : Type} (N : Nat) (T : Tk) (hc : T.ts.length ≤ T.cap) (h9 : T.ts.length ≤ 2049) (b : Nat) (ts : List T3) (hts : ts <:+ T.ts) (En : Enc α) (hE : En.flat) (hs : En.sz = 4) (part : Ps α) (hpd : Dn part) (most : Nat) (fp : FuncId) (hpart : ∀ us, us <:+ T.ts → us.length ≤ ts.length → CallP Tryz.prog fp [PB T b us] [T.G, AF, NH N] [.is (.pointer (some ⟨b, 0, none⟩))] (part us = none) flt (fun z : α × List T3 => part us = some z) (fun z => [PB T b z.2]) (fun z => .rep (En.T z.1))) :
  CallP Tryz.prog Z4Q [PB T b ts] [T.G, AF, NH N] [.is (.pointer (some ⟨b, 0, none⟩)), .is (.int .i64 (most : Int)), .is (fv fp)] (listP most part ts = none) flt (fun z : List α × List T3 => listP most part ts = some z) (fun z => [PB T b z.2]) (fun z => .rep (SlE En (FrS N Z12 En.sz) z.1)) :=
 (Z7r (S := Unit) N T hc h9 b ts hts En hE hs part id hpd (fun _ => []) (fun _ _ => True) () trivial (fun _ _ h => by cases h) (fun _ => rfl) most fp [] fun us s l hus hu _ => (hpart us hus qM).map id (fun z => (z.1, z.2, ())) (fun z hz => ⟨hz, trivial⟩) (fun z _ => rfl) (fun z _ => rfl)).map id (fun z => (z.1, z.2.1)) (fun z hz => by have := hz.1; rwa [List.map_id] at this) (fun _ _ => rfl) (fun _ _ => rfl)
theorem Z5Q {α β S : Type} (N : Nat) (T : Tk) (hc : T.ts.length ≤ T.cap) (h9 : T.ts.length ≤ 2049) (b : Nat) (ts : List T3) (hts : ts <:+ T.ts) (En : Enc β) (hE : En.flat) (hs : En.sz = 1) (part : Ps α) (proj : β → α) (hpd : Dn part) (X : S → List Own) (I : S → List β → Prop) (s0 : S) (hI0 : I s0 []) (hXb : ∀ s, ∀ o ∈ X s0, ∃ o' ∈ X s, o'.b = o.b) (hXo : ∀ s, (X s).all (fun o => o.T.out) = true) (most : Nat) (fp : FuncId) (cp : List Value) (hpart : ∀ us s l, us <:+ T.ts → l.length + us.length ≤ ts.length → I s l → CallP Tryz.prog fp (PB T b us :: X s) [T.G, AF, NH N] ([.is (.pointer (some ⟨b, 0, none⟩))] ++ cp.map Ty.is) (part us = none) flt (fun z : β × List T3 × S => part us = some (proj z.1, z.2.1) ∧ I z.2.2 (l ++ [z.1])) (fun z => PB T b z.2.1 :: X z.2.2) (fun z => .rep (En.T z.1))) : CallP Tryz.prog Z5S (PB T b ts :: X s0) [T.G, AF, NH N] [.is (.pointer (some ⟨b, 0, none⟩)), .is (.int .i64 (most : Int)), .is (.func (.func fp) #[] cp.toArray)] (listP most part ts = none) flt (fun z : List β × List T3 × S => listP most part ts = some (z.1.map proj, z.2.1) ∧ I z.2.2 z.1) (fun z => PB T b z.2.1 :: X z.2.2) (fun z => .rep (SlE En (FrS N Zx En.sz) z.1)) :=
CallP.ofN (N := N) (List.mem_cons_of_mem _ (List.mem_cons_of_mem _ List.mem_cons_self)) (fn := Tryz.f121) Tryz.func121 (n := 27) rfl rfl rfl (fun _ _ => by kernel_rfl) fun E W hNW hb0 => by
 refine vQ ?_
 refine Ja rfl ?_
 refine vP [0, 1, 2] ?_
 refine Jm rfl (Jm rfl ?_)
 refine JO.callPvK (cp := cp) (Lr := []) rfl (hpart ts s0 [] hts (by simp) hI0) rfl (.of_eq (List.append_nil _).symm) qF (.one rfl .nil) (fun hbad => ?_) ?_
 · exact JX.pnI (by rw [Z1U, hbad]; rfl)
 rintro ⟨x1, us1, s1⟩ ⟨hz1, hI1⟩
 refine vD ?_
 try simp only [List.append_nil]
 refine JO.openT (s := 10) rfl (fun p1 hp1 => ?_)
 refine JO.buildE hE (by rw [hs]; exact Z1c) (by rw [hs]; rfl) (by rw [hs]; decide) rfl rfl (fun b11 => ?_)
 refine Ja rfl ?_
 refine vS [0, 1, 2, 7] ?_
 apply yk
 repeat apply yQ
 refine J.loopH (α := List (Cel En) × Option (Nat × List Value) × Nat × List T3 × S) (fun x => [(0, .is (.pointer (some ⟨b, 0, none⟩))), (1, .is (.int .i64 (most : Int))), (2, .is (.func (.func fp) #[] cp.toArray)), (7, .is (sliceO x.2.1 x.1.length x.2.2.1))]) (fun x => ownO x.2.1 Zx (PB T b x.2.2.2.1 :: X x.2.2.2.2)) (fun x => CelF En x.1) (fun x => x.2.2.2.1 <:+ T.ts ∧ x.1.length + x.2.2.2.1.length ≤ ts.length ∧ Grows Cel.cs En.sz x.1 x.2.1 x.2.2.1 ∧ I x.2.2.2.2 (x.1.map Cel.x) ∧ listP most part ts = listI most part ((x.1.map Cel.x).map proj) x.2.2.2.1) (fun x => x.2.2.2.1.length) ([p1], some (b11, p1.cs), 1, us1, s1) [0, 1, 2, 7] (.cons rfl (.cons rfl (.cons rfl (.cons rfl .nil)))) rfl (fun X w hF => fun w' hk p hp => by rw [List.mem_singleton.1 hp]; exact hF _ List.mem_cons_self w' hk) ⟨(show us1 <:+ ts from (hpd _ _ hz1).1).trans hts, (show 1 + us1.length ≤ ts.length by have : us1.length < ts.length := (hpd _ _ hz1).2; omega), growE p1, (by rw [List.map_singleton, hp1]; exact hI1), (by rw [Z1U, hz1, List.map_singleton, hp1]; rfl)⟩ fun ⟨ps, st, cap, us, s⟩ ⟨hus, hlen, hG, hIs, hP⟩ => ?_
 try dsimp only
 try dsimp only at hus
 try dsimp only at hlen
 try dsimp only at hG
 try dsimp only at hIs
 try dsimp only at hP
 refine vQ ?_
 refine Jm rfl ?_
 refine JO.subL (L' := PB T b us :: ownO st Zx (X s)) Z26.symm ?_
 refine JO.callK (Lr := ownO st Zx (X s)) (Ze T hc b us hus ZC) rfl (.refl _) qF qA ?_
 intro _ _
 refine vD ?_
 refine JO.subL (L' := ownO st Zx (PB T b (skT 5 ZC us) :: X s)) Z26 ?_
 refine vS [0, 1, 2, 7, 13] ?_
 refine yC rfl (fun ht13 => ?_) (fun ht13 => ?_)
 apply yK
 refine vN ?_
 apply yk
 have hcm : isT 5 ZC us = true := ht13
 rw [ZU hcm]
 refine vQ ?_
 refine Jm rfl (Jm rfl (Jm rfl ?_))
 refine JO.subL (L' := (PB T b us.tail :: X s) ++ ownO st Zx []) Z2u.symm ?_
 refine JO.callPvK (cp := cp) (Lr := ownO st Zx []) rfl (hpart us.tail s (ps.map Cel.x) (Zm hus) (by have := (Zz hcm).2; rw [List.length_map]; omega) hIs) rfl (.refl _) qF (.one rfl .nil) (fun hbad => ?_) ?_
 · exact JX.pnI (by rw [hP, Z2v hpd.le hcm, hbad]; rfl)
 rintro ⟨x2, us2, s2⟩ ⟨hz2, hI2⟩
 refine vD ?_
 refine JO.subL (L' := ownO st Zx (PB T b us2 :: X s2)) Z2u ?_
 refine JO.openT (s := 17) rfl (fun p2 hp2 => ?_)
 have hd2 := (hpd _ _ hz2).2
 have hlt := (Zz hcm).2
 have hle9 := hts.length_le
 refine Jq (Z2I hE (by rw [hs]; exact Z1c) (by rw [hs]; rfl) (by rw [hs]; decide) rfl) ?_
 refine JO.apO (ys := [p2]) (by rw [hs]; exact Z2r) Cel.hlen .here hG rfl rfl (srcE p2 ZX) (by simp) (by show (ps.length + 1) * 16 ≤ 140737488355328; omega) (by show ps.length + 1 ≤ 9223372036854775807; omega) rfl (fun st2 cap2 hG2 => ?_)
 refine Ja rfl ?_
 apply yI
 repeat refine JX.normal_block ?_
 refine JX.roundG (x := (ps, st, cap, us, s)) (ps ++ [p2], st2, cap2, us2, s2) ?_ ?_ [0, 1, 2, 7] ?_ ?_ ?_ ?_
 · exact ⟨(show us2 <:+ us.tail from (hpd _ _ hz2).1).trans (Zm hus), (by show (ps ++ [p2]).length + us2.length ≤ ts.length; rw [List.length_append]; show ps.length + 1 + us2.length ≤ ts.length; have : us2.length < us.tail.length := hd2; omega), hG2, (by rw [List.map_append, List.map_singleton, hp2]; exact hI2), (by rw [hP, Z2v hpd.le hcm, hz2, List.map_append, List.map_singleton, hp2, List.map_append]; rfl)⟩
 · exact (by show us2.length < us.length; have : us2.length < us.tail.length := hd2; omega)
 · exact qS
 · exact qH
 · exact qG
 · exact fun X w hF => fun w' hk => CelF.snoc (hF _ qI w' hk) (hF _ List.mem_cons_self w' hk)
 repeat apply yQ
 refine J.exit ?_
 repeat first|refine yH ?_|refine yM rfl ?_|refine yE ?_
 repeat first|apply yX|apply yB
 have hcm : isT 5 ZC us = false := ht13
 rw [ZZ hcm]
 rw [hG.sl.1]
 refine vQ ?_
 refine Jm rfl (Jm rfl (Jq (Zo ZX rfl) ?_))
 refine Jm rfl (Jq (Z44 rfl rfl) ?_)
 refine JO.callPK (Lr := _) (Zb (.pointer (some ⟨b, 0, none⟩)) (decide ((ps.length : Int) ≤ (most : Int)))) rfl (Z1k _) Z19 qA (fun hbad => ?_) ?_
 · exact JX.pnI (by rw [hP]; exact Z4M hcm (by rw [List.length_map, List.length_map]; have := of_decide_eq_false hbad; omega))
 intro _ hmo
 refine vD ?_
 refine vS [7] ?_
 refine J.freezeOMW (e := Zx) (sz := En.sz) hNW Cel.hlen hG .here (fun q hq => ?_) rfl (by rw [List.all_cons, hXo]; rfl) ?_
 · rw [List.map_cons] at hq
   rcases List.mem_cons.1 hq with rfl | hq
   · exact ⟨_, List.mem_cons_self, rfl⟩
   · obtain ⟨o, ho, e⟩ := List.mem_map.1 hq
     obtain ⟨o2, ho2, e2⟩ := hXb s o ho
     exact ⟨o2, List.mem_cons_of_mem _ ho2, e2.trans e⟩
 refine vQ ?_
 refine Jm rfl (Ja rfl ?_)
 refine vS [6] ?_
 refine vR ?_
 refine JX.toP ?_
 exact JX.retL1 (Lr := []) (L1 := fun z : List β × List T3 × S => PB T b z.2.1 :: X z.2.2) (R := fun z => .rep (SlE En (FrS N Zx En.sz) z.1)) rfl (ps.map Cel.x, us, s) ⟨by rw [hP, Z5h hcm, if_pos (by rw [List.length_map, List.length_map]; have := of_decide_eq_true hmo; omega)], hIs⟩ (.of_eq (List.append_nil _).symm) (by rw [List.all_cons, hXo]; rfl) rfl hb0 rfl (Sub.slE hG.sl.2 qI qI (fun X w hf => hf _ qI))
theorem Z9q {α : Type} (N : Nat) (T : Tk) (hc : T.ts.length ≤ T.cap) (h9 : T.ts.length ≤ 2049) (b : Nat) (ts : List T3) (hts : ts <:+ T.ts) (En : Enc α) (hE : En.flat) (hs : En.sz = 1) (part : Ps α) (hpd : Dn part) (most : Nat) (fp : FuncId) (hpart : ∀ us, us <:+ T.ts → us.length ≤ ts.length → CallP Tryz.prog fp [PB T b us] [T.G, AF, NH N] [.is (.pointer (some ⟨b, 0, none⟩))] (part us = none) flt (fun z : α × List T3 => part us = some z) (fun z => [PB T b z.2]) (fun z => .rep (En.T z.1))) :
  CallP Tryz.prog Z5S [PB T b ts] [T.G, AF, NH N] [.is (.pointer (some ⟨b, 0, none⟩)), .is (.int .i64 (most : Int)), .is (fv fp)] (listP most part ts = none) flt (fun z : List α × List T3 => listP most part ts = some z) (fun z => [PB T b z.2]) (fun z => .rep (SlE En (FrS N Zx En.sz) z.1)) :=
 (Z5Q (S := Unit) N T hc h9 b ts hts En hE hs part id hpd (fun _ => []) (fun _ _ => True) () trivial (fun _ _ h => by cases h) (fun _ => rfl) most fp [] fun us s l hus hu _ => (hpart us hus qM).map id (fun z => (z.1, z.2, ())) (fun z hz => ⟨hz, trivial⟩) (fun z _ => rfl) (fun z _ => rfl)).map id (fun z => (z.1, z.2.1)) (fun z hz => by have := hz.1; rwa [List.map_id] at this) (fun _ _ => rfl) (fun _ _ => rfl)
theorem Z7j {α β S : Type} (N : Nat) (T : Tk) (hc : T.ts.length ≤ T.cap) (h9 : T.ts.length ≤ 2049) (b : Nat) (ts : List T3) (hts : ts <:+ T.ts) (En : Enc β) (hE : En.flat) (hs : En.sz = 1) (part : Ps α) (proj : β → α) (hpd : Dn part) (X : S → List Own) (I : S → List β → Prop) (s0 : S) (hI0 : I s0 []) (hXb : ∀ s, ∀ o ∈ X s0, ∃ o' ∈ X s, o'.b = o.b) (hXo : ∀ s, (X s).all (fun o => o.T.out) = true) (most : Nat) (fp : FuncId) (cp : List Value) (hpart : ∀ us s l, us <:+ T.ts → l.length + us.length ≤ ts.length → I s l → CallP Tryz.prog fp (PB T b us :: X s) [T.G, AF, NH N] ([.is (.pointer (some ⟨b, 0, none⟩))] ++ cp.map Ty.is) (part us = none) flt (fun z : β × List T3 × S => part us = some (proj z.1, z.2.1) ∧ I z.2.2 (l ++ [z.1])) (fun z => PB T b z.2.1 :: X z.2.2) (fun z => .rep (En.T z.1))) : CallP Tryz.prog Z4s (PB T b ts :: X s0) [T.G, AF, NH N] [.is (.pointer (some ⟨b, 0, none⟩)), .is (.int .i64 (most : Int)), .is (.func (.func fp) #[] cp.toArray)] (listP most part ts = none) flt (fun z : List β × List T3 × S => listP most part ts = some (z.1.map proj, z.2.1) ∧ I z.2.2 z.1) (fun z => PB T b z.2.1 :: X z.2.2) (fun z => .rep (SlE En (FrS N Z1z En.sz) z.1)) :=
CallP.ofN (N := N) (List.mem_cons_of_mem _ (List.mem_cons_of_mem _ List.mem_cons_self)) (fn := Tryz.f110) Tryz.func110 (n := 27) rfl rfl rfl (fun _ _ => by kernel_rfl) fun E W hNW hb0 => by
 refine vQ ?_
 refine Ja rfl ?_
 refine vP [0, 1, 2] ?_
 refine Jm rfl (Jm rfl ?_)
 refine JO.callPvK (cp := cp) (Lr := []) rfl (hpart ts s0 [] hts (by simp) hI0) rfl (.of_eq (List.append_nil _).symm) qF (.one rfl .nil) (fun hbad => ?_) ?_
 · exact JX.pnI (by rw [Z1U, hbad]; rfl)
 rintro ⟨x1, us1, s1⟩ ⟨hz1, hI1⟩
 refine vD ?_
 try simp only [List.append_nil]
 refine JO.openT (s := 10) rfl (fun p1 hp1 => ?_)
 refine JO.buildE hE (by rw [hs]; exact Z4T) (by rw [hs]; rfl) (by rw [hs]; decide) rfl rfl (fun b11 => ?_)
 refine Ja rfl ?_
 refine vS [0, 1, 2, 7] ?_
 apply yk
 repeat apply yQ
 refine J.loopH (α := List (Cel En) × Option (Nat × List Value) × Nat × List T3 × S) (fun x => [(0, .is (.pointer (some ⟨b, 0, none⟩))), (1, .is (.int .i64 (most : Int))), (2, .is (.func (.func fp) #[] cp.toArray)), (7, .is (sliceO x.2.1 x.1.length x.2.2.1))]) (fun x => ownO x.2.1 Z1z (PB T b x.2.2.2.1 :: X x.2.2.2.2)) (fun x => CelF En x.1) (fun x => x.2.2.2.1 <:+ T.ts ∧ x.1.length + x.2.2.2.1.length ≤ ts.length ∧ Grows Cel.cs En.sz x.1 x.2.1 x.2.2.1 ∧ I x.2.2.2.2 (x.1.map Cel.x) ∧ listP most part ts = listI most part ((x.1.map Cel.x).map proj) x.2.2.2.1) (fun x => x.2.2.2.1.length) ([p1], some (b11, p1.cs), 1, us1, s1) [0, 1, 2, 7] (.cons rfl (.cons rfl (.cons rfl (.cons rfl .nil)))) rfl (fun X w hF => fun w' hk p hp => by rw [List.mem_singleton.1 hp]; exact hF _ List.mem_cons_self w' hk) ⟨(show us1 <:+ ts from (hpd _ _ hz1).1).trans hts, (show 1 + us1.length ≤ ts.length by have : us1.length < ts.length := (hpd _ _ hz1).2; omega), growE p1, (by rw [List.map_singleton, hp1]; exact hI1), (by rw [Z1U, hz1, List.map_singleton, hp1]; rfl)⟩ fun ⟨ps, st, cap, us, s⟩ ⟨hus, hlen, hG, hIs, hP⟩ => ?_
 try dsimp only
 try dsimp only at hus
 try dsimp only at hlen
 try dsimp only at hG
 try dsimp only at hIs
 try dsimp only at hP
 refine vQ ?_
 refine Jm rfl ?_
 refine JO.subL (L' := PB T b us :: ownO st Z1z (X s)) Z26.symm ?_
 refine JO.callK (Lr := ownO st Z1z (X s)) (Ze T hc b us hus ZC) rfl (.refl _) qF qA ?_
 intro _ _
 refine vD ?_
 refine JO.subL (L' := ownO st Z1z (PB T b (skT 5 ZC us) :: X s)) Z26 ?_
 refine vS [0, 1, 2, 7, 13] ?_
 refine yC rfl (fun ht13 => ?_) (fun ht13 => ?_)
 apply yK
 refine vN ?_
 apply yk
 have hcm : isT 5 ZC us = true := ht13
 rw [ZU hcm]
 refine vQ ?_
 refine Jm rfl (Jm rfl (Jm rfl ?_))
 refine JO.subL (L' := (PB T b us.tail :: X s) ++ ownO st Z1z []) Z2u.symm ?_
 refine JO.callPvK (cp := cp) (Lr := ownO st Z1z []) rfl (hpart us.tail s (ps.map Cel.x) (Zm hus) (by have := (Zz hcm).2; rw [List.length_map]; omega) hIs) rfl (.refl _) qF (.one rfl .nil) (fun hbad => ?_) ?_
 · exact JX.pnI (by rw [hP, Z2v hpd.le hcm, hbad]; rfl)
 rintro ⟨x2, us2, s2⟩ ⟨hz2, hI2⟩
 refine vD ?_
 refine JO.subL (L' := ownO st Z1z (PB T b us2 :: X s2)) Z2u ?_
 refine JO.openT (s := 17) rfl (fun p2 hp2 => ?_)
 have hd2 := (hpd _ _ hz2).2
 have hlt := (Zz hcm).2
 have hle9 := hts.length_le
 refine Jq (Z2I hE (by rw [hs]; exact Z4T) (by rw [hs]; rfl) (by rw [hs]; decide) rfl) ?_
 refine JO.apO (ys := [p2]) (by rw [hs]; exact Zax) Cel.hlen .here hG rfl rfl (srcE p2 Z1t) (by simp) (by show (ps.length + 1) * 24 ≤ 140737488355328; omega) (by show ps.length + 1 ≤ 9223372036854775807; omega) rfl (fun st2 cap2 hG2 => ?_)
 refine Ja rfl ?_
 apply yI
 repeat refine JX.normal_block ?_
 refine JX.roundG (x := (ps, st, cap, us, s)) (ps ++ [p2], st2, cap2, us2, s2) ?_ ?_ [0, 1, 2, 7] ?_ ?_ ?_ ?_
 · exact ⟨(show us2 <:+ us.tail from (hpd _ _ hz2).1).trans (Zm hus), (by show (ps ++ [p2]).length + us2.length ≤ ts.length; rw [List.length_append]; show ps.length + 1 + us2.length ≤ ts.length; have : us2.length < us.tail.length := hd2; omega), hG2, (by rw [List.map_append, List.map_singleton, hp2]; exact hI2), (by rw [hP, Z2v hpd.le hcm, hz2, List.map_append, List.map_singleton, hp2, List.map_append]; rfl)⟩
 · exact (by show us2.length < us.length; have : us2.length < us.tail.length := hd2; omega)
 · exact qS
 · exact qH
 · exact qG
 · exact fun X w hF => fun w' hk => CelF.snoc (hF _ qI w' hk) (hF _ List.mem_cons_self w' hk)
 repeat apply yQ
 refine J.exit ?_
 repeat first|refine yH ?_|refine yM rfl ?_|refine yE ?_
 repeat first|apply yX|apply yB
 have hcm : isT 5 ZC us = false := ht13
 rw [ZZ hcm]
 rw [hG.sl.1]
 refine vQ ?_
 refine Jm rfl (Jm rfl (Jq (Zo Z1t rfl) ?_))
 refine Jm rfl (Jq (Z44 rfl rfl) ?_)
 refine JO.callPK (Lr := _) (Zb (.pointer (some ⟨b, 0, none⟩)) (decide ((ps.length : Int) ≤ (most : Int)))) rfl (Z1k _) Z19 qA (fun hbad => ?_) ?_
 · exact JX.pnI (by rw [hP]; exact Z4M hcm (by rw [List.length_map, List.length_map]; have := of_decide_eq_false hbad; omega))
 intro _ hmo
 refine vD ?_
 refine vS [7] ?_
 refine J.freezeOMW (e := Z1z) (sz := En.sz) hNW Cel.hlen hG .here (fun q hq => ?_) rfl (by rw [List.all_cons, hXo]; rfl) ?_
 · rw [List.map_cons] at hq
   rcases List.mem_cons.1 hq with rfl | hq
   · exact ⟨_, List.mem_cons_self, rfl⟩
   · obtain ⟨o, ho, e⟩ := List.mem_map.1 hq
     obtain ⟨o2, ho2, e2⟩ := hXb s o ho
     exact ⟨o2, List.mem_cons_of_mem _ ho2, e2.trans e⟩
 refine vQ ?_
 refine Jm rfl (Ja rfl ?_)
 refine vS [6] ?_
 refine vR ?_
 refine JX.toP ?_
 exact JX.retL1 (Lr := []) (L1 := fun z : List β × List T3 × S => PB T b z.2.1 :: X z.2.2) (R := fun z => .rep (SlE En (FrS N Z1z En.sz) z.1)) rfl (ps.map Cel.x, us, s) ⟨by rw [hP, Z5h hcm, if_pos (by rw [List.length_map, List.length_map]; have := of_decide_eq_true hmo; omega)], hIs⟩ (.of_eq (List.append_nil _).symm) (by rw [List.all_cons, hXo]; rfl) rfl hb0 rfl (Sub.slE hG.sl.2 qI qI (fun X w hf => hf _ qI))
theorem Z4t {α : Type} (N : Nat) (T : Tk) (hc : T.ts.length ≤ T.cap) (h9 : T.ts.length ≤ 2049) (b : Nat) (ts : List T3) (hts : ts <:+ T.ts) (En : Enc α) (hE : En.flat) (hs : En.sz = 1) (part : Ps α) (hpd : Dn part) (most : Nat) (fp : FuncId) (hpart : ∀ us, us <:+ T.ts → us.length ≤ ts.length → CallP Tryz.prog fp [PB T b us] [T.G, AF, NH N] [.is (.pointer (some ⟨b, 0, none⟩))] (part us = none) flt (fun z : α × List T3 => part us = some z) (fun z => [PB T b z.2]) (fun z => .rep (En.T z.1))) :
  CallP Tryz.prog Z4s [PB T b ts] [T.G, AF, NH N] [.is (.pointer (some ⟨b, 0, none⟩)), .is (.int .i64 (most : Int)), .is (fv fp)] (listP most part ts = none) flt (fun z : List α × List T3 => listP most part ts = some z) (fun z => [PB T b z.2]) (fun z => .rep (SlE En (FrS N Z1z En.sz) z.1)) :=
 (Z7j (S := Unit) N T hc h9 b ts hts En hE hs part id hpd (fun _ => []) (fun _ _ => True) () trivial (fun _ _ h => by cases h) (fun _ => rfl) most fp [] fun us s l hus hu _ => (hpart us hus qM).map id (fun z => (z.1, z.2, ())) (fun z hz => ⟨hz, trivial⟩) (fun z _ => rfl) (fun z _ => rfl)).map id (fun z => (z.1, z.2.1)) (fun z hz => by have := hz.1; rwa [List.map_id] at this) (fun _ _ => rfl) (fun _ _ => rfl)
theorem Z7v {α : Type} (N : Nat) (T : Tk) (hc : T.ts.length ≤ T.cap) (h9 : T.ts.length ≤ 2049) (b : Nat) (ts : List T3) (hts : ts <:+ T.ts) (En : Enc α) (hE : En.flat) (hs : En.sz = 8) (part : Ps α) (hpd : Dn part) (fp : FuncId) (hpart : ∀ us, us <:+ T.ts → us.length ≤ ts.length → CallP Tryz.prog fp [PB T b us] [T.G, AF, NH N] [.is (.pointer (some ⟨b, 0, none⟩))] (part us = none) flt (fun z : α × List T3 => part us = some z) (fun z => [PB T b z.2]) (fun z => .rep (En.T z.1))) : CallP Tryz.prog Z7q [PB T b ts] [T.G, AF, NH N] [.is (.pointer (some ⟨b, 0, none⟩)), .is (fv fp)] (withinP part ts = none) flt (fun z : List α × List T3 => withinP part ts = some z) (fun z => [PB T b z.2]) (fun z => .rep (SlE En (FrS N Z6 En.sz) z.1)) :=
CallP.of (fn := Tryz.f112) Tryz.func112 (n := 18) rfl rfl rfl (fun _ _ => by kernel_rfl) fun E W hb0 => by
 refine vQ ?_
 refine Ja rfl ?_
 refine vP [0, 1] ?_
 refine Jm rfl (Jm rfl ?_)
 refine JO.callK (Lr := []) (Ze T hc b ts hts s_lp) rfl (.refl _) qF qA ?_
 intro _ _
 refine vD ?_
 refine JO.callPK (Lr := _) (Zb (.pointer (some ⟨b, 0, none⟩)) (isT 5 s_lp ts)) rfl (Z1k _) Z19 qA (fun hbad => ?_) ?_
 · exact JX.pnI (by unfold withinP; rw [wantN hbad]; rfl)
 intro _ hlp
 refine vD ?_
 refine vS [0, 1] ?_
 rw [ZU hlp]
 refine vQ ?_
 refine Jm rfl (Jm rfl ?_)
 refine JO.callPK (Lr := []) (Z5o N T hc h9 b ts.tail (Zm hts) En hE hs part hpd 16 fp (fun us hus hu => hpart us hus (by have := (Zz hlp).2; omega))) rfl (.refl _) qF qA (fun hbad => ?_) ?_
 · exact JX.pnI (by unfold withinP; rw [wantY hlp]; simp only [Option.bind_some]; rw [hbad]; rfl)
 intro z hz
 have hzs : z.2 <:+ T.ts := (Z2w hpd.le 16 _ _ hz).trans (Zm hts)
 refine vD ?_
 refine Ja rfl ?_
 refine vP [0, 5] ?_
 refine Jm rfl (Jm rfl ?_)
 refine JO.callK (Lr := []) (Ze T hc b z.2 hzs s_rp) rfl (.refl _) qF qA ?_
 intro _ _
 refine vD ?_
 refine JO.callPK (Lr := _) (Zb (.pointer (some ⟨b, 0, none⟩)) (isT 5 s_rp z.2)) rfl (Z1k _) Z19 qA (fun hbad => ?_) ?_
 · exact JX.pnI (by unfold withinP; rw [wantY hlp]; simp only [Option.bind_some]; rw [hz]; simp only [Option.bind_some]; rw [wantN hbad]; rfl)
 intro _ hrp
 refine vD ?_
 refine vS [5] ?_
 rw [ZU hrp]
 refine vQ ?_
 refine Jm rfl (Ja rfl ?_)
 refine vS [4] ?_
 refine vR ?_
 refine JX.toP ?_
 exact JX.retL1 (Lr := []) (L1 := fun z : List α × List T3 => [PB T b z.2]) (R := fun z => .rep (SlE En (FrS N Z6 En.sz) z.1)) rfl (z.1, z.2.tail) (by unfold withinP; rw [wantY hlp]; simp only [Option.bind_some]; rw [hz]; simp only [Option.bind_some]; rw [wantY hrp]; rfl) (.refl _) rfl rfl hb0 rfl (Sub.refl _)
theorem Z6R {α : Type} (N : Nat) (T : Tk) (hc : T.ts.length ≤ T.cap) (h9 : T.ts.length ≤ 2049) (b : Nat) (ts : List T3) (hts : ts <:+ T.ts) (En : Enc α) (hE : En.flat) (hs : En.sz = 4) (part : Ps α) (hpd : Dn part) (fp : FuncId) (hpart : ∀ us, us <:+ T.ts → us.length ≤ ts.length → CallP Tryz.prog fp [PB T b us] [T.G, AF, NH N] [.is (.pointer (some ⟨b, 0, none⟩))] (part us = none) flt (fun z : α × List T3 => part us = some z) (fun z => [PB T b z.2]) (fun z => .rep (En.T z.1))) : CallP Tryz.prog Z6Q [PB T b ts] [T.G, AF, NH N] [.is (.pointer (some ⟨b, 0, none⟩)), .is (fv fp)] (withinP part ts = none) flt (fun z : List α × List T3 => withinP part ts = some z) (fun z => [PB T b z.2]) (fun z => .rep (SlE En (FrS N Z12 En.sz) z.1)) :=
CallP.of (fn := Tryz.f106) Tryz.func106 (n := 18) rfl rfl rfl (fun _ _ => by kernel_rfl) fun E W hb0 => by
 refine vQ ?_
 refine Ja rfl ?_
 refine vP [0, 1] ?_
 refine Jm rfl (Jm rfl ?_)
 refine JO.callK (Lr := []) (Ze T hc b ts hts s_lp) rfl (.refl _) qF qA ?_
 intro _ _
 refine vD ?_
 refine JO.callPK (Lr := _) (Zb (.pointer (some ⟨b, 0, none⟩)) (isT 5 s_lp ts)) rfl (Z1k _) Z19 qA (fun hbad => ?_) ?_
 · exact JX.pnI (by unfold withinP; rw [wantN hbad]; rfl)
 intro _ hlp
 refine vD ?_
 refine vS [0, 1] ?_
 rw [ZU hlp]
 refine vQ ?_
 refine Jm rfl (Jm rfl ?_)
 refine JO.callPK (Lr := []) (Z7t N T hc h9 b ts.tail (Zm hts) En hE hs part hpd 16 fp (fun us hus hu => hpart us hus (by have := (Zz hlp).2; omega))) rfl (.refl _) qF qA (fun hbad => ?_) ?_
 · exact JX.pnI (by unfold withinP; rw [wantY hlp]; simp only [Option.bind_some]; rw [hbad]; rfl)
 intro z hz
 have hzs : z.2 <:+ T.ts := (Z2w hpd.le 16 _ _ hz).trans (Zm hts)
 refine vD ?_
 refine Ja rfl ?_
 refine vP [0, 5] ?_
 refine Jm rfl (Jm rfl ?_)
 refine JO.callK (Lr := []) (Ze T hc b z.2 hzs s_rp) rfl (.refl _) qF qA ?_
 intro _ _
 refine vD ?_
 refine JO.callPK (Lr := _) (Zb (.pointer (some ⟨b, 0, none⟩)) (isT 5 s_rp z.2)) rfl (Z1k _) Z19 qA (fun hbad => ?_) ?_
 · exact JX.pnI (by unfold withinP; rw [wantY hlp]; simp only [Option.bind_some]; rw [hz]; simp only [Option.bind_some]; rw [wantN hbad]; rfl)
 intro _ hrp
 refine vD ?_
 refine vS [5] ?_
 rw [ZU hrp]
 refine vQ ?_
 refine Jm rfl (Ja rfl ?_)
 refine vS [4] ?_
 refine vR ?_
 refine JX.toP ?_
 exact JX.retL1 (Lr := []) (L1 := fun z : List α × List T3 => [PB T b z.2]) (R := fun z => .rep (SlE En (FrS N Z12 En.sz) z.1)) rfl (z.1, z.2.tail) (by unfold withinP; rw [wantY hlp]; simp only [Option.bind_some]; rw [hz]; simp only [Option.bind_some]; rw [wantY hrp]; rfl) (.refl _) rfl rfl hb0 rfl (Sub.refl _)
theorem Z8q {α : Type} (N : Nat) (T : Tk) (hc : T.ts.length ≤ T.cap) (h9 : T.ts.length ≤ 2049) (b : Nat) (ts : List T3) (hts : ts <:+ T.ts) (En : Enc α) (hE : En.flat) (hs : En.sz = 1) (part : Ps α) (hpd : Dn part) (fp : FuncId) (hpart : ∀ us, us <:+ T.ts → us.length ≤ ts.length → CallP Tryz.prog fp [PB T b us] [T.G, AF, NH N] [.is (.pointer (some ⟨b, 0, none⟩))] (part us = none) flt (fun z : α × List T3 => part us = some z) (fun z => [PB T b z.2]) (fun z => .rep (En.T z.1))) : CallP Tryz.prog Z8o [PB T b ts] [T.G, AF, NH N] [.is (.pointer (some ⟨b, 0, none⟩)), .is (fv fp)] (withinP part ts = none) flt (fun z : List α × List T3 => withinP part ts = some z) (fun z => [PB T b z.2]) (fun z => .rep (SlE En (FrS N Zx En.sz) z.1)) :=
CallP.of (fn := Tryz.f109) Tryz.func109 (n := 18) rfl rfl rfl (fun _ _ => by kernel_rfl) fun E W hb0 => by
 refine vQ ?_
 refine Ja rfl ?_
 refine vP [0, 1] ?_
 refine Jm rfl (Jm rfl ?_)
 refine JO.callK (Lr := []) (Ze T hc b ts hts s_lp) rfl (.refl _) qF qA ?_
 intro _ _
 refine vD ?_
 refine JO.callPK (Lr := _) (Zb (.pointer (some ⟨b, 0, none⟩)) (isT 5 s_lp ts)) rfl (Z1k _) Z19 qA (fun hbad => ?_) ?_
 · exact JX.pnI (by unfold withinP; rw [wantN hbad]; rfl)
 intro _ hlp
 refine vD ?_
 refine vS [0, 1] ?_
 rw [ZU hlp]
 refine vQ ?_
 refine Jm rfl (Jm rfl ?_)
 refine JO.callPK (Lr := []) (Z9q N T hc h9 b ts.tail (Zm hts) En hE hs part hpd 16 fp (fun us hus hu => hpart us hus (by have := (Zz hlp).2; omega))) rfl (.refl _) qF qA (fun hbad => ?_) ?_
 · exact JX.pnI (by unfold withinP; rw [wantY hlp]; simp only [Option.bind_some]; rw [hbad]; rfl)
 intro z hz
 have hzs : z.2 <:+ T.ts := (Z2w hpd.le 16 _ _ hz).trans (Zm hts)
 refine vD ?_
 refine Ja rfl ?_
 refine vP [0, 5] ?_
 refine Jm rfl (Jm rfl ?_)
 refine JO.callK (Lr := []) (Ze T hc b z.2 hzs s_rp) rfl (.refl _) qF qA ?_
 intro _ _
 refine vD ?_
 refine JO.callPK (Lr := _) (Zb (.pointer (some ⟨b, 0, none⟩)) (isT 5 s_rp z.2)) rfl (Z1k _) Z19 qA (fun hbad => ?_) ?_
 · exact JX.pnI (by unfold withinP; rw [wantY hlp]; simp only [Option.bind_some]; rw [hz]; simp only [Option.bind_some]; rw [wantN hbad]; rfl)
 intro _ hrp
 refine vD ?_
 refine vS [5] ?_
 rw [ZU hrp]
 refine vQ ?_
 refine Jm rfl (Ja rfl ?_)
 refine vS [4] ?_
 refine vR ?_
 refine JX.toP ?_
 exact JX.retL1 (Lr := []) (L1 := fun z : List α × List T3 => [PB T b z.2]) (R := fun z => .rep (SlE En (FrS N Zx En.sz) z.1)) rfl (z.1, z.2.tail) (by unfold withinP; rw [wantY hlp]; simp only [Option.bind_some]; rw [hz]; simp only [Option.bind_some]; rw [wantY hrp]; rfl) (.refl _) rfl rfl hb0 rfl (Sub.refl _)
end Go.Proofs.YtbedigkncjbggaaGreatDoor
