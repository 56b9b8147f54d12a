/- The parser: lists. No condition. -/
import Derived.Test.YtbedigkncjbggaaGreatDoorXQ7
import Derived.Test.YtbedigkncjbggaaGreatDoorXQ1
set_option maxRecDepth 20000
namespace Go.Proofs.YtbedigkncjbggaaGreatDoor
open Go Go.Vc
open Go.Pz
theorem Z8h {α β S : Type} (N : Nat) (T : Tk) (hc : T.ts.length ≤ T.cap) (h9 : T.ts.length ≤ 2049) (b : Nat) (ts : List T3) (hts : ts <:+ T.ts) (En : Enc β) (hE : En.flat) (hs : En.sz = 8) (part : Ps α) (proj : β → α) (hpd : Dn part) (X : S → List Own) (I : S → List β → Prop) (s0 : S) (hI0 : I s0 []) (hXb : ∀ s, ∀ o ∈ X s0, ∃ o' ∈ X s, o'.b = o.b) (hXo : ∀ s, (X s).all (fun o => o.T.out) = true) (most : Nat) (fp : FuncId) (cp : List Value) (hpart : ∀ us s l, us <:+ T.ts → l.length + us.length ≤ ts.length → I s l → CallP Tryz.prog fp (PB T b us :: X s) [T.G, AF, NH N] ([.is (.pointer (some ⟨b, 0, none⟩))] ++ cp.map Ty.is) (part us = none) flt (fun z : β × List T3 × S => part us = some (proj z.1, z.2.1) ∧ I z.2.2 (l ++ [z.1])) (fun z => PB T b z.2.1 :: X z.2.2) (fun z => .rep (En.T z.1))) : CallP Tryz.prog Z56 (PB T b ts :: X s0) [T.G, AF, NH N] [.is (.pointer (some ⟨b, 0, none⟩)), .is (.int .i64 (most : Int)), .is (.func (.func fp) #[] cp.toArray)] (listP most part ts = none) flt (fun z : List β × List T3 × S => listP most part ts = some (z.1.map proj, z.2.1) ∧ I z.2.2 z.1) (fun z => PB T b z.2.1 :: X z.2.2) (fun z => .rep (SlE En (FrS N Z6 En.sz) z.1)) :=
CallP.ofN (N := N) (List.mem_cons_of_mem _ (List.mem_cons_of_mem _ List.mem_cons_self)) (fn := Tryz.f118) Tryz.func118 (n := 27) rfl rfl rfl (fun _ _ => by kernel_rfl) fun E W hNW hb0 => by
 refine vQ ?_
 refine Ja rfl ?_
 refine vP [0, 1, 2] ?_
 refine Jm rfl (Jm rfl ?_)
 refine JO.callPvK (cp := cp) (Lr := []) rfl (hpart ts s0 [] hts (by simp) hI0) rfl (.of_eq (List.append_nil _).symm) qF (.one rfl .nil) (fun hbad => ?_) ?_
 · exact JX.pnI (by rw [Z1S, hbad]; rfl)
 rintro ⟨x1, us1, s1⟩ ⟨hz1, hI1⟩
 refine vD ?_
 try simp only [List.append_nil]
 refine JO.openT (s := 10) rfl (fun p1 hp1 => ?_)
 refine JO.buildE hE (by rw [hs]; exact ZR) (by rw [hs]; rfl) (by rw [hs]; decide) rfl rfl (fun b11 => ?_)
 refine Ja rfl ?_
 refine vS [0, 1, 2, 7] ?_
 apply yk
 repeat apply yQ
 refine J.loopH (α := List (Cel En) × Option (Nat × List Value) × Nat × List T3 × S) (fun x => [(0, .is (.pointer (some ⟨b, 0, none⟩))), (1, .is (.int .i64 (most : Int))), (2, .is (.func (.func fp) #[] cp.toArray)), (7, .is (sliceO x.2.1 x.1.length x.2.2.1))]) (fun x => ownO x.2.1 Z6 (PB T b x.2.2.2.1 :: X x.2.2.2.2)) (fun x => CelF En x.1) (fun x => x.2.2.2.1 <:+ T.ts ∧ x.1.length + x.2.2.2.1.length ≤ ts.length ∧ Grows Cel.cs En.sz x.1 x.2.1 x.2.2.1 ∧ I x.2.2.2.2 (x.1.map Cel.x) ∧ listP most part ts = listI most part ((x.1.map Cel.x).map proj) x.2.2.2.1) (fun x => x.2.2.2.1.length) ([p1], some (b11, p1.cs), 1, us1, s1) [0, 1, 2, 7] (.cons rfl (.cons rfl (.cons rfl (.cons rfl .nil)))) rfl (fun X w hF => fun w' hk p hp => by rw [List.mem_singleton.1 hp]; exact hF _ List.mem_cons_self w' hk) ⟨(show us1 <:+ ts from (hpd _ _ hz1).1).trans hts, (show 1 + us1.length ≤ ts.length by have : us1.length < ts.length := (hpd _ _ hz1).2; omega), growE p1, (by rw [List.map_singleton, hp1]; exact hI1), (by rw [Z1S, hz1, List.map_singleton, hp1]; rfl)⟩ fun ⟨ps, st, cap, us, s⟩ ⟨hus, hlen, hG, hIs, hP⟩ => ?_
 try dsimp only
 try dsimp only at st
 try dsimp only at cap
 try dsimp only at us
 try dsimp only at s
 try dsimp only at hus
 try dsimp only at hlen
 try dsimp only at hG
 try dsimp only at hIs
 try dsimp only at hP
 refine vQ ?_
 refine Jm rfl ?_
 refine JO.subL (L' := PB T b us :: ownO st Z6 (X s)) Z27.symm ?_
 refine JO.callK (Lr := ownO st Z6 (X s)) (Ze T hc b us hus Z14) rfl (.refl _) qF qA ?_
 intro _ _
 refine vD ?_
 refine JO.subL (L' := ownO st Z6 (PB T b (skT 5 Z14 us) :: X s)) Z27 ?_
 refine vS [0, 1, 2, 7, 13] ?_
 refine yC rfl (fun ht13 => ?_) (fun ht13 => ?_)
 try simp only [yd, yf] at ht13
 apply yK
 refine vN ?_
 apply yk
 have hcm : isT 5 Z14 us = true := ht13
 rw [ZS hcm]
 refine vQ ?_
 refine Jm rfl (Jm rfl (Jm rfl ?_))
 refine JO.subL (L' := (PB T b us.tail :: X s) ++ ownO st Z6 []) Z2r.symm ?_
 refine JO.callPvK (cp := cp) (Lr := ownO st Z6 []) rfl (hpart us.tail s (ps.map Cel.x) (Zm hus) (by have := (Zy hcm).2; rw [List.length_map]; omega) hIs) rfl (.refl _) qF (.one rfl .nil) (fun hbad => ?_) ?_
 · exact JX.pnI (by rw [hP, Z2o hpd.le hcm, hbad]; rfl)
 rintro ⟨x2, us2, s2⟩ ⟨hz2, hI2⟩
 refine vD ?_
 refine JO.subL (L' := ownO st Z6 (PB T b us2 :: X s2)) Z2r ?_
 refine JO.openT (s := 17) rfl (fun p2 hp2 => ?_)
 have hd2 := (hpd _ _ hz2).2
 have hlt := (Zy hcm).2
 have hle9 := hts.length_le
 refine Jq (Z2D hE (by rw [hs]; exact ZR) (by rw [hs]; rfl) (by rw [hs]; decide) rfl) ?_
 refine JO.apO (ys := [p2]) (by rw [hs]; exact Z1n) Cel.hlen .here hG rfl rfl (srcE p2 Zj) (by simp) (by show (ps.length + 1) * 104 ≤ 140737488355328; omega) (by show ps.length + 1 ≤ 9223372036854775807; omega) rfl (fun st2 cap2 hG2 => ?_)
 refine Ja rfl ?_
 apply yI
 repeat refine JX.normal_block ?_
 refine JX.roundG (x := (ps, st, cap, us, s)) (ps ++ [p2], st2, cap2, us2, s2) ?_ ?_ [0, 1, 2, 7] ?_ ?_ ?_ ?_
 · exact ⟨(show us2 <:+ us.tail from (hpd _ _ hz2).1).trans (Zm hus), (by show (ps ++ [p2]).length + us2.length ≤ ts.length; rw [List.length_append]; show ps.length + 1 + us2.length ≤ ts.length; have : us2.length < us.tail.length := hd2; omega), hG2, (by rw [List.map_append, List.map_singleton, hp2]; exact hI2), (by rw [hP, Z2o hpd.le hcm, hz2, List.map_append, List.map_singleton, hp2, List.map_append]; rfl)⟩
 · exact (by show us2.length < us.length; have : us2.length < us.tail.length := hd2; omega)
 · exact qS
 · exact qH
 · exact qG
 · exact fun X w hF => fun w' hk => CelF.snoc (hF _ qI w' hk) (hF _ List.mem_cons_self w' hk)
 try simp only [yd, yf] at ht13
 repeat apply yQ
 refine J.exit ?_
 repeat first|refine yH ?_|refine yM rfl ?_|refine yE ?_
 repeat first|apply yX|apply yB
 have hcm : isT 5 Z14 us = false := ht13
 rw [ZV hcm]
 rw [hG.sl.1]
 refine vQ ?_
 refine Jm rfl (Jm rfl (Jq (Zn Zj rfl) ?_))
 refine Jm rfl (Jq (Z3Y rfl rfl) ?_)
 refine JO.callPK (Lr := _) (Zb (.pointer (some ⟨b, 0, none⟩)) (decide ((ps.length : Int) ≤ (most : Int)))) rfl (Z1l _) Z16 qA (fun hbad => ?_) ?_
 · exact JX.pnI (by rw [hP]; exact Z4p hcm (by rw [List.length_map, List.length_map]; have := of_decide_eq_false hbad; omega))
 intro _ hmo
 refine vD ?_
 refine vS [7] ?_
 refine J.freezeOMW (e := Z6) (sz := En.sz) hNW Cel.hlen hG .here (fun q hq => ?_) rfl (by rw [List.all_cons, hXo]; rfl) ?_
 · rw [List.map_cons] at hq
   rcases List.mem_cons.1 hq with rfl | hq
   · exact ⟨_, List.mem_cons_self, rfl⟩
   · obtain ⟨o, ho, e⟩ := List.mem_map.1 hq
     obtain ⟨o2, ho2, e2⟩ := hXb s o ho
     exact ⟨o2, List.mem_cons_of_mem _ ho2, e2.trans e⟩
 refine vQ ?_
 refine Jm rfl (Ja rfl ?_)
 refine vS [6] ?_
 refine vR ?_
 refine JX.toP ?_
 exact JX.retL1 (Lr := []) (L1 := fun z : List β × List T3 × S => PB T b z.2.1 :: X z.2.2) (R := fun z => .rep (SlE En (FrS N Z6 En.sz) z.1)) rfl (ps.map Cel.x, us, s) ⟨by rw [hP, Z4P hcm, if_pos (by rw [List.length_map, List.length_map]; have := of_decide_eq_true hmo; omega)], hIs⟩ (.of_eq (List.append_nil _).symm) (by rw [List.all_cons, hXo]; rfl) rfl hb0 rfl (Sub.slE hG.sl.2 qI qI (fun X w hf => hf _ qI))
theorem Z51 {α : Type} (N : Nat) (T : Tk) (hc : T.ts.length ≤ T.cap) (h9 : T.ts.length ≤ 2049) (b : Nat) (ts : List T3) (hts : ts <:+ T.ts) (En : Enc α) (hE : En.flat) (hs : En.sz = 8) (part : Ps α) (hpd : Dn part) (most : Nat) (fp : FuncId) (hpart : ∀ us, us <:+ T.ts → us.length ≤ ts.length → CallP Tryz.prog fp [PB T b us] [T.G, AF, NH N] [.is (.pointer (some ⟨b, 0, none⟩))] (part us = none) flt (fun z : α × List T3 => part us = some z) (fun z => [PB T b z.2]) (fun z => .rep (En.T z.1))) :
  CallP Tryz.prog Z56 [PB T b ts] [T.G, AF, NH N] [.is (.pointer (some ⟨b, 0, none⟩)), .is (.int .i64 (most : Int)), .is (fv fp)] (listP most part ts = none) flt (fun z : List α × List T3 => listP most part ts = some z) (fun z => [PB T b z.2]) (fun z => .rep (SlE En (FrS N Z6 En.sz) z.1)) :=
 (Z8h (S := Unit) N T hc h9 b ts hts En hE hs part id hpd (fun _ => []) (fun _ _ => True) () trivial (fun _ _ h => by cases h) (fun _ => rfl) most fp [] fun us s l hus hu _ => (hpart us hus qM).map id (fun z => (z.1, z.2, ())) (fun z hz => ⟨hz, trivial⟩) (fun z _ => rfl) (fun z _ => rfl)).map id (fun z => (z.1, z.2.1)) (fun z hz => by have := hz.1; rwa [List.map_id] at this) (fun _ _ => rfl) (fun _ _ => rfl)
theorem Z7P {α β S : Type} (N : Nat) (T : Tk) (hc : T.ts.length ≤ T.cap) (h9 : T.ts.length ≤ 2049) (b : Nat) (ts : List T3) (hts : ts <:+ T.ts) (En : Enc β) (hE : En.flat) (hs : En.sz = 9) (part : Ps α) (proj : β → α) (hpd : Dn part) (X : S → List Own) (I : S → List β → Prop) (s0 : S) (hI0 : I s0 []) (hXb : ∀ s, ∀ o ∈ X s0, ∃ o' ∈ X s, o'.b = o.b) (hXo : ∀ s, (X s).all (fun o => o.T.out) = true) (most : Nat) (fp : FuncId) (cp : List Value) (hpart : ∀ us s l, us <:+ T.ts → l.length + us.length ≤ ts.length → I s l → CallP Tryz.prog fp (PB T b us :: X s) [T.G, AF, NH N] ([.is (.pointer (some ⟨b, 0, none⟩))] ++ cp.map Ty.is) (part us = none) flt (fun z : β × List T3 × S => part us = some (proj z.1, z.2.1) ∧ I z.2.2 (l ++ [z.1])) (fun z => PB T b z.2.1 :: X z.2.2) (fun z => .rep (En.T z.1))) : CallP Tryz.prog Z4Z (PB T b ts :: X s0) [T.G, AF, NH N] [.is (.pointer (some ⟨b, 0, none⟩)), .is (.int .i64 (most : Int)), .is (.func (.func fp) #[] cp.toArray)] (listP most part ts = none) flt (fun z : List β × List T3 × S => listP most part ts = some (z.1.map proj, z.2.1) ∧ I z.2.2 z.1) (fun z => PB T b z.2.1 :: X z.2.2) (fun z => .rep (SlE En (FrS N Z23 En.sz) z.1)) :=
CallP.ofN (N := N) (List.mem_cons_of_mem _ (List.mem_cons_of_mem _ List.mem_cons_self)) (fn := Tryz.f114) Tryz.func114 (n := 27) rfl rfl rfl (fun _ _ => by kernel_rfl) fun E W hNW hb0 => by
 refine vQ ?_
 refine Ja rfl ?_
 refine vP [0, 1, 2] ?_
 refine Jm rfl (Jm rfl ?_)
 refine JO.callPvK (cp := cp) (Lr := []) rfl (hpart ts s0 [] hts (by simp) hI0) rfl (.of_eq (List.append_nil _).symm) qF (.one rfl .nil) (fun hbad => ?_) ?_
 · exact JX.pnI (by rw [Z1S, hbad]; rfl)
 rintro ⟨x1, us1, s1⟩ ⟨hz1, hI1⟩
 refine vD ?_
 try simp only [List.append_nil]
 refine JO.openT (s := 10) rfl (fun p1 hp1 => ?_)
 refine JO.buildE hE (by rw [hs]; exact Z8e) (by rw [hs]; rfl) (by rw [hs]; decide) rfl rfl (fun b11 => ?_)
 refine Ja rfl ?_
 refine vS [0, 1, 2, 7] ?_
 apply yk
 repeat apply yQ
 refine J.loopH (α := List (Cel En) × Option (Nat × List Value) × Nat × List T3 × S) (fun x => [(0, .is (.pointer (some ⟨b, 0, none⟩))), (1, .is (.int .i64 (most : Int))), (2, .is (.func (.func fp) #[] cp.toArray)), (7, .is (sliceO x.2.1 x.1.length x.2.2.1))]) (fun x => ownO x.2.1 Z23 (PB T b x.2.2.2.1 :: X x.2.2.2.2)) (fun x => CelF En x.1) (fun x => x.2.2.2.1 <:+ T.ts ∧ x.1.length + x.2.2.2.1.length ≤ ts.length ∧ Grows Cel.cs En.sz x.1 x.2.1 x.2.2.1 ∧ I x.2.2.2.2 (x.1.map Cel.x) ∧ listP most part ts = listI most part ((x.1.map Cel.x).map proj) x.2.2.2.1) (fun x => x.2.2.2.1.length) ([p1], some (b11, p1.cs), 1, us1, s1) [0, 1, 2, 7] (.cons rfl (.cons rfl (.cons rfl (.cons rfl .nil)))) rfl (fun X w hF => fun w' hk p hp => by rw [List.mem_singleton.1 hp]; exact hF _ List.mem_cons_self w' hk) ⟨(show us1 <:+ ts from (hpd _ _ hz1).1).trans hts, (show 1 + us1.length ≤ ts.length by have : us1.length < ts.length := (hpd _ _ hz1).2; omega), growE p1, (by rw [List.map_singleton, hp1]; exact hI1), (by rw [Z1S, hz1, List.map_singleton, hp1]; rfl)⟩ fun ⟨ps, st, cap, us, s⟩ ⟨hus, hlen, hG, hIs, hP⟩ => ?_
 try dsimp only
 try dsimp only at st
 try dsimp only at cap
 try dsimp only at us
 try dsimp only at s
 try dsimp only at hus
 try dsimp only at hlen
 try dsimp only at hG
 try dsimp only at hIs
 try dsimp only at hP
 refine vQ ?_
 refine Jm rfl ?_
 refine JO.subL (L' := PB T b us :: ownO st Z23 (X s)) Z27.symm ?_
 refine JO.callK (Lr := ownO st Z23 (X s)) (Ze T hc b us hus Z14) rfl (.refl _) qF qA ?_
 intro _ _
 refine vD ?_
 refine JO.subL (L' := ownO st Z23 (PB T b (skT 5 Z14 us) :: X s)) Z27 ?_
 refine vS [0, 1, 2, 7, 13] ?_
 refine yC rfl (fun ht13 => ?_) (fun ht13 => ?_)
 try simp only [yd, yf] at ht13
 apply yK
 refine vN ?_
 apply yk
 have hcm : isT 5 Z14 us = true := ht13
 rw [ZS hcm]
 refine vQ ?_
 refine Jm rfl (Jm rfl (Jm rfl ?_))
 refine JO.subL (L' := (PB T b us.tail :: X s) ++ ownO st Z23 []) Z2r.symm ?_
 refine JO.callPvK (cp := cp) (Lr := ownO st Z23 []) rfl (hpart us.tail s (ps.map Cel.x) (Zm hus) (by have := (Zy hcm).2; rw [List.length_map]; omega) hIs) rfl (.refl _) qF (.one rfl .nil) (fun hbad => ?_) ?_
 · exact JX.pnI (by rw [hP, Z2o hpd.le hcm, hbad]; rfl)
 rintro ⟨x2, us2, s2⟩ ⟨hz2, hI2⟩
 refine vD ?_
 refine JO.subL (L' := ownO st Z23 (PB T b us2 :: X s2)) Z2r ?_
 refine JO.openT (s := 17) rfl (fun p2 hp2 => ?_)
 have hd2 := (hpd _ _ hz2).2
 have hlt := (Zy hcm).2
 have hle9 := hts.length_le
 refine Jq (Z2D hE (by rw [hs]; exact Z8e) (by rw [hs]; rfl) (by rw [hs]; decide) rfl) ?_
 refine JO.apO (ys := [p2]) (by rw [hs]; exact Zbt) Cel.hlen .here hG rfl rfl (srcE p2 Z2e) (by simp) (by show (ps.length + 1) * 112 ≤ 140737488355328; omega) (by show ps.length + 1 ≤ 9223372036854775807; omega) rfl (fun st2 cap2 hG2 => ?_)
 refine Ja rfl ?_
 apply yI
 repeat refine JX.normal_block ?_
 refine JX.roundG (x := (ps, st, cap, us, s)) (ps ++ [p2], st2, cap2, us2, s2) ?_ ?_ [0, 1, 2, 7] ?_ ?_ ?_ ?_
 · exact ⟨(show us2 <:+ us.tail from (hpd _ _ hz2).1).trans (Zm hus), (by show (ps ++ [p2]).length + us2.length ≤ ts.length; rw [List.length_append]; show ps.length + 1 + us2.length ≤ ts.length; have : us2.length < us.tail.length := hd2; omega), hG2, (by rw [List.map_append, List.map_singleton, hp2]; exact hI2), (by rw [hP, Z2o hpd.le hcm, hz2, List.map_append, List.map_singleton, hp2, List.map_append]; rfl)⟩
 · exact (by show us2.length < us.length; have : us2.length < us.tail.length := hd2; omega)
 · exact qS
 · exact qH
 · exact qG
 · exact fun X w hF => fun w' hk => CelF.snoc (hF _ qI w' hk) (hF _ List.mem_cons_self w' hk)
 try simp only [yd, yf] at ht13
 repeat apply yQ
 refine J.exit ?_
 repeat first|refine yH ?_|refine yM rfl ?_|refine yE ?_
 repeat first|apply yX|apply yB
 have hcm : isT 5 Z14 us = false := ht13
 rw [ZV hcm]
 rw [hG.sl.1]
 refine vQ ?_
 refine Jm rfl (Jm rfl (Jq (Zn Z2e rfl) ?_))
 refine Jm rfl (Jq (Z3Y rfl rfl) ?_)
 refine JO.callPK (Lr := _) (Zb (.pointer (some ⟨b, 0, none⟩)) (decide ((ps.length : Int) ≤ (most : Int)))) rfl (Z1l _) Z16 qA (fun hbad => ?_) ?_
 · exact JX.pnI (by rw [hP]; exact Z4p hcm (by rw [List.length_map, List.length_map]; have := of_decide_eq_false hbad; omega))
 intro _ hmo
 refine vD ?_
 refine vS [7] ?_
 refine J.freezeOMW (e := Z23) (sz := En.sz) hNW Cel.hlen hG .here (fun q hq => ?_) rfl (by rw [List.all_cons, hXo]; rfl) ?_
 · rw [List.map_cons] at hq
   rcases List.mem_cons.1 hq with rfl | hq
   · exact ⟨_, List.mem_cons_self, rfl⟩
   · obtain ⟨o, ho, e⟩ := List.mem_map.1 hq
     obtain ⟨o2, ho2, e2⟩ := hXb s o ho
     exact ⟨o2, List.mem_cons_of_mem _ ho2, e2.trans e⟩
 refine vQ ?_
 refine Jm rfl (Ja rfl ?_)
 refine vS [6] ?_
 refine vR ?_
 refine JX.toP ?_
 exact JX.retL1 (Lr := []) (L1 := fun z : List β × List T3 × S => PB T b z.2.1 :: X z.2.2) (R := fun z => .rep (SlE En (FrS N Z23 En.sz) z.1)) rfl (ps.map Cel.x, us, s) ⟨by rw [hP, Z4P hcm, if_pos (by rw [List.length_map, List.length_map]; have := of_decide_eq_true hmo; omega)], hIs⟩ (.of_eq (List.append_nil _).symm) (by rw [List.all_cons, hXo]; rfl) rfl hb0 rfl (Sub.slE hG.sl.2 qI qI (fun X w hf => hf _ qI))
theorem Z8k {α : Type} (N : Nat) (T : Tk) (hc : T.ts.length ≤ T.cap) (h9 : T.ts.length ≤ 2049) (b : Nat) (ts : List T3) (hts : ts <:+ T.ts) (En : Enc α) (hE : En.flat) (hs : En.sz = 9) (part : Ps α) (hpd : Dn part) (most : Nat) (fp : FuncId) (hpart : ∀ us, us <:+ T.ts → us.length ≤ ts.length → CallP Tryz.prog fp [PB T b us] [T.G, AF, NH N] [.is (.pointer (some ⟨b, 0, none⟩))] (part us = none) flt (fun z : α × List T3 => part us = some z) (fun z => [PB T b z.2]) (fun z => .rep (En.T z.1))) :
  CallP Tryz.prog Z4Z [PB T b ts] [T.G, AF, NH N] [.is (.pointer (some ⟨b, 0, none⟩)), .is (.int .i64 (most : Int)), .is (fv fp)] (listP most part ts = none) flt (fun z : List α × List T3 => listP most part ts = some z) (fun z => [PB T b z.2]) (fun z => .rep (SlE En (FrS N Z23 En.sz) z.1)) :=
 (Z7P (S := Unit) N T hc h9 b ts hts En hE hs part id hpd (fun _ => []) (fun _ _ => True) () trivial (fun _ _ h => by cases h) (fun _ => rfl) most fp [] fun us s l hus hu _ => (hpart us hus qM).map id (fun z => (z.1, z.2, ())) (fun z hz => ⟨hz, trivial⟩) (fun z _ => rfl) (fun z _ => rfl)).map id (fun z => (z.1, z.2.1)) (fun z hz => by have := hz.1; rwa [List.map_id] at this) (fun _ _ => rfl) (fun _ _ => rfl)
theorem Z8p {α β S : Type} (N : Nat) (T : Tk) (hc : T.ts.length ≤ T.cap) (h9 : T.ts.length ≤ 2049) (b : Nat) (ts : List T3) (hts : ts <:+ T.ts) (En : Enc β) (hE : En.flat) (hs : En.sz = 9) (part : Ps α) (proj : β → α) (hpd : Dn part) (X : S → List Own) (I : S → List β → Prop) (s0 : S) (hI0 : I s0 []) (hXb : ∀ s, ∀ o ∈ X s0, ∃ o' ∈ X s, o'.b = o.b) (hXo : ∀ s, (X s).all (fun o => o.T.out) = true) (most : Nat) (fp : FuncId) (cp : List Value) (hpart : ∀ us s l, us <:+ T.ts → l.length + us.length ≤ ts.length → I s l → CallP Tryz.prog fp (PB T b us :: X s) [T.G, AF, NH N] ([.is (.pointer (some ⟨b, 0, none⟩))] ++ cp.map Ty.is) (part us = none) flt (fun z : β × List T3 × S => part us = some (proj z.1, z.2.1) ∧ I z.2.2 (l ++ [z.1])) (fun z => PB T b z.2.1 :: X z.2.2) (fun z => .rep (En.T z.1))) : CallP Tryz.prog Z5b (PB T b ts :: X s0) [T.G, AF, NH N] [.is (.pointer (some ⟨b, 0, none⟩)), .is (.int .i64 (most : Int)), .is (.func (.func fp) #[] cp.toArray)] (listP most part ts = none) flt (fun z : List β × List T3 × S => listP most part ts = some (z.1.map proj, z.2.1) ∧ I z.2.2 z.1) (fun z => PB T b z.2.1 :: X z.2.2) (fun z => .rep (SlE En (FrS N Z2j En.sz) z.1)) :=
CallP.ofN (N := N) (List.mem_cons_of_mem _ (List.mem_cons_of_mem _ List.mem_cons_self)) (fn := Tryz.f119) Tryz.func119 (n := 27) rfl rfl rfl (fun _ _ => by kernel_rfl) fun E W hNW hb0 => by
 refine vQ ?_
 refine Ja rfl ?_
 refine vP [0, 1, 2] ?_
 refine Jm rfl (Jm rfl ?_)
 refine JO.callPvK (cp := cp) (Lr := []) rfl (hpart ts s0 [] hts (by simp) hI0) rfl (.of_eq (List.append_nil _).symm) qF (.one rfl .nil) (fun hbad => ?_) ?_
 · exact JX.pnI (by rw [Z1S, hbad]; rfl)
 rintro ⟨x1, us1, s1⟩ ⟨hz1, hI1⟩
 refine vD ?_
 try simp only [List.append_nil]
 refine JO.openT (s := 10) rfl (fun p1 hp1 => ?_)
 refine JO.buildE hE (by rw [hs]; exact Z8R) (by rw [hs]; rfl) (by rw [hs]; decide) rfl rfl (fun b11 => ?_)
 refine Ja rfl ?_
 refine vS [0, 1, 2, 7] ?_
 apply yk
 repeat apply yQ
 refine J.loopH (α := List (Cel En) × Option (Nat × List Value) × Nat × List T3 × S) (fun x => [(0, .is (.pointer (some ⟨b, 0, none⟩))), (1, .is (.int .i64 (most : Int))), (2, .is (.func (.func fp) #[] cp.toArray)), (7, .is (sliceO x.2.1 x.1.length x.2.2.1))]) (fun x => ownO x.2.1 Z2j (PB T b x.2.2.2.1 :: X x.2.2.2.2)) (fun x => CelF En x.1) (fun x => x.2.2.2.1 <:+ T.ts ∧ x.1.length + x.2.2.2.1.length ≤ ts.length ∧ Grows Cel.cs En.sz x.1 x.2.1 x.2.2.1 ∧ I x.2.2.2.2 (x.1.map Cel.x) ∧ listP most part ts = listI most part ((x.1.map Cel.x).map proj) x.2.2.2.1) (fun x => x.2.2.2.1.length) ([p1], some (b11, p1.cs), 1, us1, s1) [0, 1, 2, 7] (.cons rfl (.cons rfl (.cons rfl (.cons rfl .nil)))) rfl (fun X w hF => fun w' hk p hp => by rw [List.mem_singleton.1 hp]; exact hF _ List.mem_cons_self w' hk) ⟨(show us1 <:+ ts from (hpd _ _ hz1).1).trans hts, (show 1 + us1.length ≤ ts.length by have : us1.length < ts.length := (hpd _ _ hz1).2; omega), growE p1, (by rw [List.map_singleton, hp1]; exact hI1), (by rw [Z1S, hz1, List.map_singleton, hp1]; rfl)⟩ fun ⟨ps, st, cap, us, s⟩ ⟨hus, hlen, hG, hIs, hP⟩ => ?_
 try dsimp only
 try dsimp only at st
 try dsimp only at cap
 try dsimp only at us
 try dsimp only at s
 try dsimp only at hus
 try dsimp only at hlen
 try dsimp only at hG
 try dsimp only at hIs
 try dsimp only at hP
 refine vQ ?_
 refine Jm rfl ?_
 refine JO.subL (L' := PB T b us :: ownO st Z2j (X s)) Z27.symm ?_
 refine JO.callK (Lr := ownO st Z2j (X s)) (Ze T hc b us hus Z14) rfl (.refl _) qF qA ?_
 intro _ _
 refine vD ?_
 refine JO.subL (L' := ownO st Z2j (PB T b (skT 5 Z14 us) :: X s)) Z27 ?_
 refine vS [0, 1, 2, 7, 13] ?_
 refine yC rfl (fun ht13 => ?_) (fun ht13 => ?_)
 try simp only [yd, yf] at ht13
 apply yK
 refine vN ?_
 apply yk
 have hcm : isT 5 Z14 us = true := ht13
 rw [ZS hcm]
 refine vQ ?_
 refine Jm rfl (Jm rfl (Jm rfl ?_))
 refine JO.subL (L' := (PB T b us.tail :: X s) ++ ownO st Z2j []) Z2r.symm ?_
 refine JO.callPvK (cp := cp) (Lr := ownO st Z2j []) rfl (hpart us.tail s (ps.map Cel.x) (Zm hus) (by have := (Zy hcm).2; rw [List.length_map]; omega) hIs) rfl (.refl _) qF (.one rfl .nil) (fun hbad => ?_) ?_
 · exact JX.pnI (by rw [hP, Z2o hpd.le hcm, hbad]; rfl)
 rintro ⟨x2, us2, s2⟩ ⟨hz2, hI2⟩
 refine vD ?_
 refine JO.subL (L' := ownO st Z2j (PB T b us2 :: X s2)) Z2r ?_
 refine JO.openT (s := 17) rfl (fun p2 hp2 => ?_)
 have hd2 := (hpd _ _ hz2).2
 have hlt := (Zy hcm).2
 have hle9 := hts.length_le
 refine Jq (Z2D hE (by rw [hs]; exact Z8R) (by rw [hs]; rfl) (by rw [hs]; decide) rfl) ?_
 refine JO.apO (ys := [p2]) (by rw [hs]; exact Zcf) Cel.hlen .here hG rfl rfl (srcE p2 Z26) (by simp) (by show (ps.length + 1) * 112 ≤ 140737488355328; omega) (by show ps.length + 1 ≤ 9223372036854775807; omega) rfl (fun st2 cap2 hG2 => ?_)
 refine Ja rfl ?_
 apply yI
 repeat refine JX.normal_block ?_
 refine JX.roundG (x := (ps, st, cap, us, s)) (ps ++ [p2], st2, cap2, us2, s2) ?_ ?_ [0, 1, 2, 7] ?_ ?_ ?_ ?_
 · exact ⟨(show us2 <:+ us.tail from (hpd _ _ hz2).1).trans (Zm hus), (by show (ps ++ [p2]).length + us2.length ≤ ts.length; rw [List.length_append]; show ps.length + 1 + us2.length ≤ ts.length; have : us2.length < us.tail.length := hd2; omega), hG2, (by rw [List.map_append, List.map_singleton, hp2]; exact hI2), (by rw [hP, Z2o hpd.le hcm, hz2, List.map_append, List.map_singleton, hp2, List.map_append]; rfl)⟩
 · exact (by show us2.length < us.length; have : us2.length < us.tail.length := hd2; omega)
 · exact qS
 · exact qH
 · exact qG
 · exact fun X w hF => fun w' hk => CelF.snoc (hF _ qI w' hk) (hF _ List.mem_cons_self w' hk)
 try simp only [yd, yf] at ht13
 repeat apply yQ
 refine J.exit ?_
 repeat first|refine yH ?_|refine yM rfl ?_|refine yE ?_
 repeat first|apply yX|apply yB
 have hcm : isT 5 Z14 us = false := ht13
 rw [ZV hcm]
 rw [hG.sl.1]
 refine vQ ?_
 refine Jm rfl (Jm rfl (Jq (Zn Z26 rfl) ?_))
 refine Jm rfl (Jq (Z3Y rfl rfl) ?_)
 refine JO.callPK (Lr := _) (Zb (.pointer (some ⟨b, 0, none⟩)) (decide ((ps.length : Int) ≤ (most : Int)))) rfl (Z1l _) Z16 qA (fun hbad => ?_) ?_
 · exact JX.pnI (by rw [hP]; exact Z4p hcm (by rw [List.length_map, List.length_map]; have := of_decide_eq_false hbad; omega))
 intro _ hmo
 refine vD ?_
 refine vS [7] ?_
 refine J.freezeOMW (e := Z2j) (sz := En.sz) hNW Cel.hlen hG .here (fun q hq => ?_) rfl (by rw [List.all_cons, hXo]; rfl) ?_
 · rw [List.map_cons] at hq
   rcases List.mem_cons.1 hq with rfl | hq
   · exact ⟨_, List.mem_cons_self, rfl⟩
   · obtain ⟨o, ho, e⟩ := List.mem_map.1 hq
     obtain ⟨o2, ho2, e2⟩ := hXb s o ho
     exact ⟨o2, List.mem_cons_of_mem _ ho2, e2.trans e⟩
 refine vQ ?_
 refine Jm rfl (Ja rfl ?_)
 refine vS [6] ?_
 refine vR ?_
 refine JX.toP ?_
 exact JX.retL1 (Lr := []) (L1 := fun z : List β × List T3 × S => PB T b z.2.1 :: X z.2.2) (R := fun z => .rep (SlE En (FrS N Z2j En.sz) z.1)) rfl (ps.map Cel.x, us, s) ⟨by rw [hP, Z4P hcm, if_pos (by rw [List.length_map, List.length_map]; have := of_decide_eq_true hmo; omega)], hIs⟩ (.of_eq (List.append_nil _).symm) (by rw [List.all_cons, hXo]; rfl) rfl hb0 rfl (Sub.slE hG.sl.2 qI qI (fun X w hf => hf _ qI))
theorem Z59 {α : Type} (N : Nat) (T : Tk) (hc : T.ts.length ≤ T.cap) (h9 : T.ts.length ≤ 2049) (b : Nat) (ts : List T3) (hts : ts <:+ T.ts) (En : Enc α) (hE : En.flat) (hs : En.sz = 9) (part : Ps α) (hpd : Dn part) (most : Nat) (fp : FuncId) (hpart : ∀ us, us <:+ T.ts → us.length ≤ ts.length → CallP Tryz.prog fp [PB T b us] [T.G, AF, NH N] [.is (.pointer (some ⟨b, 0, none⟩))] (part us = none) flt (fun z : α × List T3 => part us = some z) (fun z => [PB T b z.2]) (fun z => .rep (En.T z.1))) :
  CallP Tryz.prog Z5b [PB T b ts] [T.G, AF, NH N] [.is (.pointer (some ⟨b, 0, none⟩)), .is (.int .i64 (most : Int)), .is (fv fp)] (listP most part ts = none) flt (fun z : List α × List T3 => listP most part ts = some z) (fun z => [PB T b z.2]) (fun z => .rep (SlE En (FrS N Z2j En.sz) z.1)) :=
 (Z8p (S := Unit) N T hc h9 b ts hts En hE hs part id hpd (fun _ => []) (fun _ _ => True) () trivial (fun _ _ h => by cases h) (fun _ => rfl) most fp [] fun us s l hus hu _ => (hpart us hus qM).map id (fun z => (z.1, z.2, ())) (fun z hz => ⟨hz, trivial⟩) (fun z _ => rfl) (fun z _ => rfl)).map id (fun z => (z.1, z.2.1)) (fun z hz => by have := hz.1; rwa [List.map_id] at this) (fun _ _ => rfl) (fun _ _ => rfl)
theorem Z6Z {α β S : Type} (N : Nat) (T : Tk) (hc : T.ts.length ≤ T.cap) (h9 : T.ts.length ≤ 2049) (b : Nat) (ts : List T3) (hts : ts <:+ T.ts) (En : Enc β) (hE : En.flat) (hs : En.sz = 4) (part : Ps α) (proj : β → α) (hpd : Dn part) (X : S → List Own) (I : S → List β → Prop) (s0 : S) (hI0 : I s0 []) (hXb : ∀ s, ∀ o ∈ X s0, ∃ o' ∈ X s, o'.b = o.b) (hXo : ∀ s, (X s).all (fun o => o.T.out) = true) (most : Nat) (fp : FuncId) (cp : List Value) (hpart : ∀ us s l, us <:+ T.ts → l.length + us.length ≤ ts.length → I s l → CallP Tryz.prog fp (PB T b us :: X s) [T.G, AF, NH N] ([.is (.pointer (some ⟨b, 0, none⟩))] ++ cp.map Ty.is) (part us = none) flt (fun z : β × List T3 × S => part us = some (proj z.1, z.2.1) ∧ I z.2.2 (l ++ [z.1])) (fun z => PB T b z.2.1 :: X z.2.2) (fun z => .rep (En.T z.1))) : CallP Tryz.prog Z4v (PB T b ts :: X s0) [T.G, AF, NH N] [.is (.pointer (some ⟨b, 0, none⟩)), .is (.int .i64 (most : Int)), .is (.func (.func fp) #[] cp.toArray)] (listP most part ts = none) flt (fun z : List β × List T3 × S => listP most part ts = some (z.1.map proj, z.2.1) ∧ I z.2.2 z.1) (fun z => PB T b z.2.1 :: X z.2.2) (fun z => .rep (SlE En (FrS N ZX En.sz) z.1)) :=
CallP.ofN (N := N) (List.mem_cons_of_mem _ (List.mem_cons_of_mem _ List.mem_cons_self)) (fn := Tryz.f143) Tryz.func143 (n := 27) rfl rfl rfl (fun _ _ => by kernel_rfl) fun E W hNW hb0 => by
 refine vQ ?_
 refine Ja rfl ?_
 refine vP [0, 1, 2] ?_
 refine Jm rfl (Jm rfl ?_)
 refine JO.callPvK (cp := cp) (Lr := []) rfl (hpart ts s0 [] hts (by simp) hI0) rfl (.of_eq (List.append_nil _).symm) qF (.one rfl .nil) (fun hbad => ?_) ?_
 · exact JX.pnI (by rw [Z1S, hbad]; rfl)
 rintro ⟨x1, us1, s1⟩ ⟨hz1, hI1⟩
 refine vD ?_
 try simp only [List.append_nil]
 refine JO.openT (s := 10) rfl (fun p1 hp1 => ?_)
 refine JO.buildE hE (by rw [hs]; exact Z6z) (by rw [hs]; rfl) (by rw [hs]; decide) rfl rfl (fun b11 => ?_)
 refine Ja rfl ?_
 refine vS [0, 1, 2, 7] ?_
 apply yk
 repeat apply yQ
 refine J.loopH (α := List (Cel En) × Option (Nat × List Value) × Nat × List T3 × S) (fun x => [(0, .is (.pointer (some ⟨b, 0, none⟩))), (1, .is (.int .i64 (most : Int))), (2, .is (.func (.func fp) #[] cp.toArray)), (7, .is (sliceO x.2.1 x.1.length x.2.2.1))]) (fun x => ownO x.2.1 ZX (PB T b x.2.2.2.1 :: X x.2.2.2.2)) (fun x => CelF En x.1) (fun x => x.2.2.2.1 <:+ T.ts ∧ x.1.length + x.2.2.2.1.length ≤ ts.length ∧ Grows Cel.cs En.sz x.1 x.2.1 x.2.2.1 ∧ I x.2.2.2.2 (x.1.map Cel.x) ∧ listP most part ts = listI most part ((x.1.map Cel.x).map proj) x.2.2.2.1) (fun x => x.2.2.2.1.length) ([p1], some (b11, p1.cs), 1, us1, s1) [0, 1, 2, 7] (.cons rfl (.cons rfl (.cons rfl (.cons rfl .nil)))) rfl (fun X w hF => fun w' hk p hp => by rw [List.mem_singleton.1 hp]; exact hF _ List.mem_cons_self w' hk) ⟨(show us1 <:+ ts from (hpd _ _ hz1).1).trans hts, (show 1 + us1.length ≤ ts.length by have : us1.length < ts.length := (hpd _ _ hz1).2; omega), growE p1, (by rw [List.map_singleton, hp1]; exact hI1), (by rw [Z1S, hz1, List.map_singleton, hp1]; rfl)⟩ fun ⟨ps, st, cap, us, s⟩ ⟨hus, hlen, hG, hIs, hP⟩ => ?_
 try dsimp only
 try dsimp only at st
 try dsimp only at cap
 try dsimp only at us
 try dsimp only at s
 try dsimp only at hus
 try dsimp only at hlen
 try dsimp only at hG
 try dsimp only at hIs
 try dsimp only at hP
 refine vQ ?_
 refine Jm rfl ?_
 refine JO.subL (L' := PB T b us :: ownO st ZX (X s)) Z27.symm ?_
 refine JO.callK (Lr := ownO st ZX (X s)) (Ze T hc b us hus Z14) rfl (.refl _) qF qA ?_
 intro _ _
 refine vD ?_
 refine JO.subL (L' := ownO st ZX (PB T b (skT 5 Z14 us) :: X s)) Z27 ?_
 refine vS [0, 1, 2, 7, 13] ?_
 refine yC rfl (fun ht13 => ?_) (fun ht13 => ?_)
 try simp only [yd, yf] at ht13
 apply yK
 refine vN ?_
 apply yk
 have hcm : isT 5 Z14 us = true := ht13
 rw [ZS hcm]
 refine vQ ?_
 refine Jm rfl (Jm rfl (Jm rfl ?_))
 refine JO.subL (L' := (PB T b us.tail :: X s) ++ ownO st ZX []) Z2r.symm ?_
 refine JO.callPvK (cp := cp) (Lr := ownO st ZX []) rfl (hpart us.tail s (ps.map Cel.x) (Zm hus) (by have := (Zy hcm).2; rw [List.length_map]; omega) hIs) rfl (.refl _) qF (.one rfl .nil) (fun hbad => ?_) ?_
 · exact JX.pnI (by rw [hP, Z2o hpd.le hcm, hbad]; rfl)
 rintro ⟨x2, us2, s2⟩ ⟨hz2, hI2⟩
 refine vD ?_
 refine JO.subL (L' := ownO st ZX (PB T b us2 :: X s2)) Z2r ?_
 refine JO.openT (s := 17) rfl (fun p2 hp2 => ?_)
 have hd2 := (hpd _ _ hz2).2
 have hlt := (Zy hcm).2
 have hle9 := hts.length_le
 refine Jq (Z2D hE (by rw [hs]; exact Z6z) (by rw [hs]; rfl) (by rw [hs]; decide) rfl) ?_
 refine JO.apO (ys := [p2]) (by rw [hs]; exact Zaz) Cel.hlen .here hG rfl rfl (srcE p2 Z2u) (by simp) (by show (ps.length + 1) * 32 ≤ 140737488355328; omega) (by show ps.length + 1 ≤ 9223372036854775807; omega) rfl (fun st2 cap2 hG2 => ?_)
 refine Ja rfl ?_
 apply yI
 repeat refine JX.normal_block ?_
 refine JX.roundG (x := (ps, st, cap, us, s)) (ps ++ [p2], st2, cap2, us2, s2) ?_ ?_ [0, 1, 2, 7] ?_ ?_ ?_ ?_
 · exact ⟨(show us2 <:+ us.tail from (hpd _ _ hz2).1).trans (Zm hus), (by show (ps ++ [p2]).length + us2.length ≤ ts.length; rw [List.length_append]; show ps.length + 1 + us2.length ≤ ts.length; have : us2.length < us.tail.length := hd2; omega), hG2, (by rw [List.map_append, List.map_singleton, hp2]; exact hI2), (by rw [hP, Z2o hpd.le hcm, hz2, List.map_append, List.map_singleton, hp2, List.map_append]; rfl)⟩
 · exact (by show us2.length < us.length; have : us2.length < us.tail.length := hd2; omega)
 · exact qS
 · exact qH
 · exact qG
 · exact fun X w hF => fun w' hk => CelF.snoc (hF _ qI w' hk) (hF _ List.mem_cons_self w' hk)
 try simp only [yd, yf] at ht13
 repeat apply yQ
 refine J.exit ?_
 repeat first|refine yH ?_|refine yM rfl ?_|refine yE ?_
 repeat first|apply yX|apply yB
 have hcm : isT 5 Z14 us = false := ht13
 rw [ZV hcm]
 rw [hG.sl.1]
 refine vQ ?_
 refine Jm rfl (Jm rfl (Jq (Zn Z2u rfl) ?_))
 refine Jm rfl (Jq (Z3Y rfl rfl) ?_)
 refine JO.callPK (Lr := _) (Zb (.pointer (some ⟨b, 0, none⟩)) (decide ((ps.length : Int) ≤ (most : Int)))) rfl (Z1l _) Z16 qA (fun hbad => ?_) ?_
 · exact JX.pnI (by rw [hP]; exact Z4p hcm (by rw [List.length_map, List.length_map]; have := of_decide_eq_false hbad; omega))
 intro _ hmo
 refine vD ?_
 refine vS [7] ?_
 refine J.freezeOMW (e := ZX) (sz := En.sz) hNW Cel.hlen hG .here (fun q hq => ?_) rfl (by rw [List.all_cons, hXo]; rfl) ?_
 · rw [List.map_cons] at hq
   rcases List.mem_cons.1 hq with rfl | hq
   · exact ⟨_, List.mem_cons_self, rfl⟩
   · obtain ⟨o, ho, e⟩ := List.mem_map.1 hq
     obtain ⟨o2, ho2, e2⟩ := hXb s o ho
     exact ⟨o2, List.mem_cons_of_mem _ ho2, e2.trans e⟩
 refine vQ ?_
 refine Jm rfl (Ja rfl ?_)
 refine vS [6] ?_
 refine vR ?_
 refine JX.toP ?_
 exact JX.retL1 (Lr := []) (L1 := fun z : List β × List T3 × S => PB T b z.2.1 :: X z.2.2) (R := fun z => .rep (SlE En (FrS N ZX En.sz) z.1)) rfl (ps.map Cel.x, us, s) ⟨by rw [hP, Z4P hcm, if_pos (by rw [List.length_map, List.length_map]; have := of_decide_eq_true hmo; omega)], hIs⟩ (.of_eq (List.append_nil _).symm) (by rw [List.all_cons, hXo]; rfl) rfl hb0 rfl (Sub.slE hG.sl.2 qI qI (fun X w hf => hf _ qI))
theorem Z74 {α : Type} (N : Nat) (T : Tk) (hc : T.ts.length ≤ T.cap) (h9 : T.ts.length ≤ 2049) (b : Nat) (ts : List T3) (hts : ts <:+ T.ts) (En : Enc α) (hE : En.flat) (hs : En.sz = 4) (part : Ps α) (hpd : Dn part) (most : Nat) (fp : FuncId) (hpart : ∀ us, us <:+ T.ts → us.length ≤ ts.length → CallP Tryz.prog fp [PB T b us] [T.G, AF, NH N] [.is (.pointer (some ⟨b, 0, none⟩))] (part us = none) flt (fun z : α × List T3 => part us = some z) (fun z => [PB T b z.2]) (fun z => .rep (En.T z.1))) :
  CallP Tryz.prog Z4v [PB T b ts] [T.G, AF, NH N] [.is (.pointer (some ⟨b, 0, none⟩)), .is (.int .i64 (most : Int)), .is (fv fp)] (listP most part ts = none) flt (fun z : List α × List T3 => listP most part ts = some z) (fun z => [PB T b z.2]) (fun z => .rep (SlE En (FrS N ZX En.sz) z.1)) :=
 (Z6Z (S := Unit) N T hc h9 b ts hts En hE hs part id hpd (fun _ => []) (fun _ _ => True) () trivial (fun _ _ h => by cases h) (fun _ => rfl) most fp [] fun us s l hus hu _ => (hpart us hus qM).map id (fun z => (z.1, z.2, ())) (fun z hz => ⟨hz, trivial⟩) (fun z _ => rfl) (fun z _ => rfl)).map id (fun z => (z.1, z.2.1)) (fun z hz => by have := hz.1; rwa [List.map_id] at this) (fun _ _ => rfl) (fun _ _ => rfl)
theorem Z5r {α β S : Type} (N : Nat) (T : Tk) (hc : T.ts.length ≤ T.cap) (h9 : T.ts.length ≤ 2049) (b : Nat) (ts : List T3) (hts : ts <:+ T.ts) (En : Enc β) (hE : En.flat) (hs : En.sz = 1) (part : Ps α) (proj : β → α) (hpd : Dn part) (X : S → List Own) (I : S → List β → Prop) (s0 : S) (hI0 : I s0 []) (hXb : ∀ s, ∀ o ∈ X s0, ∃ o' ∈ X s, o'.b = o.b) (hXo : ∀ s, (X s).all (fun o => o.T.out) = true) (most : Nat) (fp : FuncId) (cp : List Value) (hpart : ∀ us s l, us <:+ T.ts → l.length + us.length ≤ ts.length → I s l → CallP Tryz.prog fp (PB T b us :: X s) [T.G, AF, NH N] ([.is (.pointer (some ⟨b, 0, none⟩))] ++ cp.map Ty.is) (part us = none) flt (fun z : β × List T3 × S => part us = some (proj z.1, z.2.1) ∧ I z.2.2 (l ++ [z.1])) (fun z => PB T b z.2.1 :: X z.2.2) (fun z => .rep (En.T z.1))) : CallP Tryz.prog Z5s (PB T b ts :: X s0) [T.G, AF, NH N] [.is (.pointer (some ⟨b, 0, none⟩)), .is (.int .i64 (most : Int)), .is (.func (.func fp) #[] cp.toArray)] (listP most part ts = none) flt (fun z : List β × List T3 × S => listP most part ts = some (z.1.map proj, z.2.1) ∧ I z.2.2 z.1) (fun z => PB T b z.2.1 :: X z.2.2) (fun z => .rep (SlE En (FrS N Zw En.sz) z.1)) :=
CallP.ofN (N := N) (List.mem_cons_of_mem _ (List.mem_cons_of_mem _ List.mem_cons_self)) (fn := Tryz.f121) Tryz.func121 (n := 27) rfl rfl rfl (fun _ _ => by kernel_rfl) fun E W hNW hb0 => by
 refine vQ ?_
 refine Ja rfl ?_
 refine vP [0, 1, 2] ?_
 refine Jm rfl (Jm rfl ?_)
 refine JO.callPvK (cp := cp) (Lr := []) rfl (hpart ts s0 [] hts (by simp) hI0) rfl (.of_eq (List.append_nil _).symm) qF (.one rfl .nil) (fun hbad => ?_) ?_
 · exact JX.pnI (by rw [Z1S, hbad]; rfl)
 rintro ⟨x1, us1, s1⟩ ⟨hz1, hI1⟩
 refine vD ?_
 try simp only [List.append_nil]
 refine JO.openT (s := 10) rfl (fun p1 hp1 => ?_)
 refine JO.buildE hE (by rw [hs]; exact Z1c) (by rw [hs]; rfl) (by rw [hs]; decide) rfl rfl (fun b11 => ?_)
 refine Ja rfl ?_
 refine vS [0, 1, 2, 7] ?_
 apply yk
 repeat apply yQ
 refine J.loopH (α := List (Cel En) × Option (Nat × List Value) × Nat × List T3 × S) (fun x => [(0, .is (.pointer (some ⟨b, 0, none⟩))), (1, .is (.int .i64 (most : Int))), (2, .is (.func (.func fp) #[] cp.toArray)), (7, .is (sliceO x.2.1 x.1.length x.2.2.1))]) (fun x => ownO x.2.1 Zw (PB T b x.2.2.2.1 :: X x.2.2.2.2)) (fun x => CelF En x.1) (fun x => x.2.2.2.1 <:+ T.ts ∧ x.1.length + x.2.2.2.1.length ≤ ts.length ∧ Grows Cel.cs En.sz x.1 x.2.1 x.2.2.1 ∧ I x.2.2.2.2 (x.1.map Cel.x) ∧ listP most part ts = listI most part ((x.1.map Cel.x).map proj) x.2.2.2.1) (fun x => x.2.2.2.1.length) ([p1], some (b11, p1.cs), 1, us1, s1) [0, 1, 2, 7] (.cons rfl (.cons rfl (.cons rfl (.cons rfl .nil)))) rfl (fun X w hF => fun w' hk p hp => by rw [List.mem_singleton.1 hp]; exact hF _ List.mem_cons_self w' hk) ⟨(show us1 <:+ ts from (hpd _ _ hz1).1).trans hts, (show 1 + us1.length ≤ ts.length by have : us1.length < ts.length := (hpd _ _ hz1).2; omega), growE p1, (by rw [List.map_singleton, hp1]; exact hI1), (by rw [Z1S, hz1, List.map_singleton, hp1]; rfl)⟩ fun ⟨ps, st, cap, us, s⟩ ⟨hus, hlen, hG, hIs, hP⟩ => ?_
 try dsimp only
 try dsimp only at st
 try dsimp only at cap
 try dsimp only at us
 try dsimp only at s
 try dsimp only at hus
 try dsimp only at hlen
 try dsimp only at hG
 try dsimp only at hIs
 try dsimp only at hP
 refine vQ ?_
 refine Jm rfl ?_
 refine JO.subL (L' := PB T b us :: ownO st Zw (X s)) Z27.symm ?_
 refine JO.callK (Lr := ownO st Zw (X s)) (Ze T hc b us hus Z14) rfl (.refl _) qF qA ?_
 intro _ _
 refine vD ?_
 refine JO.subL (L' := ownO st Zw (PB T b (skT 5 Z14 us) :: X s)) Z27 ?_
 refine vS [0, 1, 2, 7, 13] ?_
 refine yC rfl (fun ht13 => ?_) (fun ht13 => ?_)
 try simp only [yd, yf] at ht13
 apply yK
 refine vN ?_
 apply yk
 have hcm : isT 5 Z14 us = true := ht13
 rw [ZS hcm]
 refine vQ ?_
 refine Jm rfl (Jm rfl (Jm rfl ?_))
 refine JO.subL (L' := (PB T b us.tail :: X s) ++ ownO st Zw []) Z2r.symm ?_
 refine JO.callPvK (cp := cp) (Lr := ownO st Zw []) rfl (hpart us.tail s (ps.map Cel.x) (Zm hus) (by have := (Zy hcm).2; rw [List.length_map]; omega) hIs) rfl (.refl _) qF (.one rfl .nil) (fun hbad => ?_) ?_
 · exact JX.pnI (by rw [hP, Z2o hpd.le hcm, hbad]; rfl)
 rintro ⟨x2, us2, s2⟩ ⟨hz2, hI2⟩
 refine vD ?_
 refine JO.subL (L' := ownO st Zw (PB T b us2 :: X s2)) Z2r ?_
 refine JO.openT (s := 17) rfl (fun p2 hp2 => ?_)
 have hd2 := (hpd _ _ hz2).2
 have hlt := (Zy hcm).2
 have hle9 := hts.length_le
 refine Jq (Z2D hE (by rw [hs]; exact Z1c) (by rw [hs]; rfl) (by rw [hs]; decide) rfl) ?_
 refine JO.apO (ys := [p2]) (by rw [hs]; exact Z2m) Cel.hlen .here hG rfl rfl (srcE p2 ZW) (by simp) (by show (ps.length + 1) * 16 ≤ 140737488355328; omega) (by show ps.length + 1 ≤ 9223372036854775807; omega) rfl (fun st2 cap2 hG2 => ?_)
 refine Ja rfl ?_
 apply yI
 repeat refine JX.normal_block ?_
 refine JX.roundG (x := (ps, st, cap, us, s)) (ps ++ [p2], st2, cap2, us2, s2) ?_ ?_ [0, 1, 2, 7] ?_ ?_ ?_ ?_
 · exact ⟨(show us2 <:+ us.tail from (hpd _ _ hz2).1).trans (Zm hus), (by show (ps ++ [p2]).length + us2.length ≤ ts.length; rw [List.length_append]; show ps.length + 1 + us2.length ≤ ts.length; have : us2.length < us.tail.length := hd2; omega), hG2, (by rw [List.map_append, List.map_singleton, hp2]; exact hI2), (by rw [hP, Z2o hpd.le hcm, hz2, List.map_append, List.map_singleton, hp2, List.map_append]; rfl)⟩
 · exact (by show us2.length < us.length; have : us2.length < us.tail.length := hd2; omega)
 · exact qS
 · exact qH
 · exact qG
 · exact fun X w hF => fun w' hk => CelF.snoc (hF _ qI w' hk) (hF _ List.mem_cons_self w' hk)
 try simp only [yd, yf] at ht13
 repeat apply yQ
 refine J.exit ?_
 repeat first|refine yH ?_|refine yM rfl ?_|refine yE ?_
 repeat first|apply yX|apply yB
 have hcm : isT 5 Z14 us = false := ht13
 rw [ZV hcm]
 rw [hG.sl.1]
 refine vQ ?_
 refine Jm rfl (Jm rfl (Jq (Zn ZW rfl) ?_))
 refine Jm rfl (Jq (Z3Y rfl rfl) ?_)
 refine JO.callPK (Lr := _) (Zb (.pointer (some ⟨b, 0, none⟩)) (decide ((ps.length : Int) ≤ (most : Int)))) rfl (Z1l _) Z16 qA (fun hbad => ?_) ?_
 · exact JX.pnI (by rw [hP]; exact Z4p hcm (by rw [List.length_map, List.length_map]; have := of_decide_eq_false hbad; omega))
 intro _ hmo
 refine vD ?_
 refine vS [7] ?_
 refine J.freezeOMW (e := Zw) (sz := En.sz) hNW Cel.hlen hG .here (fun q hq => ?_) rfl (by rw [List.all_cons, hXo]; rfl) ?_
 · rw [List.map_cons] at hq
   rcases List.mem_cons.1 hq with rfl | hq
   · exact ⟨_, List.mem_cons_self, rfl⟩
   · obtain ⟨o, ho, e⟩ := List.mem_map.1 hq
     obtain ⟨o2, ho2, e2⟩ := hXb s o ho
     exact ⟨o2, List.mem_cons_of_mem _ ho2, e2.trans e⟩
 refine vQ ?_
 refine Jm rfl (Ja rfl ?_)
 refine vS [6] ?_
 refine vR ?_
 refine JX.toP ?_
 exact JX.retL1 (Lr := []) (L1 := fun z : List β × List T3 × S => PB T b z.2.1 :: X z.2.2) (R := fun z => .rep (SlE En (FrS N Zw En.sz) z.1)) rfl (ps.map Cel.x, us, s) ⟨by rw [hP, Z4P hcm, if_pos (by rw [List.length_map, List.length_map]; have := of_decide_eq_true hmo; omega)], hIs⟩ (.of_eq (List.append_nil _).symm) (by rw [List.all_cons, hXo]; rfl) rfl hb0 rfl (Sub.slE hG.sl.2 qI qI (fun X w hf => hf _ qI))
theorem Z95 {α : Type} (N : Nat) (T : Tk) (hc : T.ts.length ≤ T.cap) (h9 : T.ts.length ≤ 2049) (b : Nat) (ts : List T3) (hts : ts <:+ T.ts) (En : Enc α) (hE : En.flat) (hs : En.sz = 1) (part : Ps α) (hpd : Dn part) (most : Nat) (fp : FuncId) (hpart : ∀ us, us <:+ T.ts → us.length ≤ ts.length → CallP Tryz.prog fp [PB T b us] [T.G, AF, NH N] [.is (.pointer (some ⟨b, 0, none⟩))] (part us = none) flt (fun z : α × List T3 => part us = some z) (fun z => [PB T b z.2]) (fun z => .rep (En.T z.1))) :
  CallP Tryz.prog Z5s [PB T b ts] [T.G, AF, NH N] [.is (.pointer (some ⟨b, 0, none⟩)), .is (.int .i64 (most : Int)), .is (fv fp)] (listP most part ts = none) flt (fun z : List α × List T3 => listP most part ts = some z) (fun z => [PB T b z.2]) (fun z => .rep (SlE En (FrS N Zw En.sz) z.1)) :=
 (Z5r (S := Unit) N T hc h9 b ts hts En hE hs part id hpd (fun _ => []) (fun _ _ => True) () trivial (fun _ _ h => by cases h) (fun _ => rfl) most fp [] fun us s l hus hu _ => (hpart us hus qM).map id (fun z => (z.1, z.2, ())) (fun z hz => ⟨hz, trivial⟩) (fun z _ => rfl) (fun z _ => rfl)).map id (fun z => (z.1, z.2.1)) (fun z hz => by have := hz.1; rwa [List.map_id] at this) (fun _ _ => rfl) (fun _ _ => rfl)
theorem Z6F {α β S : Type} (N : Nat) (T : Tk) (hc : T.ts.length ≤ T.cap) (h9 : T.ts.length ≤ 2049) (b : Nat) (ts : List T3) (hts : ts <:+ T.ts) (En : Enc β) (hE : En.flat) (hs : En.sz = 1) (part : Ps α) (proj : β → α) (hpd : Dn part) (X : S → List Own) (I : S → List β → Prop) (s0 : S) (hI0 : I s0 []) (hXb : ∀ s, ∀ o ∈ X s0, ∃ o' ∈ X s, o'.b = o.b) (hXo : ∀ s, (X s).all (fun o => o.T.out) = true) (most : Nat) (fp : FuncId) (cp : List Value) (hpart : ∀ us s l, us <:+ T.ts → l.length + us.length ≤ ts.length → I s l → CallP Tryz.prog fp (PB T b us :: X s) [T.G, AF, NH N] ([.is (.pointer (some ⟨b, 0, none⟩))] ++ cp.map Ty.is) (part us = none) flt (fun z : β × List T3 × S => part us = some (proj z.1, z.2.1) ∧ I z.2.2 (l ++ [z.1])) (fun z => PB T b z.2.1 :: X z.2.2) (fun z => .rep (En.T z.1))) : CallP Tryz.prog Z4h (PB T b ts :: X s0) [T.G, AF, NH N] [.is (.pointer (some ⟨b, 0, none⟩)), .is (.int .i64 (most : Int)), .is (.func (.func fp) #[] cp.toArray)] (listP most part ts = none) flt (fun z : List β × List T3 × S => listP most part ts = some (z.1.map proj, z.2.1) ∧ I z.2.2 z.1) (fun z => PB T b z.2.1 :: X z.2.2) (fun z => .rep (SlE En (FrS N Z1y En.sz) z.1)) :=
CallP.ofN (N := N) (List.mem_cons_of_mem _ (List.mem_cons_of_mem _ List.mem_cons_self)) (fn := Tryz.f110) Tryz.func110 (n := 27) rfl rfl rfl (fun _ _ => by kernel_rfl) fun E W hNW hb0 => by
 refine vQ ?_
 refine Ja rfl ?_
 refine vP [0, 1, 2] ?_
 refine Jm rfl (Jm rfl ?_)
 refine JO.callPvK (cp := cp) (Lr := []) rfl (hpart ts s0 [] hts (by simp) hI0) rfl (.of_eq (List.append_nil _).symm) qF (.one rfl .nil) (fun hbad => ?_) ?_
 · exact JX.pnI (by rw [Z1S, hbad]; rfl)
 rintro ⟨x1, us1, s1⟩ ⟨hz1, hI1⟩
 refine vD ?_
 try simp only [List.append_nil]
 refine JO.openT (s := 10) rfl (fun p1 hp1 => ?_)
 refine JO.buildE hE (by rw [hs]; exact Z4y) (by rw [hs]; rfl) (by rw [hs]; decide) rfl rfl (fun b11 => ?_)
 refine Ja rfl ?_
 refine vS [0, 1, 2, 7] ?_
 apply yk
 repeat apply yQ
 refine J.loopH (α := List (Cel En) × Option (Nat × List Value) × Nat × List T3 × S) (fun x => [(0, .is (.pointer (some ⟨b, 0, none⟩))), (1, .is (.int .i64 (most : Int))), (2, .is (.func (.func fp) #[] cp.toArray)), (7, .is (sliceO x.2.1 x.1.length x.2.2.1))]) (fun x => ownO x.2.1 Z1y (PB T b x.2.2.2.1 :: X x.2.2.2.2)) (fun x => CelF En x.1) (fun x => x.2.2.2.1 <:+ T.ts ∧ x.1.length + x.2.2.2.1.length ≤ ts.length ∧ Grows Cel.cs En.sz x.1 x.2.1 x.2.2.1 ∧ I x.2.2.2.2 (x.1.map Cel.x) ∧ listP most part ts = listI most part ((x.1.map Cel.x).map proj) x.2.2.2.1) (fun x => x.2.2.2.1.length) ([p1], some (b11, p1.cs), 1, us1, s1) [0, 1, 2, 7] (.cons rfl (.cons rfl (.cons rfl (.cons rfl .nil)))) rfl (fun X w hF => fun w' hk p hp => by rw [List.mem_singleton.1 hp]; exact hF _ List.mem_cons_self w' hk) ⟨(show us1 <:+ ts from (hpd _ _ hz1).1).trans hts, (show 1 + us1.length ≤ ts.length by have : us1.length < ts.length := (hpd _ _ hz1).2; omega), growE p1, (by rw [List.map_singleton, hp1]; exact hI1), (by rw [Z1S, hz1, List.map_singleton, hp1]; rfl)⟩ fun ⟨ps, st, cap, us, s⟩ ⟨hus, hlen, hG, hIs, hP⟩ => ?_
 try dsimp only
 try dsimp only at st
 try dsimp only at cap
 try dsimp only at us
 try dsimp only at s
 try dsimp only at hus
 try dsimp only at hlen
 try dsimp only at hG
 try dsimp only at hIs
 try dsimp only at hP
 refine vQ ?_
 refine Jm rfl ?_
 refine JO.subL (L' := PB T b us :: ownO st Z1y (X s)) Z27.symm ?_
 refine JO.callK (Lr := ownO st Z1y (X s)) (Ze T hc b us hus Z14) rfl (.refl _) qF qA ?_
 intro _ _
 refine vD ?_
 refine JO.subL (L' := ownO st Z1y (PB T b (skT 5 Z14 us) :: X s)) Z27 ?_
 refine vS [0, 1, 2, 7, 13] ?_
 refine yC rfl (fun ht13 => ?_) (fun ht13 => ?_)
 try simp only [yd, yf] at ht13
 apply yK
 refine vN ?_
 apply yk
 have hcm : isT 5 Z14 us = true := ht13
 rw [ZS hcm]
 refine vQ ?_
 refine Jm rfl (Jm rfl (Jm rfl ?_))
 refine JO.subL (L' := (PB T b us.tail :: X s) ++ ownO st Z1y []) Z2r.symm ?_
 refine JO.callPvK (cp := cp) (Lr := ownO st Z1y []) rfl (hpart us.tail s (ps.map Cel.x) (Zm hus) (by have := (Zy hcm).2; rw [List.length_map]; omega) hIs) rfl (.refl _) qF (.one rfl .nil) (fun hbad => ?_) ?_
 · exact JX.pnI (by rw [hP, Z2o hpd.le hcm, hbad]; rfl)
 rintro ⟨x2, us2, s2⟩ ⟨hz2, hI2⟩
 refine vD ?_
 refine JO.subL (L' := ownO st Z1y (PB T b us2 :: X s2)) Z2r ?_
 refine JO.openT (s := 17) rfl (fun p2 hp2 => ?_)
 have hd2 := (hpd _ _ hz2).2
 have hlt := (Zy hcm).2
 have hle9 := hts.length_le
 refine Jq (Z2D hE (by rw [hs]; exact Z4y) (by rw [hs]; rfl) (by rw [hs]; decide) rfl) ?_
 refine JO.apO (ys := [p2]) (by rw [hs]; exact Z9V) Cel.hlen .here hG rfl rfl (srcE p2 Z1t) (by simp) (by show (ps.length + 1) * 24 ≤ 140737488355328; omega) (by show ps.length + 1 ≤ 9223372036854775807; omega) rfl (fun st2 cap2 hG2 => ?_)
 refine Ja rfl ?_
 apply yI
 repeat refine JX.normal_block ?_
 refine JX.roundG (x := (ps, st, cap, us, s)) (ps ++ [p2], st2, cap2, us2, s2) ?_ ?_ [0, 1, 2, 7] ?_ ?_ ?_ ?_
 · exact ⟨(show us2 <:+ us.tail from (hpd _ _ hz2).1).trans (Zm hus), (by show (ps ++ [p2]).length + us2.length ≤ ts.length; rw [List.length_append]; show ps.length + 1 + us2.length ≤ ts.length; have : us2.length < us.tail.length := hd2; omega), hG2, (by rw [List.map_append, List.map_singleton, hp2]; exact hI2), (by rw [hP, Z2o hpd.le hcm, hz2, List.map_append, List.map_singleton, hp2, List.map_append]; rfl)⟩
 · exact (by show us2.length < us.length; have : us2.length < us.tail.length := hd2; omega)
 · exact qS
 · exact qH
 · exact qG
 · exact fun X w hF => fun w' hk => CelF.snoc (hF _ qI w' hk) (hF _ List.mem_cons_self w' hk)
 try simp only [yd, yf] at ht13
 repeat apply yQ
 refine J.exit ?_
 repeat first|refine yH ?_|refine yM rfl ?_|refine yE ?_
 repeat first|apply yX|apply yB
 have hcm : isT 5 Z14 us = false := ht13
 rw [ZV hcm]
 rw [hG.sl.1]
 refine vQ ?_
 refine Jm rfl (Jm rfl (Jq (Zn Z1t rfl) ?_))
 refine Jm rfl (Jq (Z3Y rfl rfl) ?_)
 refine JO.callPK (Lr := _) (Zb (.pointer (some ⟨b, 0, none⟩)) (decide ((ps.length : Int) ≤ (most : Int)))) rfl (Z1l _) Z16 qA (fun hbad => ?_) ?_
 · exact JX.pnI (by rw [hP]; exact Z4p hcm (by rw [List.length_map, List.length_map]; have := of_decide_eq_false hbad; omega))
 intro _ hmo
 refine vD ?_
 refine vS [7] ?_
 refine J.freezeOMW (e := Z1y) (sz := En.sz) hNW Cel.hlen hG .here (fun q hq => ?_) rfl (by rw [List.all_cons, hXo]; rfl) ?_
 · rw [List.map_cons] at hq
   rcases List.mem_cons.1 hq with rfl | hq
   · exact ⟨_, List.mem_cons_self, rfl⟩
   · obtain ⟨o, ho, e⟩ := List.mem_map.1 hq
     obtain ⟨o2, ho2, e2⟩ := hXb s o ho
     exact ⟨o2, List.mem_cons_of_mem _ ho2, e2.trans e⟩
 refine vQ ?_
 refine Jm rfl (Ja rfl ?_)
 refine vS [6] ?_
 refine vR ?_
 refine JX.toP ?_
 exact JX.retL1 (Lr := []) (L1 := fun z : List β × List T3 × S => PB T b z.2.1 :: X z.2.2) (R := fun z => .rep (SlE En (FrS N Z1y En.sz) z.1)) rfl (ps.map Cel.x, us, s) ⟨by rw [hP, Z4P hcm, if_pos (by rw [List.length_map, List.length_map]; have := of_decide_eq_true hmo; omega)], hIs⟩ (.of_eq (List.append_nil _).symm) (by rw [List.all_cons, hXo]; rfl) rfl hb0 rfl (Sub.slE hG.sl.2 qI qI (fun X w hf => hf _ qI))
theorem Z4l {α : Type} (N : Nat) (T : Tk) (hc : T.ts.length ≤ T.cap) (h9 : T.ts.length ≤ 2049) (b : Nat) (ts : List T3) (hts : ts <:+ T.ts) (En : Enc α) (hE : En.flat) (hs : En.sz = 1) (part : Ps α) (hpd : Dn part) (most : Nat) (fp : FuncId) (hpart : ∀ us, us <:+ T.ts → us.length ≤ ts.length → CallP Tryz.prog fp [PB T b us] [T.G, AF, NH N] [.is (.pointer (some ⟨b, 0, none⟩))] (part us = none) flt (fun z : α × List T3 => part us = some z) (fun z => [PB T b z.2]) (fun z => .rep (En.T z.1))) :
  CallP Tryz.prog Z4h [PB T b ts] [T.G, AF, NH N] [.is (.pointer (some ⟨b, 0, none⟩)), .is (.int .i64 (most : Int)), .is (fv fp)] (listP most part ts = none) flt (fun z : List α × List T3 => listP most part ts = some z) (fun z => [PB T b z.2]) (fun z => .rep (SlE En (FrS N Z1y En.sz) z.1)) :=
 (Z6F (S := Unit) N T hc h9 b ts hts En hE hs part id hpd (fun _ => []) (fun _ _ => True) () trivial (fun _ _ h => by cases h) (fun _ => rfl) most fp [] fun us s l hus hu _ => (hpart us hus qM).map id (fun z => (z.1, z.2, ())) (fun z hz => ⟨hz, trivial⟩) (fun z _ => rfl) (fun z _ => rfl)).map id (fun z => (z.1, z.2.1)) (fun z hz => by have := hz.1; rwa [List.map_id] at this) (fun _ _ => rfl) (fun _ _ => rfl)
theorem Z70 {α : Type} (N : Nat) (T : Tk) (hc : T.ts.length ≤ T.cap) (h9 : T.ts.length ≤ 2049) (b : Nat) (ts : List T3) (hts : ts <:+ T.ts) (En : Enc α) (hE : En.flat) (hs : En.sz = 8) (part : Ps α) (hpd : Dn part) (fp : FuncId) (hpart : ∀ us, us <:+ T.ts → us.length ≤ ts.length → CallP Tryz.prog fp [PB T b us] [T.G, AF, NH N] [.is (.pointer (some ⟨b, 0, none⟩))] (part us = none) flt (fun z : α × List T3 => part us = some z) (fun z => [PB T b z.2]) (fun z => .rep (En.T z.1))) : CallP Tryz.prog Z76 [PB T b ts] [T.G, AF, NH N] [.is (.pointer (some ⟨b, 0, none⟩)), .is (fv fp)] (withinP part ts = none) flt (fun z : List α × List T3 => withinP part ts = some z) (fun z => [PB T b z.2]) (fun z => .rep (SlE En (FrS N Z6 En.sz) z.1)) :=
CallP.of (fn := Tryz.f112) Tryz.func112 (n := 18) rfl rfl rfl (fun _ _ => by kernel_rfl) fun E W hb0 => by
 refine vQ ?_
 refine Ja rfl ?_
 refine vP [0, 1] ?_
 refine Jm rfl (Jm rfl ?_)
 refine JO.callK (Lr := []) (Ze T hc b ts hts s_lp) rfl (.refl _) qF qA ?_
 intro _ _
 refine vD ?_
 refine JO.callPK (Lr := _) (Zb (.pointer (some ⟨b, 0, none⟩)) (isT 5 s_lp ts)) rfl (Z1l _) Z16 qA (fun hbad => ?_) ?_
 · exact JX.pnI (by unfold withinP; rw [wantN hbad]; rfl)
 intro _ hlp
 refine vD ?_
 refine vS [0, 1] ?_
 rw [ZS hlp]
 refine vQ ?_
 refine Jm rfl (Jm rfl ?_)
 refine JO.callPK (Lr := []) (Z51 N T hc h9 b ts.tail (Zm hts) En hE hs part hpd 16 fp (fun us hus hu => hpart us hus (by have := (Zy hlp).2; omega))) rfl (.refl _) qF qA (fun hbad => ?_) ?_
 · exact JX.pnI (by unfold withinP; rw [wantY hlp]; simp only [Option.bind_some]; rw [hbad]; rfl)
 intro z hz
 have hzs : z.2 <:+ T.ts := (Z2p hpd.le 16 _ _ hz).trans (Zm hts)
 refine vD ?_
 refine Ja rfl ?_
 refine vP [0, 5] ?_
 refine Jm rfl (Jm rfl ?_)
 refine JO.callK (Lr := []) (Ze T hc b z.2 hzs s_rp) rfl (.refl _) qF qA ?_
 intro _ _
 refine vD ?_
 refine JO.callPK (Lr := _) (Zb (.pointer (some ⟨b, 0, none⟩)) (isT 5 s_rp z.2)) rfl (Z1l _) Z16 qA (fun hbad => ?_) ?_
 · exact JX.pnI (by unfold withinP; rw [wantY hlp]; simp only [Option.bind_some]; rw [hz]; simp only [Option.bind_some]; rw [wantN hbad]; rfl)
 intro _ hrp
 refine vD ?_
 refine vS [5] ?_
 rw [ZS hrp]
 refine vQ ?_
 refine Jm rfl (Ja rfl ?_)
 refine vS [4] ?_
 refine vR ?_
 refine JX.toP ?_
 exact JX.retL1 (Lr := []) (L1 := fun z : List α × List T3 => [PB T b z.2]) (R := fun z => .rep (SlE En (FrS N Z6 En.sz) z.1)) rfl (z.1, z.2.tail) (by unfold withinP; rw [wantY hlp]; simp only [Option.bind_some]; rw [hz]; simp only [Option.bind_some]; rw [wantY hrp]; rfl) (.refl _) rfl rfl hb0 rfl (Sub.refl _)
theorem Z6l {α : Type} (N : Nat) (T : Tk) (hc : T.ts.length ≤ T.cap) (h9 : T.ts.length ≤ 2049) (b : Nat) (ts : List T3) (hts : ts <:+ T.ts) (En : Enc α) (hE : En.flat) (hs : En.sz = 4) (part : Ps α) (hpd : Dn part) (fp : FuncId) (hpart : ∀ us, us <:+ T.ts → us.length ≤ ts.length → CallP Tryz.prog fp [PB T b us] [T.G, AF, NH N] [.is (.pointer (some ⟨b, 0, none⟩))] (part us = none) flt (fun z : α × List T3 => part us = some z) (fun z => [PB T b z.2]) (fun z => .rep (En.T z.1))) : CallP Tryz.prog Z6k [PB T b ts] [T.G, AF, NH N] [.is (.pointer (some ⟨b, 0, none⟩)), .is (fv fp)] (withinP part ts = none) flt (fun z : List α × List T3 => withinP part ts = some z) (fun z => [PB T b z.2]) (fun z => .rep (SlE En (FrS N ZX En.sz) z.1)) :=
CallP.of (fn := Tryz.f106) Tryz.func106 (n := 18) rfl rfl rfl (fun _ _ => by kernel_rfl) fun E W hb0 => by
 refine vQ ?_
 refine Ja rfl ?_
 refine vP [0, 1] ?_
 refine Jm rfl (Jm rfl ?_)
 refine JO.callK (Lr := []) (Ze T hc b ts hts s_lp) rfl (.refl _) qF qA ?_
 intro _ _
 refine vD ?_
 refine JO.callPK (Lr := _) (Zb (.pointer (some ⟨b, 0, none⟩)) (isT 5 s_lp ts)) rfl (Z1l _) Z16 qA (fun hbad => ?_) ?_
 · exact JX.pnI (by unfold withinP; rw [wantN hbad]; rfl)
 intro _ hlp
 refine vD ?_
 refine vS [0, 1] ?_
 rw [ZS hlp]
 refine vQ ?_
 refine Jm rfl (Jm rfl ?_)
 refine JO.callPK (Lr := []) (Z74 N T hc h9 b ts.tail (Zm hts) En hE hs part hpd 16 fp (fun us hus hu => hpart us hus (by have := (Zy hlp).2; omega))) rfl (.refl _) qF qA (fun hbad => ?_) ?_
 · exact JX.pnI (by unfold withinP; rw [wantY hlp]; simp only [Option.bind_some]; rw [hbad]; rfl)
 intro z hz
 have hzs : z.2 <:+ T.ts := (Z2p hpd.le 16 _ _ hz).trans (Zm hts)
 refine vD ?_
 refine Ja rfl ?_
 refine vP [0, 5] ?_
 refine Jm rfl (Jm rfl ?_)
 refine JO.callK (Lr := []) (Ze T hc b z.2 hzs s_rp) rfl (.refl _) qF qA ?_
 intro _ _
 refine vD ?_
 refine JO.callPK (Lr := _) (Zb (.pointer (some ⟨b, 0, none⟩)) (isT 5 s_rp z.2)) rfl (Z1l _) Z16 qA (fun hbad => ?_) ?_
 · exact JX.pnI (by unfold withinP; rw [wantY hlp]; simp only [Option.bind_some]; rw [hz]; simp only [Option.bind_some]; rw [wantN hbad]; rfl)
 intro _ hrp
 refine vD ?_
 refine vS [5] ?_
 rw [ZS hrp]
 refine vQ ?_
 refine Jm rfl (Ja rfl ?_)
 refine vS [4] ?_
 refine vR ?_
 refine JX.toP ?_
 exact JX.retL1 (Lr := []) (L1 := fun z : List α × List T3 => [PB T b z.2]) (R := fun z => .rep (SlE En (FrS N ZX En.sz) z.1)) rfl (z.1, z.2.tail) (by unfold withinP; rw [wantY hlp]; simp only [Option.bind_some]; rw [hz]; simp only [Option.bind_some]; rw [wantY hrp]; rfl) (.refl _) rfl rfl hb0 rfl (Sub.refl _)
theorem Z7N {α : Type} (N : Nat) (T : Tk) (hc : T.ts.length ≤ T.cap) (h9 : T.ts.length ≤ 2049) (b : Nat) (ts : List T3) (hts : ts <:+ T.ts) (En : Enc α) (hE : En.flat) (hs : En.sz = 1) (part : Ps α) (hpd : Dn part) (fp : FuncId) (hpart : ∀ us, us <:+ T.ts → us.length ≤ ts.length → CallP Tryz.prog fp [PB T b us] [T.G, AF, NH N] [.is (.pointer (some ⟨b, 0, none⟩))] (part us = none) flt (fun z : α × List T3 => part us = some z) (fun z => [PB T b z.2]) (fun z => .rep (En.T z.1))) : CallP Tryz.prog Z7F [PB T b ts] [T.G, AF, NH N] [.is (.pointer (some ⟨b, 0, none⟩)), .is (fv fp)] (withinP part ts = none) flt (fun z : List α × List T3 => withinP part ts = some z) (fun z => [PB T b z.2]) (fun z => .rep (SlE En (FrS N Zw En.sz) z.1)) :=
CallP.of (fn := Tryz.f109) Tryz.func109 (n := 18) rfl rfl rfl (fun _ _ => by kernel_rfl) fun E W hb0 => by
 refine vQ ?_
 refine Ja rfl ?_
 refine vP [0, 1] ?_
 refine Jm rfl (Jm rfl ?_)
 refine JO.callK (Lr := []) (Ze T hc b ts hts s_lp) rfl (.refl _) qF qA ?_
 intro _ _
 refine vD ?_
 refine JO.callPK (Lr := _) (Zb (.pointer (some ⟨b, 0, none⟩)) (isT 5 s_lp ts)) rfl (Z1l _) Z16 qA (fun hbad => ?_) ?_
 · exact JX.pnI (by unfold withinP; rw [wantN hbad]; rfl)
 intro _ hlp
 refine vD ?_
 refine vS [0, 1] ?_
 rw [ZS hlp]
 refine vQ ?_
 refine Jm rfl (Jm rfl ?_)
 refine JO.callPK (Lr := []) (Z95 N T hc h9 b ts.tail (Zm hts) En hE hs part hpd 16 fp (fun us hus hu => hpart us hus (by have := (Zy hlp).2; omega))) rfl (.refl _) qF qA (fun hbad => ?_) ?_
 · exact JX.pnI (by unfold withinP; rw [wantY hlp]; simp only [Option.bind_some]; rw [hbad]; rfl)
 intro z hz
 have hzs : z.2 <:+ T.ts := (Z2p hpd.le 16 _ _ hz).trans (Zm hts)
 refine vD ?_
 refine Ja rfl ?_
 refine vP [0, 5] ?_
 refine Jm rfl (Jm rfl ?_)
 refine JO.callK (Lr := []) (Ze T hc b z.2 hzs s_rp) rfl (.refl _) qF qA ?_
 intro _ _
 refine vD ?_
 refine JO.callPK (Lr := _) (Zb (.pointer (some ⟨b, 0, none⟩)) (isT 5 s_rp z.2)) rfl (Z1l _) Z16 qA (fun hbad => ?_) ?_
 · exact JX.pnI (by unfold withinP; rw [wantY hlp]; simp only [Option.bind_some]; rw [hz]; simp only [Option.bind_some]; rw [wantN hbad]; rfl)
 intro _ hrp
 refine vD ?_
 refine vS [5] ?_
 rw [ZS hrp]
 refine vQ ?_
 refine Jm rfl (Ja rfl ?_)
 refine vS [4] ?_
 refine vR ?_
 refine JX.toP ?_
 exact JX.retL1 (Lr := []) (L1 := fun z : List α × List T3 => [PB T b z.2]) (R := fun z => .rep (SlE En (FrS N Zw En.sz) z.1)) rfl (z.1, z.2.tail) (by unfold withinP; rw [wantY hlp]; simp only [Option.bind_some]; rw [hz]; simp only [Option.bind_some]; rw [wantY hrp]; rfl) (.refl _) rfl rfl hb0 rfl (Sub.refl _)
end Go.Proofs.YtbedigkncjbggaaGreatDoor
