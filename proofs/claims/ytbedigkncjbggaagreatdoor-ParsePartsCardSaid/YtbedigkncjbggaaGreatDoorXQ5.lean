/- The parser: lists. No condition. -/
import Derived.Test.YtbedigkncjbggaaGreatDoorXQ4
set_option maxRecDepth 20000
namespace Go.Proofs.YtbedigkncjbggaaGreatDoor
open Go Go.Vc
open Go.Pz
theorem Z6W {α β S : Type} (N : Nat) (T : Tk) (hc : T.ts.length ≤ T.cap) (h9 : T.ts.length ≤ 2049) (b : Nat) (ts : List T3) (hts : ts <:+ T.ts) (En : Enc β) (hE : En.flat) (hs : En.sz = 8) (part : Ps α) (proj : β → α) (hpd : Dn part) (X : S → List Own) (I : S → List β → Prop) (s0 : S) (hI0 : I s0 []) (hXb : ∀ s, ∀ o ∈ X s0, ∃ o' ∈ X s, o'.b = o.b) (hXo : ∀ s, (X s).all (fun o => o.T.out) = true) (most : Nat) (fp : FuncId) (cp : List Value) (hpart : ∀ us s l, us <:+ T.ts → l.length + us.length ≤ ts.length → I s l → CallP Tryz.prog fp (PB T b us :: X s) [T.G, AF, NH N] ([.is (.pointer (some ⟨b, 0, none⟩))] ++ cp.map Ty.is) (part us = none) flt (fun z : β × List T3 × S => part us = some (proj z.1, z.2.1) ∧ I z.2.2 (l ++ [z.1])) (fun z => PB T b z.2.1 :: X z.2.2) (fun z => .rep (En.T z.1))) : CallP Tryz.prog Z4g (PB T b ts :: X s0) [T.G, AF, NH N] [.is (.pointer (some ⟨b, 0, none⟩)), .is (.int .i64 (most : Int)), .is (.func (.func fp) #[] cp.toArray)] (listP most part ts = none) flt (fun z : List β × List T3 × S => listP most part ts = some (z.1.map proj, z.2.1) ∧ I z.2.2 z.1) (fun z => PB T b z.2.1 :: X z.2.2) (fun z => .rep (SlE En (FrS N Z6 En.sz) z.1)) :=
CallP.ofN (N := N) (List.mem_cons_of_mem _ (List.mem_cons_of_mem _ List.mem_cons_self)) (fn := Tryz.f118) Tryz.func118 (n := 27) rfl rfl rfl (fun _ _ => by kernel_rfl) fun E W hNW hb0 => by
  repeat apply Sq
  apply Pn
  refine Jt (Z2 rfl) rfl ?_
  apply Ni
  repeat first | apply Nx | apply Nb
  refine Sl [0, 1, 2] (.cons rfl (.cons rfl (.cons rfl .nil))) ?_
  repeat apply Sq
  apply Pn
  refine Jt (Z0 rfl) rfl ?_
  refine Jt (Z0 rfl) rfl ?_
  refine JO.callPvK (cp := cp) (Lr := []) rfl (hpart ts s0 [] hts (by simp) hI0) rfl (.of_eq (List.append_nil _).symm) (fun F hF => by repeat (first | (rcases Mc.1 hF with rfl | hF; · (repeat first | exact Mh | apply Mt)) | (cases hF; done))) (.one rfl .nil) (fun hbad => ?_) ?_
  · exact JX.pnI (by rw [Z1E, hbad]; rfl)
  rintro ⟨x1, us1, s1⟩ ⟨hz1, hI1⟩
  try dsimp only [nA, cA]
  try simp only [List.append_nil]
  refine JO.openT (s := 10) rfl (fun p1 hp1 => ?_)
  refine JO.buildE hE (by rw [hs]; exact ZL) (by rw [hs]; rfl) (by rw [hs]; decide) rfl rfl (fun b11 => ?_)
  refine Jt (Z2 rfl) rfl ?_
  apply Ni
  repeat first | apply Nx | apply Nb
  refine Sl [0, 1, 2, 7] (.cons rfl (.cons rfl (.cons rfl (.cons rfl .nil)))) ?_
  repeat apply Sq
  apply Bk
  repeat apply Sq
  refine J.loopH (α := List (Cel En) × Option (Nat × List Value) × Nat × List T3 × S) (fun x => [(0, .is (.pointer (some ⟨b, 0, none⟩))), (1, .is (.int .i64 (most : Int))), (2, .is (.func (.func fp) #[] cp.toArray)), (7, .is (sliceO x.2.1 x.1.length x.2.2.1))]) (fun x => ownO x.2.1 Z6 (PB T b x.2.2.2.1 :: X x.2.2.2.2)) (fun x => CelF En x.1) (fun x => x.2.2.2.1 <:+ T.ts ∧ x.1.length + x.2.2.2.1.length ≤ ts.length ∧ Grows Cel.cs En.sz x.1 x.2.1 x.2.2.1 ∧ I x.2.2.2.2 (x.1.map Cel.x) ∧ listP most part ts = listI most part ((x.1.map Cel.x).map proj) x.2.2.2.1) (fun x => x.2.2.2.1.length) ([p1], some (b11, p1.cs), 1, us1, s1) [0, 1, 2, 7] (.cons rfl (.cons rfl (.cons rfl (.cons rfl .nil)))) rfl (fun X w hF => fun w' hk p hp => by rw [List.mem_singleton.1 hp]; exact hF _ List.mem_cons_self w' hk) ⟨(show us1 <:+ ts from (hpd _ _ hz1).1).trans hts, (show 1 + us1.length ≤ ts.length by have : us1.length < ts.length := (hpd _ _ hz1).2; omega), growE p1, (by rw [List.map_singleton, hp1]; exact hI1), (by rw [Z1E, hz1, List.map_singleton, hp1]; rfl)⟩ fun ⟨ps, st, cap, us, s⟩ ⟨hus, hlen, hG, hIs, hP⟩ => ?_
  try dsimp only
  try dsimp only at st
  try dsimp only at cap
  try dsimp only at us
  try dsimp only at s
  try dsimp only at hus
  try dsimp only at hlen
  try dsimp only at hG
  try dsimp only at hIs
  try dsimp only at hP
  repeat apply Sq
  apply Pn
  refine Jt (Z0 rfl) rfl ?_
  refine JO.subL (L' := PB T b us :: ownO st Z6 (X s)) Z1R.symm ?_
  refine JO.callK (Lr := ownO st Z6 (X s)) (Z9 T hc b us hus ZV) rfl (.refl _) (fun F hF => by repeat (first | (rcases Mc.1 hF with rfl | hF; · (repeat first | exact Mh | apply Mt)) | (cases hF; done))) (.one rfl (.one rfl .nil)) ?_
  intro _ _
  try dsimp only [nA, cA]
  refine JO.subL (L' := ownO st Z6 (PB T b (skT 5 ZV us) :: X s)) Z1R ?_
  apply Ni
  repeat first | apply Nx | apply Nb
  refine Sl [0, 1, 2, 7, 13] (.cons rfl (.cons rfl (.cons rfl (.cons rfl (.cons rfl .nil))))) ?_
  repeat apply Sq
  refine Cd rfl (fun ht13 => ?_) (fun ht13 => ?_)
  ·
    try simp only [dT, dF] at ht13
    apply Sk
    repeat first | apply Nx | apply Nb
    repeat apply Sq
    apply Bk
    have hcm : isT 5 ZV us = true := ht13
    rw [ZO hcm]
    repeat apply Sq
    apply Pn
    refine Jt (Z0 rfl) rfl ?_
    refine Jt (Z0 rfl) rfl ?_
    refine Jt (Z0 rfl) rfl ?_
    refine JO.subL (L' := (PB T b us.tail :: X s) ++ ownO st Z6 []) Z25.symm ?_
    refine JO.callPvK (cp := cp) (Lr := ownO st Z6 []) rfl (hpart us.tail s (ps.map Cel.x) (Zi hus) (by have := (Zr hcm).2; rw [List.length_map]; omega) hIs) rfl (.refl _) (fun F hF => by repeat (first | (rcases Mc.1 hF with rfl | hF; · (repeat first | exact Mh | apply Mt)) | (cases hF; done))) (.one rfl .nil) (fun hbad => ?_) ?_
    · exact JX.pnI (by rw [hP, Z23 hpd.le hcm, hbad]; rfl)
    rintro ⟨x2, us2, s2⟩ ⟨hz2, hI2⟩
    try dsimp only [nA, cA]
    refine JO.subL (L' := ownO st Z6 (PB T b us2 :: X s2)) Z25 ?_
    refine JO.openT (s := 17) rfl (fun p2 hp2 => ?_)
    have hd2 := (hpd _ _ hz2).2
    have hlt := (Zr hcm).2
    have hle9 := hts.length_le
    refine Jt (Z2h hE (by rw [hs]; exact ZL) (by rw [hs]; rfl) (by rw [hs]; decide) rfl) rfl ?_
    refine JO.apO (ys := [p2]) (by rw [hs]; exact Z1c) Cel.hlen .here hG rfl rfl (srcE p2 Zn) (by simp) (by show (ps.length + 1) * 104 ≤ 140737488355328; omega) (by show ps.length + 1 ≤ 9223372036854775807; omega) rfl (fun st2 cap2 hG2 => ?_)
    refine Jt (Z2 rfl) rfl ?_
    apply Ni
    repeat refine JX.normal_block ?_
    refine JX.roundG (x := (ps, st, cap, us, s)) (ps ++ [p2], st2, cap2, us2, s2) ?_ ?_ [0, 1, 2, 7] ?_ ?_ ?_ ?_
    · exact ⟨(show us2 <:+ us.tail from (hpd _ _ hz2).1).trans (Zi hus), (by show (ps ++ [p2]).length + us2.length ≤ ts.length; rw [List.length_append]; show ps.length + 1 + us2.length ≤ ts.length; have : us2.length < us.tail.length := hd2; omega), hG2, (by rw [List.map_append, List.map_singleton, hp2]; exact hI2), (by rw [hP, Z23 hpd.le hcm, hz2, List.map_append, List.map_singleton, hp2, List.map_append]; rfl)⟩
    · exact (by show us2.length < us.length; have : us2.length < us.tail.length := hd2; omega)
    · exact (.cons rfl (.cons rfl (.cons rfl (.cons rfl .nil))))
    · repeat (first | exact .all | exact .nil | refine Has.own (by repeat first | exact .here | apply Tl.past | apply Tl.there) ?_ | refine Has.cons (by repeat (first | exact .here | apply Pk.past | apply Pk.there)) ?_)
    · exact fun G hG => by repeat (first | exact hG | refine List.mem_cons_of_mem _ ?_)
    · exact fun X w hF => fun w' hk => CelF.snoc (hF _ (by repeat first | exact Mh | apply Mt) w' hk) (hF _ List.mem_cons_self w' hk)
  ·
    try simp only [dT, dF] at ht13
    repeat apply Sq
    refine J.exit ?_
    repeat first | refine Ht ?_ | refine Ms rfl ?_ | refine Ep ?_
    repeat first | apply Nx | apply Nb
    have hcm : isT 5 ZV us = false := ht13
    rw [ZQ hcm]
    rw [hG.sl.1]
    repeat apply Sq
    apply Pn
    refine Jt (Z0 rfl) rfl ?_
    refine Jt (Z0 rfl) rfl ?_
    refine Jt (Zq Zn rfl) rfl ?_
    refine Jt (Z0 rfl) rfl ?_
    refine Jt (Z31 rfl rfl) rfl ?_
    refine JO.callPK (Lr := _) (Z7 (.pointer (some ⟨b, 0, none⟩)) (decide ((ps.length : Int) ≤ (most : Int)))) rfl (Z1a _) Z10 (.one rfl (.one rfl .nil)) (fun hbad => ?_) ?_
    · exact JX.pnI (by rw [hP]; exact Z3K hcm (by rw [List.length_map, List.length_map]; have := of_decide_eq_false hbad; omega))
    intro _ hmo
    try dsimp only [nA, cA]
    apply Ni
    repeat first | apply Nx | apply Nb
    refine Sl [7] (.cons rfl .nil) ?_
    refine J.freezeOMW (e := Z6) (sz := En.sz) hNW Cel.hlen hG .here (fun q hq => ?_) rfl (by rw [List.all_cons, hXo]; rfl) ?_
    · rw [List.map_cons] at hq
      rcases List.mem_cons.1 hq with rfl | hq
      · exact ⟨_, List.mem_cons_self, rfl⟩
      · obtain ⟨o, ho, e⟩ := List.mem_map.1 hq
        obtain ⟨o2, ho2, e2⟩ := hXb s o ho
        exact ⟨o2, List.mem_cons_of_mem _ ho2, e2.trans e⟩
    repeat apply Sq
    apply Pn
    refine Jt (Z0 rfl) rfl ?_
    refine Jt (Z2 rfl) rfl ?_
    apply Ni
    repeat first | apply Nx | apply Nb
    refine Sl [6] (.cons rfl .nil) ?_
    repeat apply Sq
    apply Rt
    repeat first | apply Rp | apply Rb
    refine JX.toP ?_
    exact JX.retL1 (Lr := []) (L1 := fun z : List β × List T3 × S => PB T b z.2.1 :: X z.2.2) (R := fun z => .rep (SlE En (FrS N Z6 En.sz) z.1)) rfl (ps.map Cel.x, us, s) ⟨by rw [hP, Z48 hcm, if_pos (by rw [List.length_map, List.length_map]; have := of_decide_eq_true hmo; omega)], hIs⟩ (.of_eq (List.append_nil _).symm) (by rw [List.all_cons, hXo]; rfl) rfl hb0 rfl (Sub.slE hG.sl.2 (by repeat first | exact Mh | apply Mt) (by repeat first | exact Mh | apply Mt) (fun X w hf => hf _ (by repeat first | exact Mh | apply Mt)))
theorem Z4j {α : Type} (N : Nat) (T : Tk) (hc : T.ts.length ≤ T.cap) (h9 : T.ts.length ≤ 2049) (b : Nat) (ts : List T3) (hts : ts <:+ T.ts) (En : Enc α) (hE : En.flat) (hs : En.sz = 8) (part : Ps α) (hpd : Dn part) (most : Nat) (fp : FuncId) (hpart : ∀ us, us <:+ T.ts → us.length ≤ ts.length → CallP Tryz.prog fp [PB T b us] [T.G, AF, NH N] [.is (.pointer (some ⟨b, 0, none⟩))] (part us = none) flt (fun z : α × List T3 => part us = some z) (fun z => [PB T b z.2]) (fun z => .rep (En.T z.1))) :
  CallP Tryz.prog Z4g [PB T b ts] [T.G, AF, NH N] [.is (.pointer (some ⟨b, 0, none⟩)), .is (.int .i64 (most : Int)), .is (fv fp)] (listP most part ts = none) flt (fun z : List α × List T3 => listP most part ts = some z) (fun z => [PB T b z.2]) (fun z => .rep (SlE En (FrS N Z6 En.sz) z.1)) :=
 (Z6W (S := Unit) N T hc h9 b ts hts En hE hs part id hpd (fun _ => []) (fun _ _ => True) () trivial (fun _ _ h => by cases h) (fun _ => rfl) most fp [] fun us s l hus hu _ => (hpart us hus (by omega)).map id (fun z => (z.1, z.2, ())) (fun z hz => ⟨hz, trivial⟩) (fun z _ => rfl) (fun z _ => rfl)).map id (fun z => (z.1, z.2.1)) (fun z hz => by have := hz.1; rwa [List.map_id] at this) (fun _ _ => rfl) (fun _ _ => rfl)
theorem Z6V {α β S : Type} (N : Nat) (T : Tk) (hc : T.ts.length ≤ T.cap) (h9 : T.ts.length ≤ 2049) (b : Nat) (ts : List T3) (hts : ts <:+ T.ts) (En : Enc β) (hE : En.flat) (hs : En.sz = 9) (part : Ps α) (proj : β → α) (hpd : Dn part) (X : S → List Own) (I : S → List β → Prop) (s0 : S) (hI0 : I s0 []) (hXb : ∀ s, ∀ o ∈ X s0, ∃ o' ∈ X s, o'.b = o.b) (hXo : ∀ s, (X s).all (fun o => o.T.out) = true) (most : Nat) (fp : FuncId) (cp : List Value) (hpart : ∀ us s l, us <:+ T.ts → l.length + us.length ≤ ts.length → I s l → CallP Tryz.prog fp (PB T b us :: X s) [T.G, AF, NH N] ([.is (.pointer (some ⟨b, 0, none⟩))] ++ cp.map Ty.is) (part us = none) flt (fun z : β × List T3 × S => part us = some (proj z.1, z.2.1) ∧ I z.2.2 (l ++ [z.1])) (fun z => PB T b z.2.1 :: X z.2.2) (fun z => .rep (En.T z.1))) : CallP Tryz.prog Z4m (PB T b ts :: X s0) [T.G, AF, NH N] [.is (.pointer (some ⟨b, 0, none⟩)), .is (.int .i64 (most : Int)), .is (.func (.func fp) #[] cp.toArray)] (listP most part ts = none) flt (fun z : List β × List T3 × S => listP most part ts = some (z.1.map proj, z.2.1) ∧ I z.2.2 z.1) (fun z => PB T b z.2.1 :: X z.2.2) (fun z => .rep (SlE En (FrS N Z1M En.sz) z.1)) :=
CallP.ofN (N := N) (List.mem_cons_of_mem _ (List.mem_cons_of_mem _ List.mem_cons_self)) (fn := Tryz.f114) Tryz.func114 (n := 27) rfl rfl rfl (fun _ _ => by kernel_rfl) fun E W hNW hb0 => by
  repeat apply Sq
  apply Pn
  refine Jt (Z2 rfl) rfl ?_
  apply Ni
  repeat first | apply Nx | apply Nb
  refine Sl [0, 1, 2] (.cons rfl (.cons rfl (.cons rfl .nil))) ?_
  repeat apply Sq
  apply Pn
  refine Jt (Z0 rfl) rfl ?_
  refine Jt (Z0 rfl) rfl ?_
  refine JO.callPvK (cp := cp) (Lr := []) rfl (hpart ts s0 [] hts (by simp) hI0) rfl (.of_eq (List.append_nil _).symm) (fun F hF => by repeat (first | (rcases Mc.1 hF with rfl | hF; · (repeat first | exact Mh | apply Mt)) | (cases hF; done))) (.one rfl .nil) (fun hbad => ?_) ?_
  · exact JX.pnI (by rw [Z1E, hbad]; rfl)
  rintro ⟨x1, us1, s1⟩ ⟨hz1, hI1⟩
  try dsimp only [nA, cA]
  try simp only [List.append_nil]
  refine JO.openT (s := 10) rfl (fun p1 hp1 => ?_)
  refine JO.buildE hE (by rw [hs]; exact Z7g) (by rw [hs]; rfl) (by rw [hs]; decide) rfl rfl (fun b11 => ?_)
  refine Jt (Z2 rfl) rfl ?_
  apply Ni
  repeat first | apply Nx | apply Nb
  refine Sl [0, 1, 2, 7] (.cons rfl (.cons rfl (.cons rfl (.cons rfl .nil)))) ?_
  repeat apply Sq
  apply Bk
  repeat apply Sq
  refine J.loopH (α := List (Cel En) × Option (Nat × List Value) × Nat × List T3 × S) (fun x => [(0, .is (.pointer (some ⟨b, 0, none⟩))), (1, .is (.int .i64 (most : Int))), (2, .is (.func (.func fp) #[] cp.toArray)), (7, .is (sliceO x.2.1 x.1.length x.2.2.1))]) (fun x => ownO x.2.1 Z1M (PB T b x.2.2.2.1 :: X x.2.2.2.2)) (fun x => CelF En x.1) (fun x => x.2.2.2.1 <:+ T.ts ∧ x.1.length + x.2.2.2.1.length ≤ ts.length ∧ Grows Cel.cs En.sz x.1 x.2.1 x.2.2.1 ∧ I x.2.2.2.2 (x.1.map Cel.x) ∧ listP most part ts = listI most part ((x.1.map Cel.x).map proj) x.2.2.2.1) (fun x => x.2.2.2.1.length) ([p1], some (b11, p1.cs), 1, us1, s1) [0, 1, 2, 7] (.cons rfl (.cons rfl (.cons rfl (.cons rfl .nil)))) rfl (fun X w hF => fun w' hk p hp => by rw [List.mem_singleton.1 hp]; exact hF _ List.mem_cons_self w' hk) ⟨(show us1 <:+ ts from (hpd _ _ hz1).1).trans hts, (show 1 + us1.length ≤ ts.length by have : us1.length < ts.length := (hpd _ _ hz1).2; omega), growE p1, (by rw [List.map_singleton, hp1]; exact hI1), (by rw [Z1E, hz1, List.map_singleton, hp1]; rfl)⟩ fun ⟨ps, st, cap, us, s⟩ ⟨hus, hlen, hG, hIs, hP⟩ => ?_
  try dsimp only
  try dsimp only at st
  try dsimp only at cap
  try dsimp only at us
  try dsimp only at s
  try dsimp only at hus
  try dsimp only at hlen
  try dsimp only at hG
  try dsimp only at hIs
  try dsimp only at hP
  repeat apply Sq
  apply Pn
  refine Jt (Z0 rfl) rfl ?_
  refine JO.subL (L' := PB T b us :: ownO st Z1M (X s)) Z1R.symm ?_
  refine JO.callK (Lr := ownO st Z1M (X s)) (Z9 T hc b us hus ZV) rfl (.refl _) (fun F hF => by repeat (first | (rcases Mc.1 hF with rfl | hF; · (repeat first | exact Mh | apply Mt)) | (cases hF; done))) (.one rfl (.one rfl .nil)) ?_
  intro _ _
  try dsimp only [nA, cA]
  refine JO.subL (L' := ownO st Z1M (PB T b (skT 5 ZV us) :: X s)) Z1R ?_
  apply Ni
  repeat first | apply Nx | apply Nb
  refine Sl [0, 1, 2, 7, 13] (.cons rfl (.cons rfl (.cons rfl (.cons rfl (.cons rfl .nil))))) ?_
  repeat apply Sq
  refine Cd rfl (fun ht13 => ?_) (fun ht13 => ?_)
  ·
    try simp only [dT, dF] at ht13
    apply Sk
    repeat first | apply Nx | apply Nb
    repeat apply Sq
    apply Bk
    have hcm : isT 5 ZV us = true := ht13
    rw [ZO hcm]
    repeat apply Sq
    apply Pn
    refine Jt (Z0 rfl) rfl ?_
    refine Jt (Z0 rfl) rfl ?_
    refine Jt (Z0 rfl) rfl ?_
    refine JO.subL (L' := (PB T b us.tail :: X s) ++ ownO st Z1M []) Z25.symm ?_
    refine JO.callPvK (cp := cp) (Lr := ownO st Z1M []) rfl (hpart us.tail s (ps.map Cel.x) (Zi hus) (by have := (Zr hcm).2; rw [List.length_map]; omega) hIs) rfl (.refl _) (fun F hF => by repeat (first | (rcases Mc.1 hF with rfl | hF; · (repeat first | exact Mh | apply Mt)) | (cases hF; done))) (.one rfl .nil) (fun hbad => ?_) ?_
    · exact JX.pnI (by rw [hP, Z23 hpd.le hcm, hbad]; rfl)
    rintro ⟨x2, us2, s2⟩ ⟨hz2, hI2⟩
    try dsimp only [nA, cA]
    refine JO.subL (L' := ownO st Z1M (PB T b us2 :: X s2)) Z25 ?_
    refine JO.openT (s := 17) rfl (fun p2 hp2 => ?_)
    have hd2 := (hpd _ _ hz2).2
    have hlt := (Zr hcm).2
    have hle9 := hts.length_le
    refine Jt (Z2h hE (by rw [hs]; exact Z7g) (by rw [hs]; rfl) (by rw [hs]; decide) rfl) rfl ?_
    refine JO.apO (ys := [p2]) (by rw [hs]; exact Zai) Cel.hlen .here hG rfl rfl (srcE p2 Z1T) (by simp) (by show (ps.length + 1) * 112 ≤ 140737488355328; omega) (by show ps.length + 1 ≤ 9223372036854775807; omega) rfl (fun st2 cap2 hG2 => ?_)
    refine Jt (Z2 rfl) rfl ?_
    apply Ni
    repeat refine JX.normal_block ?_
    refine JX.roundG (x := (ps, st, cap, us, s)) (ps ++ [p2], st2, cap2, us2, s2) ?_ ?_ [0, 1, 2, 7] ?_ ?_ ?_ ?_
    · exact ⟨(show us2 <:+ us.tail from (hpd _ _ hz2).1).trans (Zi hus), (by show (ps ++ [p2]).length + us2.length ≤ ts.length; rw [List.length_append]; show ps.length + 1 + us2.length ≤ ts.length; have : us2.length < us.tail.length := hd2; omega), hG2, (by rw [List.map_append, List.map_singleton, hp2]; exact hI2), (by rw [hP, Z23 hpd.le hcm, hz2, List.map_append, List.map_singleton, hp2, List.map_append]; rfl)⟩
    · exact (by show us2.length < us.length; have : us2.length < us.tail.length := hd2; omega)
    · exact (.cons rfl (.cons rfl (.cons rfl (.cons rfl .nil))))
    · repeat (first | exact .all | exact .nil | refine Has.own (by repeat first | exact .here | apply Tl.past | apply Tl.there) ?_ | refine Has.cons (by repeat (first | exact .here | apply Pk.past | apply Pk.there)) ?_)
    · exact fun G hG => by repeat (first | exact hG | refine List.mem_cons_of_mem _ ?_)
    · exact fun X w hF => fun w' hk => CelF.snoc (hF _ (by repeat first | exact Mh | apply Mt) w' hk) (hF _ List.mem_cons_self w' hk)
  ·
    try simp only [dT, dF] at ht13
    repeat apply Sq
    refine J.exit ?_
    repeat first | refine Ht ?_ | refine Ms rfl ?_ | refine Ep ?_
    repeat first | apply Nx | apply Nb
    have hcm : isT 5 ZV us = false := ht13
    rw [ZQ hcm]
    rw [hG.sl.1]
    repeat apply Sq
    apply Pn
    refine Jt (Z0 rfl) rfl ?_
    refine Jt (Z0 rfl) rfl ?_
    refine Jt (Zq Z1T rfl) rfl ?_
    refine Jt (Z0 rfl) rfl ?_
    refine Jt (Z31 rfl rfl) rfl ?_
    refine JO.callPK (Lr := _) (Z7 (.pointer (some ⟨b, 0, none⟩)) (decide ((ps.length : Int) ≤ (most : Int)))) rfl (Z1a _) Z10 (.one rfl (.one rfl .nil)) (fun hbad => ?_) ?_
    · exact JX.pnI (by rw [hP]; exact Z3K hcm (by rw [List.length_map, List.length_map]; have := of_decide_eq_false hbad; omega))
    intro _ hmo
    try dsimp only [nA, cA]
    apply Ni
    repeat first | apply Nx | apply Nb
    refine Sl [7] (.cons rfl .nil) ?_
    refine J.freezeOMW (e := Z1M) (sz := En.sz) hNW Cel.hlen hG .here (fun q hq => ?_) rfl (by rw [List.all_cons, hXo]; rfl) ?_
    · rw [List.map_cons] at hq
      rcases List.mem_cons.1 hq with rfl | hq
      · exact ⟨_, List.mem_cons_self, rfl⟩
      · obtain ⟨o, ho, e⟩ := List.mem_map.1 hq
        obtain ⟨o2, ho2, e2⟩ := hXb s o ho
        exact ⟨o2, List.mem_cons_of_mem _ ho2, e2.trans e⟩
    repeat apply Sq
    apply Pn
    refine Jt (Z0 rfl) rfl ?_
    refine Jt (Z2 rfl) rfl ?_
    apply Ni
    repeat first | apply Nx | apply Nb
    refine Sl [6] (.cons rfl .nil) ?_
    repeat apply Sq
    apply Rt
    repeat first | apply Rp | apply Rb
    refine JX.toP ?_
    exact JX.retL1 (Lr := []) (L1 := fun z : List β × List T3 × S => PB T b z.2.1 :: X z.2.2) (R := fun z => .rep (SlE En (FrS N Z1M En.sz) z.1)) rfl (ps.map Cel.x, us, s) ⟨by rw [hP, Z48 hcm, if_pos (by rw [List.length_map, List.length_map]; have := of_decide_eq_true hmo; omega)], hIs⟩ (.of_eq (List.append_nil _).symm) (by rw [List.all_cons, hXo]; rfl) rfl hb0 rfl (Sub.slE hG.sl.2 (by repeat first | exact Mh | apply Mt) (by repeat first | exact Mh | apply Mt) (fun X w hf => hf _ (by repeat first | exact Mh | apply Mt)))
theorem Z7b {α : Type} (N : Nat) (T : Tk) (hc : T.ts.length ≤ T.cap) (h9 : T.ts.length ≤ 2049) (b : Nat) (ts : List T3) (hts : ts <:+ T.ts) (En : Enc α) (hE : En.flat) (hs : En.sz = 9) (part : Ps α) (hpd : Dn part) (most : Nat) (fp : FuncId) (hpart : ∀ us, us <:+ T.ts → us.length ≤ ts.length → CallP Tryz.prog fp [PB T b us] [T.G, AF, NH N] [.is (.pointer (some ⟨b, 0, none⟩))] (part us = none) flt (fun z : α × List T3 => part us = some z) (fun z => [PB T b z.2]) (fun z => .rep (En.T z.1))) :
  CallP Tryz.prog Z4m [PB T b ts] [T.G, AF, NH N] [.is (.pointer (some ⟨b, 0, none⟩)), .is (.int .i64 (most : Int)), .is (fv fp)] (listP most part ts = none) flt (fun z : List α × List T3 => listP most part ts = some z) (fun z => [PB T b z.2]) (fun z => .rep (SlE En (FrS N Z1M En.sz) z.1)) :=
 (Z6V (S := Unit) N T hc h9 b ts hts En hE hs part id hpd (fun _ => []) (fun _ _ => True) () trivial (fun _ _ h => by cases h) (fun _ => rfl) most fp [] fun us s l hus hu _ => (hpart us hus (by omega)).map id (fun z => (z.1, z.2, ())) (fun z hz => ⟨hz, trivial⟩) (fun z _ => rfl) (fun z _ => rfl)).map id (fun z => (z.1, z.2.1)) (fun z hz => by have := hz.1; rwa [List.map_id] at this) (fun _ _ => rfl) (fun _ _ => rfl)
theorem Z7t {α β S : Type} (N : Nat) (T : Tk) (hc : T.ts.length ≤ T.cap) (h9 : T.ts.length ≤ 2049) (b : Nat) (ts : List T3) (hts : ts <:+ T.ts) (En : Enc β) (hE : En.flat) (hs : En.sz = 9) (part : Ps α) (proj : β → α) (hpd : Dn part) (X : S → List Own) (I : S → List β → Prop) (s0 : S) (hI0 : I s0 []) (hXb : ∀ s, ∀ o ∈ X s0, ∃ o' ∈ X s, o'.b = o.b) (hXo : ∀ s, (X s).all (fun o => o.T.out) = true) (most : Nat) (fp : FuncId) (cp : List Value) (hpart : ∀ us s l, us <:+ T.ts → l.length + us.length ≤ ts.length → I s l → CallP Tryz.prog fp (PB T b us :: X s) [T.G, AF, NH N] ([.is (.pointer (some ⟨b, 0, none⟩))] ++ cp.map Ty.is) (part us = none) flt (fun z : β × List T3 × S => part us = some (proj z.1, z.2.1) ∧ I z.2.2 (l ++ [z.1])) (fun z => PB T b z.2.1 :: X z.2.2) (fun z => .rep (En.T z.1))) : CallP Tryz.prog Z4u (PB T b ts :: X s0) [T.G, AF, NH N] [.is (.pointer (some ⟨b, 0, none⟩)), .is (.int .i64 (most : Int)), .is (.func (.func fp) #[] cp.toArray)] (listP most part ts = none) flt (fun z : List β × List T3 × S => listP most part ts = some (z.1.map proj, z.2.1) ∧ I z.2.2 z.1) (fun z => PB T b z.2.1 :: X z.2.2) (fun z => .rep (SlE En (FrS N Z1Z En.sz) z.1)) :=
CallP.ofN (N := N) (List.mem_cons_of_mem _ (List.mem_cons_of_mem _ List.mem_cons_self)) (fn := Tryz.f119) Tryz.func119 (n := 27) rfl rfl rfl (fun _ _ => by kernel_rfl) fun E W hNW hb0 => by
  repeat apply Sq
  apply Pn
  refine Jt (Z2 rfl) rfl ?_
  apply Ni
  repeat first | apply Nx | apply Nb
  refine Sl [0, 1, 2] (.cons rfl (.cons rfl (.cons rfl .nil))) ?_
  repeat apply Sq
  apply Pn
  refine Jt (Z0 rfl) rfl ?_
  refine Jt (Z0 rfl) rfl ?_
  refine JO.callPvK (cp := cp) (Lr := []) rfl (hpart ts s0 [] hts (by simp) hI0) rfl (.of_eq (List.append_nil _).symm) (fun F hF => by repeat (first | (rcases Mc.1 hF with rfl | hF; · (repeat first | exact Mh | apply Mt)) | (cases hF; done))) (.one rfl .nil) (fun hbad => ?_) ?_
  · exact JX.pnI (by rw [Z1E, hbad]; rfl)
  rintro ⟨x1, us1, s1⟩ ⟨hz1, hI1⟩
  try dsimp only [nA, cA]
  try simp only [List.append_nil]
  refine JO.openT (s := 10) rfl (fun p1 hp1 => ?_)
  refine JO.buildE hE (by rw [hs]; exact Z7V) (by rw [hs]; rfl) (by rw [hs]; decide) rfl rfl (fun b11 => ?_)
  refine Jt (Z2 rfl) rfl ?_
  apply Ni
  repeat first | apply Nx | apply Nb
  refine Sl [0, 1, 2, 7] (.cons rfl (.cons rfl (.cons rfl (.cons rfl .nil)))) ?_
  repeat apply Sq
  apply Bk
  repeat apply Sq
  refine J.loopH (α := List (Cel En) × Option (Nat × List Value) × Nat × List T3 × S) (fun x => [(0, .is (.pointer (some ⟨b, 0, none⟩))), (1, .is (.int .i64 (most : Int))), (2, .is (.func (.func fp) #[] cp.toArray)), (7, .is (sliceO x.2.1 x.1.length x.2.2.1))]) (fun x => ownO x.2.1 Z1Z (PB T b x.2.2.2.1 :: X x.2.2.2.2)) (fun x => CelF En x.1) (fun x => x.2.2.2.1 <:+ T.ts ∧ x.1.length + x.2.2.2.1.length ≤ ts.length ∧ Grows Cel.cs En.sz x.1 x.2.1 x.2.2.1 ∧ I x.2.2.2.2 (x.1.map Cel.x) ∧ listP most part ts = listI most part ((x.1.map Cel.x).map proj) x.2.2.2.1) (fun x => x.2.2.2.1.length) ([p1], some (b11, p1.cs), 1, us1, s1) [0, 1, 2, 7] (.cons rfl (.cons rfl (.cons rfl (.cons rfl .nil)))) rfl (fun X w hF => fun w' hk p hp => by rw [List.mem_singleton.1 hp]; exact hF _ List.mem_cons_self w' hk) ⟨(show us1 <:+ ts from (hpd _ _ hz1).1).trans hts, (show 1 + us1.length ≤ ts.length by have : us1.length < ts.length := (hpd _ _ hz1).2; omega), growE p1, (by rw [List.map_singleton, hp1]; exact hI1), (by rw [Z1E, hz1, List.map_singleton, hp1]; rfl)⟩ fun ⟨ps, st, cap, us, s⟩ ⟨hus, hlen, hG, hIs, hP⟩ => ?_
  try dsimp only
  try dsimp only at st
  try dsimp only at cap
  try dsimp only at us
  try dsimp only at s
  try dsimp only at hus
  try dsimp only at hlen
  try dsimp only at hG
  try dsimp only at hIs
  try dsimp only at hP
  repeat apply Sq
  apply Pn
  refine Jt (Z0 rfl) rfl ?_
  refine JO.subL (L' := PB T b us :: ownO st Z1Z (X s)) Z1R.symm ?_
  refine JO.callK (Lr := ownO st Z1Z (X s)) (Z9 T hc b us hus ZV) rfl (.refl _) (fun F hF => by repeat (first | (rcases Mc.1 hF with rfl | hF; · (repeat first | exact Mh | apply Mt)) | (cases hF; done))) (.one rfl (.one rfl .nil)) ?_
  intro _ _
  try dsimp only [nA, cA]
  refine JO.subL (L' := ownO st Z1Z (PB T b (skT 5 ZV us) :: X s)) Z1R ?_
  apply Ni
  repeat first | apply Nx | apply Nb
  refine Sl [0, 1, 2, 7, 13] (.cons rfl (.cons rfl (.cons rfl (.cons rfl (.cons rfl .nil))))) ?_
  repeat apply Sq
  refine Cd rfl (fun ht13 => ?_) (fun ht13 => ?_)
  ·
    try simp only [dT, dF] at ht13
    apply Sk
    repeat first | apply Nx | apply Nb
    repeat apply Sq
    apply Bk
    have hcm : isT 5 ZV us = true := ht13
    rw [ZO hcm]
    repeat apply Sq
    apply Pn
    refine Jt (Z0 rfl) rfl ?_
    refine Jt (Z0 rfl) rfl ?_
    refine Jt (Z0 rfl) rfl ?_
    refine JO.subL (L' := (PB T b us.tail :: X s) ++ ownO st Z1Z []) Z25.symm ?_
    refine JO.callPvK (cp := cp) (Lr := ownO st Z1Z []) rfl (hpart us.tail s (ps.map Cel.x) (Zi hus) (by have := (Zr hcm).2; rw [List.length_map]; omega) hIs) rfl (.refl _) (fun F hF => by repeat (first | (rcases Mc.1 hF with rfl | hF; · (repeat first | exact Mh | apply Mt)) | (cases hF; done))) (.one rfl .nil) (fun hbad => ?_) ?_
    · exact JX.pnI (by rw [hP, Z23 hpd.le hcm, hbad]; rfl)
    rintro ⟨x2, us2, s2⟩ ⟨hz2, hI2⟩
    try dsimp only [nA, cA]
    refine JO.subL (L' := ownO st Z1Z (PB T b us2 :: X s2)) Z25 ?_
    refine JO.openT (s := 17) rfl (fun p2 hp2 => ?_)
    have hd2 := (hpd _ _ hz2).2
    have hlt := (Zr hcm).2
    have hle9 := hts.length_le
    refine Jt (Z2h hE (by rw [hs]; exact Z7V) (by rw [hs]; rfl) (by rw [hs]; decide) rfl) rfl ?_
    refine JO.apO (ys := [p2]) (by rw [hs]; exact ZaX) Cel.hlen .here hG rfl rfl (srcE p2 Z2n) (by simp) (by show (ps.length + 1) * 112 ≤ 140737488355328; omega) (by show ps.length + 1 ≤ 9223372036854775807; omega) rfl (fun st2 cap2 hG2 => ?_)
    refine Jt (Z2 rfl) rfl ?_
    apply Ni
    repeat refine JX.normal_block ?_
    refine JX.roundG (x := (ps, st, cap, us, s)) (ps ++ [p2], st2, cap2, us2, s2) ?_ ?_ [0, 1, 2, 7] ?_ ?_ ?_ ?_
    · exact ⟨(show us2 <:+ us.tail from (hpd _ _ hz2).1).trans (Zi hus), (by show (ps ++ [p2]).length + us2.length ≤ ts.length; rw [List.length_append]; show ps.length + 1 + us2.length ≤ ts.length; have : us2.length < us.tail.length := hd2; omega), hG2, (by rw [List.map_append, List.map_singleton, hp2]; exact hI2), (by rw [hP, Z23 hpd.le hcm, hz2, List.map_append, List.map_singleton, hp2, List.map_append]; rfl)⟩
    · exact (by show us2.length < us.length; have : us2.length < us.tail.length := hd2; omega)
    · exact (.cons rfl (.cons rfl (.cons rfl (.cons rfl .nil))))
    · repeat (first | exact .all | exact .nil | refine Has.own (by repeat first | exact .here | apply Tl.past | apply Tl.there) ?_ | refine Has.cons (by repeat (first | exact .here | apply Pk.past | apply Pk.there)) ?_)
    · exact fun G hG => by repeat (first | exact hG | refine List.mem_cons_of_mem _ ?_)
    · exact fun X w hF => fun w' hk => CelF.snoc (hF _ (by repeat first | exact Mh | apply Mt) w' hk) (hF _ List.mem_cons_self w' hk)
  ·
    try simp only [dT, dF] at ht13
    repeat apply Sq
    refine J.exit ?_
    repeat first | refine Ht ?_ | refine Ms rfl ?_ | refine Ep ?_
    repeat first | apply Nx | apply Nb
    have hcm : isT 5 ZV us = false := ht13
    rw [ZQ hcm]
    rw [hG.sl.1]
    repeat apply Sq
    apply Pn
    refine Jt (Z0 rfl) rfl ?_
    refine Jt (Z0 rfl) rfl ?_
    refine Jt (Zq Z2n rfl) rfl ?_
    refine Jt (Z0 rfl) rfl ?_
    refine Jt (Z31 rfl rfl) rfl ?_
    refine JO.callPK (Lr := _) (Z7 (.pointer (some ⟨b, 0, none⟩)) (decide ((ps.length : Int) ≤ (most : Int)))) rfl (Z1a _) Z10 (.one rfl (.one rfl .nil)) (fun hbad => ?_) ?_
    · exact JX.pnI (by rw [hP]; exact Z3K hcm (by rw [List.length_map, List.length_map]; have := of_decide_eq_false hbad; omega))
    intro _ hmo
    try dsimp only [nA, cA]
    apply Ni
    repeat first | apply Nx | apply Nb
    refine Sl [7] (.cons rfl .nil) ?_
    refine J.freezeOMW (e := Z1Z) (sz := En.sz) hNW Cel.hlen hG .here (fun q hq => ?_) rfl (by rw [List.all_cons, hXo]; rfl) ?_
    · rw [List.map_cons] at hq
      rcases List.mem_cons.1 hq with rfl | hq
      · exact ⟨_, List.mem_cons_self, rfl⟩
      · obtain ⟨o, ho, e⟩ := List.mem_map.1 hq
        obtain ⟨o2, ho2, e2⟩ := hXb s o ho
        exact ⟨o2, List.mem_cons_of_mem _ ho2, e2.trans e⟩
    repeat apply Sq
    apply Pn
    refine Jt (Z0 rfl) rfl ?_
    refine Jt (Z2 rfl) rfl ?_
    apply Ni
    repeat first | apply Nx | apply Nb
    refine Sl [6] (.cons rfl .nil) ?_
    repeat apply Sq
    apply Rt
    repeat first | apply Rp | apply Rb
    refine JX.toP ?_
    exact JX.retL1 (Lr := []) (L1 := fun z : List β × List T3 × S => PB T b z.2.1 :: X z.2.2) (R := fun z => .rep (SlE En (FrS N Z1Z En.sz) z.1)) rfl (ps.map Cel.x, us, s) ⟨by rw [hP, Z48 hcm, if_pos (by rw [List.length_map, List.length_map]; have := of_decide_eq_true hmo; omega)], hIs⟩ (.of_eq (List.append_nil _).symm) (by rw [List.all_cons, hXo]; rfl) rfl hb0 rfl (Sub.slE hG.sl.2 (by repeat first | exact Mh | apply Mt) (by repeat first | exact Mh | apply Mt) (fun X w hf => hf _ (by repeat first | exact Mh | apply Mt)))
theorem Z4E {α : Type} (N : Nat) (T : Tk) (hc : T.ts.length ≤ T.cap) (h9 : T.ts.length ≤ 2049) (b : Nat) (ts : List T3) (hts : ts <:+ T.ts) (En : Enc α) (hE : En.flat) (hs : En.sz = 9) (part : Ps α) (hpd : Dn part) (most : Nat) (fp : FuncId) (hpart : ∀ us, us <:+ T.ts → us.length ≤ ts.length → CallP Tryz.prog fp [PB T b us] [T.G, AF, NH N] [.is (.pointer (some ⟨b, 0, none⟩))] (part us = none) flt (fun z : α × List T3 => part us = some z) (fun z => [PB T b z.2]) (fun z => .rep (En.T z.1))) :
  CallP Tryz.prog Z4u [PB T b ts] [T.G, AF, NH N] [.is (.pointer (some ⟨b, 0, none⟩)), .is (.int .i64 (most : Int)), .is (fv fp)] (listP most part ts = none) flt (fun z : List α × List T3 => listP most part ts = some z) (fun z => [PB T b z.2]) (fun z => .rep (SlE En (FrS N Z1Z En.sz) z.1)) :=
 (Z7t (S := Unit) N T hc h9 b ts hts En hE hs part id hpd (fun _ => []) (fun _ _ => True) () trivial (fun _ _ h => by cases h) (fun _ => rfl) most fp [] fun us s l hus hu _ => (hpart us hus (by omega)).map id (fun z => (z.1, z.2, ())) (fun z hz => ⟨hz, trivial⟩) (fun z _ => rfl) (fun z _ => rfl)).map id (fun z => (z.1, z.2.1)) (fun z hz => by have := hz.1; rwa [List.map_id] at this) (fun _ _ => rfl) (fun _ _ => rfl)
theorem Z6p {α β S : Type} (N : Nat) (T : Tk) (hc : T.ts.length ≤ T.cap) (h9 : T.ts.length ≤ 2049) (b : Nat) (ts : List T3) (hts : ts <:+ T.ts) (En : Enc β) (hE : En.flat) (hs : En.sz = 4) (part : Ps α) (proj : β → α) (hpd : Dn part) (X : S → List Own) (I : S → List β → Prop) (s0 : S) (hI0 : I s0 []) (hXb : ∀ s, ∀ o ∈ X s0, ∃ o' ∈ X s, o'.b = o.b) (hXo : ∀ s, (X s).all (fun o => o.T.out) = true) (most : Nat) (fp : FuncId) (cp : List Value) (hpart : ∀ us s l, us <:+ T.ts → l.length + us.length ≤ ts.length → I s l → CallP Tryz.prog fp (PB T b us :: X s) [T.G, AF, NH N] ([.is (.pointer (some ⟨b, 0, none⟩))] ++ cp.map Ty.is) (part us = none) flt (fun z : β × List T3 × S => part us = some (proj z.1, z.2.1) ∧ I z.2.2 (l ++ [z.1])) (fun z => PB T b z.2.1 :: X z.2.2) (fun z => .rep (En.T z.1))) : CallP Tryz.prog Z3R (PB T b ts :: X s0) [T.G, AF, NH N] [.is (.pointer (some ⟨b, 0, none⟩)), .is (.int .i64 (most : Int)), .is (.func (.func fp) #[] cp.toArray)] (listP most part ts = none) flt (fun z : List β × List T3 × S => listP most part ts = some (z.1.map proj, z.2.1) ∧ I z.2.2 z.1) (fun z => PB T b z.2.1 :: X z.2.2) (fun z => .rep (SlE En (FrS N ZS En.sz) z.1)) :=
CallP.ofN (N := N) (List.mem_cons_of_mem _ (List.mem_cons_of_mem _ List.mem_cons_self)) (fn := Tryz.f143) Tryz.func143 (n := 27) rfl rfl rfl (fun _ _ => by kernel_rfl) fun E W hNW hb0 => by
  repeat apply Sq
  apply Pn
  refine Jt (Z2 rfl) rfl ?_
  apply Ni
  repeat first | apply Nx | apply Nb
  refine Sl [0, 1, 2] (.cons rfl (.cons rfl (.cons rfl .nil))) ?_
  repeat apply Sq
  apply Pn
  refine Jt (Z0 rfl) rfl ?_
  refine Jt (Z0 rfl) rfl ?_
  refine JO.callPvK (cp := cp) (Lr := []) rfl (hpart ts s0 [] hts (by simp) hI0) rfl (.of_eq (List.append_nil _).symm) (fun F hF => by repeat (first | (rcases Mc.1 hF with rfl | hF; · (repeat first | exact Mh | apply Mt)) | (cases hF; done))) (.one rfl .nil) (fun hbad => ?_) ?_
  · exact JX.pnI (by rw [Z1E, hbad]; rfl)
  rintro ⟨x1, us1, s1⟩ ⟨hz1, hI1⟩
  try dsimp only [nA, cA]
  try simp only [List.append_nil]
  refine JO.openT (s := 10) rfl (fun p1 hp1 => ?_)
  refine JO.buildE hE (by rw [hs]; exact Z6d) (by rw [hs]; rfl) (by rw [hs]; decide) rfl rfl (fun b11 => ?_)
  refine Jt (Z2 rfl) rfl ?_
  apply Ni
  repeat first | apply Nx | apply Nb
  refine Sl [0, 1, 2, 7] (.cons rfl (.cons rfl (.cons rfl (.cons rfl .nil)))) ?_
  repeat apply Sq
  apply Bk
  repeat apply Sq
  refine J.loopH (α := List (Cel En) × Option (Nat × List Value) × Nat × List T3 × S) (fun x => [(0, .is (.pointer (some ⟨b, 0, none⟩))), (1, .is (.int .i64 (most : Int))), (2, .is (.func (.func fp) #[] cp.toArray)), (7, .is (sliceO x.2.1 x.1.length x.2.2.1))]) (fun x => ownO x.2.1 ZS (PB T b x.2.2.2.1 :: X x.2.2.2.2)) (fun x => CelF En x.1) (fun x => x.2.2.2.1 <:+ T.ts ∧ x.1.length + x.2.2.2.1.length ≤ ts.length ∧ Grows Cel.cs En.sz x.1 x.2.1 x.2.2.1 ∧ I x.2.2.2.2 (x.1.map Cel.x) ∧ listP most part ts = listI most part ((x.1.map Cel.x).map proj) x.2.2.2.1) (fun x => x.2.2.2.1.length) ([p1], some (b11, p1.cs), 1, us1, s1) [0, 1, 2, 7] (.cons rfl (.cons rfl (.cons rfl (.cons rfl .nil)))) rfl (fun X w hF => fun w' hk p hp => by rw [List.mem_singleton.1 hp]; exact hF _ List.mem_cons_self w' hk) ⟨(show us1 <:+ ts from (hpd _ _ hz1).1).trans hts, (show 1 + us1.length ≤ ts.length by have : us1.length < ts.length := (hpd _ _ hz1).2; omega), growE p1, (by rw [List.map_singleton, hp1]; exact hI1), (by rw [Z1E, hz1, List.map_singleton, hp1]; rfl)⟩ fun ⟨ps, st, cap, us, s⟩ ⟨hus, hlen, hG, hIs, hP⟩ => ?_
  try dsimp only
  try dsimp only at st
  try dsimp only at cap
  try dsimp only at us
  try dsimp only at s
  try dsimp only at hus
  try dsimp only at hlen
  try dsimp only at hG
  try dsimp only at hIs
  try dsimp only at hP
  repeat apply Sq
  apply Pn
  refine Jt (Z0 rfl) rfl ?_
  refine JO.subL (L' := PB T b us :: ownO st ZS (X s)) Z1R.symm ?_
  refine JO.callK (Lr := ownO st ZS (X s)) (Z9 T hc b us hus ZV) rfl (.refl _) (fun F hF => by repeat (first | (rcases Mc.1 hF with rfl | hF; · (repeat first | exact Mh | apply Mt)) | (cases hF; done))) (.one rfl (.one rfl .nil)) ?_
  intro _ _
  try dsimp only [nA, cA]
  refine JO.subL (L' := ownO st ZS (PB T b (skT 5 ZV us) :: X s)) Z1R ?_
  apply Ni
  repeat first | apply Nx | apply Nb
  refine Sl [0, 1, 2, 7, 13] (.cons rfl (.cons rfl (.cons rfl (.cons rfl (.cons rfl .nil))))) ?_
  repeat apply Sq
  refine Cd rfl (fun ht13 => ?_) (fun ht13 => ?_)
  ·
    try simp only [dT, dF] at ht13
    apply Sk
    repeat first | apply Nx | apply Nb
    repeat apply Sq
    apply Bk
    have hcm : isT 5 ZV us = true := ht13
    rw [ZO hcm]
    repeat apply Sq
    apply Pn
    refine Jt (Z0 rfl) rfl ?_
    refine Jt (Z0 rfl) rfl ?_
    refine Jt (Z0 rfl) rfl ?_
    refine JO.subL (L' := (PB T b us.tail :: X s) ++ ownO st ZS []) Z25.symm ?_
    refine JO.callPvK (cp := cp) (Lr := ownO st ZS []) rfl (hpart us.tail s (ps.map Cel.x) (Zi hus) (by have := (Zr hcm).2; rw [List.length_map]; omega) hIs) rfl (.refl _) (fun F hF => by repeat (first | (rcases Mc.1 hF with rfl | hF; · (repeat first | exact Mh | apply Mt)) | (cases hF; done))) (.one rfl .nil) (fun hbad => ?_) ?_
    · exact JX.pnI (by rw [hP, Z23 hpd.le hcm, hbad]; rfl)
    rintro ⟨x2, us2, s2⟩ ⟨hz2, hI2⟩
    try dsimp only [nA, cA]
    refine JO.subL (L' := ownO st ZS (PB T b us2 :: X s2)) Z25 ?_
    refine JO.openT (s := 17) rfl (fun p2 hp2 => ?_)
    have hd2 := (hpd _ _ hz2).2
    have hlt := (Zr hcm).2
    have hle9 := hts.length_le
    refine Jt (Z2h hE (by rw [hs]; exact Z6d) (by rw [hs]; rfl) (by rw [hs]; decide) rfl) rfl ?_
    refine JO.apO (ys := [p2]) (by rw [hs]; exact Z9h) Cel.hlen .here hG rfl rfl (srcE p2 Z2C) (by simp) (by show (ps.length + 1) * 32 ≤ 140737488355328; omega) (by show ps.length + 1 ≤ 9223372036854775807; omega) rfl (fun st2 cap2 hG2 => ?_)
    refine Jt (Z2 rfl) rfl ?_
    apply Ni
    repeat refine JX.normal_block ?_
    refine JX.roundG (x := (ps, st, cap, us, s)) (ps ++ [p2], st2, cap2, us2, s2) ?_ ?_ [0, 1, 2, 7] ?_ ?_ ?_ ?_
    · exact ⟨(show us2 <:+ us.tail from (hpd _ _ hz2).1).trans (Zi hus), (by show (ps ++ [p2]).length + us2.length ≤ ts.length; rw [List.length_append]; show ps.length + 1 + us2.length ≤ ts.length; have : us2.length < us.tail.length := hd2; omega), hG2, (by rw [List.map_append, List.map_singleton, hp2]; exact hI2), (by rw [hP, Z23 hpd.le hcm, hz2, List.map_append, List.map_singleton, hp2, List.map_append]; rfl)⟩
    · exact (by show us2.length < us.length; have : us2.length < us.tail.length := hd2; omega)
    · exact (.cons rfl (.cons rfl (.cons rfl (.cons rfl .nil))))
    · repeat (first | exact .all | exact .nil | refine Has.own (by repeat first | exact .here | apply Tl.past | apply Tl.there) ?_ | refine Has.cons (by repeat (first | exact .here | apply Pk.past | apply Pk.there)) ?_)
    · exact fun G hG => by repeat (first | exact hG | refine List.mem_cons_of_mem _ ?_)
    · exact fun X w hF => fun w' hk => CelF.snoc (hF _ (by repeat first | exact Mh | apply Mt) w' hk) (hF _ List.mem_cons_self w' hk)
  ·
    try simp only [dT, dF] at ht13
    repeat apply Sq
    refine J.exit ?_
    repeat first | refine Ht ?_ | refine Ms rfl ?_ | refine Ep ?_
    repeat first | apply Nx | apply Nb
    have hcm : isT 5 ZV us = false := ht13
    rw [ZQ hcm]
    rw [hG.sl.1]
    repeat apply Sq
    apply Pn
    refine Jt (Z0 rfl) rfl ?_
    refine Jt (Z0 rfl) rfl ?_
    refine Jt (Zq Z2C rfl) rfl ?_
    refine Jt (Z0 rfl) rfl ?_
    refine Jt (Z31 rfl rfl) rfl ?_
    refine JO.callPK (Lr := _) (Z7 (.pointer (some ⟨b, 0, none⟩)) (decide ((ps.length : Int) ≤ (most : Int)))) rfl (Z1a _) Z10 (.one rfl (.one rfl .nil)) (fun hbad => ?_) ?_
    · exact JX.pnI (by rw [hP]; exact Z3K hcm (by rw [List.length_map, List.length_map]; have := of_decide_eq_false hbad; omega))
    intro _ hmo
    try dsimp only [nA, cA]
    apply Ni
    repeat first | apply Nx | apply Nb
    refine Sl [7] (.cons rfl .nil) ?_
    refine J.freezeOMW (e := ZS) (sz := En.sz) hNW Cel.hlen hG .here (fun q hq => ?_) rfl (by rw [List.all_cons, hXo]; rfl) ?_
    · rw [List.map_cons] at hq
      rcases List.mem_cons.1 hq with rfl | hq
      · exact ⟨_, List.mem_cons_self, rfl⟩
      · obtain ⟨o, ho, e⟩ := List.mem_map.1 hq
        obtain ⟨o2, ho2, e2⟩ := hXb s o ho
        exact ⟨o2, List.mem_cons_of_mem _ ho2, e2.trans e⟩
    repeat apply Sq
    apply Pn
    refine Jt (Z0 rfl) rfl ?_
    refine Jt (Z2 rfl) rfl ?_
    apply Ni
    repeat first | apply Nx | apply Nb
    refine Sl [6] (.cons rfl .nil) ?_
    repeat apply Sq
    apply Rt
    repeat first | apply Rp | apply Rb
    refine JX.toP ?_
    exact JX.retL1 (Lr := []) (L1 := fun z : List β × List T3 × S => PB T b z.2.1 :: X z.2.2) (R := fun z => .rep (SlE En (FrS N ZS En.sz) z.1)) rfl (ps.map Cel.x, us, s) ⟨by rw [hP, Z48 hcm, if_pos (by rw [List.length_map, List.length_map]; have := of_decide_eq_true hmo; omega)], hIs⟩ (.of_eq (List.append_nil _).symm) (by rw [List.all_cons, hXo]; rfl) rfl hb0 rfl (Sub.slE hG.sl.2 (by repeat first | exact Mh | apply Mt) (by repeat first | exact Mh | apply Mt) (fun X w hf => hf _ (by repeat first | exact Mh | apply Mt)))
theorem Z6i {α : Type} (N : Nat) (T : Tk) (hc : T.ts.length ≤ T.cap) (h9 : T.ts.length ≤ 2049) (b : Nat) (ts : List T3) (hts : ts <:+ T.ts) (En : Enc α) (hE : En.flat) (hs : En.sz = 4) (part : Ps α) (hpd : Dn part) (most : Nat) (fp : FuncId) (hpart : ∀ us, us <:+ T.ts → us.length ≤ ts.length → CallP Tryz.prog fp [PB T b us] [T.G, AF, NH N] [.is (.pointer (some ⟨b, 0, none⟩))] (part us = none) flt (fun z : α × List T3 => part us = some z) (fun z => [PB T b z.2]) (fun z => .rep (En.T z.1))) :
  CallP Tryz.prog Z3R [PB T b ts] [T.G, AF, NH N] [.is (.pointer (some ⟨b, 0, none⟩)), .is (.int .i64 (most : Int)), .is (fv fp)] (listP most part ts = none) flt (fun z : List α × List T3 => listP most part ts = some z) (fun z => [PB T b z.2]) (fun z => .rep (SlE En (FrS N ZS En.sz) z.1)) :=
 (Z6p (S := Unit) N T hc h9 b ts hts En hE hs part id hpd (fun _ => []) (fun _ _ => True) () trivial (fun _ _ h => by cases h) (fun _ => rfl) most fp [] fun us s l hus hu _ => (hpart us hus (by omega)).map id (fun z => (z.1, z.2, ())) (fun z hz => ⟨hz, trivial⟩) (fun z _ => rfl) (fun z _ => rfl)).map id (fun z => (z.1, z.2.1)) (fun z hz => by have := hz.1; rwa [List.map_id] at this) (fun _ _ => rfl) (fun _ _ => rfl)
theorem Z4L {α β S : Type} (N : Nat) (T : Tk) (hc : T.ts.length ≤ T.cap) (h9 : T.ts.length ≤ 2049) (b : Nat) (ts : List T3) (hts : ts <:+ T.ts) (En : Enc β) (hE : En.flat) (hs : En.sz = 1) (part : Ps α) (proj : β → α) (hpd : Dn part) (X : S → List Own) (I : S → List β → Prop) (s0 : S) (hI0 : I s0 []) (hXb : ∀ s, ∀ o ∈ X s0, ∃ o' ∈ X s, o'.b = o.b) (hXo : ∀ s, (X s).all (fun o => o.T.out) = true) (most : Nat) (fp : FuncId) (cp : List Value) (hpart : ∀ us s l, us <:+ T.ts → l.length + us.length ≤ ts.length → I s l → CallP Tryz.prog fp (PB T b us :: X s) [T.G, AF, NH N] ([.is (.pointer (some ⟨b, 0, none⟩))] ++ cp.map Ty.is) (part us = none) flt (fun z : β × List T3 × S => part us = some (proj z.1, z.2.1) ∧ I z.2.2 (l ++ [z.1])) (fun z => PB T b z.2.1 :: X z.2.2) (fun z => .rep (En.T z.1))) : CallP Tryz.prog Z4J (PB T b ts :: X s0) [T.G, AF, NH N] [.is (.pointer (some ⟨b, 0, none⟩)), .is (.int .i64 (most : Int)), .is (.func (.func fp) #[] cp.toArray)] (listP most part ts = none) flt (fun z : List β × List T3 × S => listP most part ts = some (z.1.map proj, z.2.1) ∧ I z.2.2 z.1) (fun z => PB T b z.2.1 :: X z.2.2) (fun z => .rep (SlE En (FrS N ZN En.sz) z.1)) :=
CallP.ofN (N := N) (List.mem_cons_of_mem _ (List.mem_cons_of_mem _ List.mem_cons_self)) (fn := Tryz.f121) Tryz.func121 (n := 27) rfl rfl rfl (fun _ _ => by kernel_rfl) fun E W hNW hb0 => by
  repeat apply Sq
  apply Pn
  refine Jt (Z2 rfl) rfl ?_
  apply Ni
  repeat first | apply Nx | apply Nb
  refine Sl [0, 1, 2] (.cons rfl (.cons rfl (.cons rfl .nil))) ?_
  repeat apply Sq
  apply Pn
  refine Jt (Z0 rfl) rfl ?_
  refine Jt (Z0 rfl) rfl ?_
  refine JO.callPvK (cp := cp) (Lr := []) rfl (hpart ts s0 [] hts (by simp) hI0) rfl (.of_eq (List.append_nil _).symm) (fun F hF => by repeat (first | (rcases Mc.1 hF with rfl | hF; · (repeat first | exact Mh | apply Mt)) | (cases hF; done))) (.one rfl .nil) (fun hbad => ?_) ?_
  · exact JX.pnI (by rw [Z1E, hbad]; rfl)
  rintro ⟨x1, us1, s1⟩ ⟨hz1, hI1⟩
  try dsimp only [nA, cA]
  try simp only [List.append_nil]
  refine JO.openT (s := 10) rfl (fun p1 hp1 => ?_)
  refine JO.buildE hE (by rw [hs]; exact Z1Y) (by rw [hs]; rfl) (by rw [hs]; decide) rfl rfl (fun b11 => ?_)
  refine Jt (Z2 rfl) rfl ?_
  apply Ni
  repeat first | apply Nx | apply Nb
  refine Sl [0, 1, 2, 7] (.cons rfl (.cons rfl (.cons rfl (.cons rfl .nil)))) ?_
  repeat apply Sq
  apply Bk
  repeat apply Sq
  refine J.loopH (α := List (Cel En) × Option (Nat × List Value) × Nat × List T3 × S) (fun x => [(0, .is (.pointer (some ⟨b, 0, none⟩))), (1, .is (.int .i64 (most : Int))), (2, .is (.func (.func fp) #[] cp.toArray)), (7, .is (sliceO x.2.1 x.1.length x.2.2.1))]) (fun x => ownO x.2.1 ZN (PB T b x.2.2.2.1 :: X x.2.2.2.2)) (fun x => CelF En x.1) (fun x => x.2.2.2.1 <:+ T.ts ∧ x.1.length + x.2.2.2.1.length ≤ ts.length ∧ Grows Cel.cs En.sz x.1 x.2.1 x.2.2.1 ∧ I x.2.2.2.2 (x.1.map Cel.x) ∧ listP most part ts = listI most part ((x.1.map Cel.x).map proj) x.2.2.2.1) (fun x => x.2.2.2.1.length) ([p1], some (b11, p1.cs), 1, us1, s1) [0, 1, 2, 7] (.cons rfl (.cons rfl (.cons rfl (.cons rfl .nil)))) rfl (fun X w hF => fun w' hk p hp => by rw [List.mem_singleton.1 hp]; exact hF _ List.mem_cons_self w' hk) ⟨(show us1 <:+ ts from (hpd _ _ hz1).1).trans hts, (show 1 + us1.length ≤ ts.length by have : us1.length < ts.length := (hpd _ _ hz1).2; omega), growE p1, (by rw [List.map_singleton, hp1]; exact hI1), (by rw [Z1E, hz1, List.map_singleton, hp1]; rfl)⟩ fun ⟨ps, st, cap, us, s⟩ ⟨hus, hlen, hG, hIs, hP⟩ => ?_
  try dsimp only
  try dsimp only at st
  try dsimp only at cap
  try dsimp only at us
  try dsimp only at s
  try dsimp only at hus
  try dsimp only at hlen
  try dsimp only at hG
  try dsimp only at hIs
  try dsimp only at hP
  repeat apply Sq
  apply Pn
  refine Jt (Z0 rfl) rfl ?_
  refine JO.subL (L' := PB T b us :: ownO st ZN (X s)) Z1R.symm ?_
  refine JO.callK (Lr := ownO st ZN (X s)) (Z9 T hc b us hus ZV) rfl (.refl _) (fun F hF => by repeat (first | (rcases Mc.1 hF with rfl | hF; · (repeat first | exact Mh | apply Mt)) | (cases hF; done))) (.one rfl (.one rfl .nil)) ?_
  intro _ _
  try dsimp only [nA, cA]
  refine JO.subL (L' := ownO st ZN (PB T b (skT 5 ZV us) :: X s)) Z1R ?_
  apply Ni
  repeat first | apply Nx | apply Nb
  refine Sl [0, 1, 2, 7, 13] (.cons rfl (.cons rfl (.cons rfl (.cons rfl (.cons rfl .nil))))) ?_
  repeat apply Sq
  refine Cd rfl (fun ht13 => ?_) (fun ht13 => ?_)
  ·
    try simp only [dT, dF] at ht13
    apply Sk
    repeat first | apply Nx | apply Nb
    repeat apply Sq
    apply Bk
    have hcm : isT 5 ZV us = true := ht13
    rw [ZO hcm]
    repeat apply Sq
    apply Pn
    refine Jt (Z0 rfl) rfl ?_
    refine Jt (Z0 rfl) rfl ?_
    refine Jt (Z0 rfl) rfl ?_
    refine JO.subL (L' := (PB T b us.tail :: X s) ++ ownO st ZN []) Z25.symm ?_
    refine JO.callPvK (cp := cp) (Lr := ownO st ZN []) rfl (hpart us.tail s (ps.map Cel.x) (Zi hus) (by have := (Zr hcm).2; rw [List.length_map]; omega) hIs) rfl (.refl _) (fun F hF => by repeat (first | (rcases Mc.1 hF with rfl | hF; · (repeat first | exact Mh | apply Mt)) | (cases hF; done))) (.one rfl .nil) (fun hbad => ?_) ?_
    · exact JX.pnI (by rw [hP, Z23 hpd.le hcm, hbad]; rfl)
    rintro ⟨x2, us2, s2⟩ ⟨hz2, hI2⟩
    try dsimp only [nA, cA]
    refine JO.subL (L' := ownO st ZN (PB T b us2 :: X s2)) Z25 ?_
    refine JO.openT (s := 17) rfl (fun p2 hp2 => ?_)
    have hd2 := (hpd _ _ hz2).2
    have hlt := (Zr hcm).2
    have hle9 := hts.length_le
    refine Jt (Z2h hE (by rw [hs]; exact Z1Y) (by rw [hs]; rfl) (by rw [hs]; decide) rfl) rfl ?_
    refine JO.apO (ys := [p2]) (by rw [hs]; exact Zbn) Cel.hlen .here hG rfl rfl (srcE p2 Z21) (by simp) (by show (ps.length + 1) * 16 ≤ 140737488355328; omega) (by show ps.length + 1 ≤ 9223372036854775807; omega) rfl (fun st2 cap2 hG2 => ?_)
    refine Jt (Z2 rfl) rfl ?_
    apply Ni
    repeat refine JX.normal_block ?_
    refine JX.roundG (x := (ps, st, cap, us, s)) (ps ++ [p2], st2, cap2, us2, s2) ?_ ?_ [0, 1, 2, 7] ?_ ?_ ?_ ?_
    · exact ⟨(show us2 <:+ us.tail from (hpd _ _ hz2).1).trans (Zi hus), (by show (ps ++ [p2]).length + us2.length ≤ ts.length; rw [List.length_append]; show ps.length + 1 + us2.length ≤ ts.length; have : us2.length < us.tail.length := hd2; omega), hG2, (by rw [List.map_append, List.map_singleton, hp2]; exact hI2), (by rw [hP, Z23 hpd.le hcm, hz2, List.map_append, List.map_singleton, hp2, List.map_append]; rfl)⟩
    · exact (by show us2.length < us.length; have : us2.length < us.tail.length := hd2; omega)
    · exact (.cons rfl (.cons rfl (.cons rfl (.cons rfl .nil))))
    · repeat (first | exact .all | exact .nil | refine Has.own (by repeat first | exact .here | apply Tl.past | apply Tl.there) ?_ | refine Has.cons (by repeat (first | exact .here | apply Pk.past | apply Pk.there)) ?_)
    · exact fun G hG => by repeat (first | exact hG | refine List.mem_cons_of_mem _ ?_)
    · exact fun X w hF => fun w' hk => CelF.snoc (hF _ (by repeat first | exact Mh | apply Mt) w' hk) (hF _ List.mem_cons_self w' hk)
  ·
    try simp only [dT, dF] at ht13
    repeat apply Sq
    refine J.exit ?_
    repeat first | refine Ht ?_ | refine Ms rfl ?_ | refine Ep ?_
    repeat first | apply Nx | apply Nb
    have hcm : isT 5 ZV us = false := ht13
    rw [ZQ hcm]
    rw [hG.sl.1]
    repeat apply Sq
    apply Pn
    refine Jt (Z0 rfl) rfl ?_
    refine Jt (Z0 rfl) rfl ?_
    refine Jt (Zq Z21 rfl) rfl ?_
    refine Jt (Z0 rfl) rfl ?_
    refine Jt (Z31 rfl rfl) rfl ?_
    refine JO.callPK (Lr := _) (Z7 (.pointer (some ⟨b, 0, none⟩)) (decide ((ps.length : Int) ≤ (most : Int)))) rfl (Z1a _) Z10 (.one rfl (.one rfl .nil)) (fun hbad => ?_) ?_
    · exact JX.pnI (by rw [hP]; exact Z3K hcm (by rw [List.length_map, List.length_map]; have := of_decide_eq_false hbad; omega))
    intro _ hmo
    try dsimp only [nA, cA]
    apply Ni
    repeat first | apply Nx | apply Nb
    refine Sl [7] (.cons rfl .nil) ?_
    refine J.freezeOMW (e := ZN) (sz := En.sz) hNW Cel.hlen hG .here (fun q hq => ?_) rfl (by rw [List.all_cons, hXo]; rfl) ?_
    · rw [List.map_cons] at hq
      rcases List.mem_cons.1 hq with rfl | hq
      · exact ⟨_, List.mem_cons_self, rfl⟩
      · obtain ⟨o, ho, e⟩ := List.mem_map.1 hq
        obtain ⟨o2, ho2, e2⟩ := hXb s o ho
        exact ⟨o2, List.mem_cons_of_mem _ ho2, e2.trans e⟩
    repeat apply Sq
    apply Pn
    refine Jt (Z0 rfl) rfl ?_
    refine Jt (Z2 rfl) rfl ?_
    apply Ni
    repeat first | apply Nx | apply Nb
    refine Sl [6] (.cons rfl .nil) ?_
    repeat apply Sq
    apply Rt
    repeat first | apply Rp | apply Rb
    refine JX.toP ?_
    exact JX.retL1 (Lr := []) (L1 := fun z : List β × List T3 × S => PB T b z.2.1 :: X z.2.2) (R := fun z => .rep (SlE En (FrS N ZN En.sz) z.1)) rfl (ps.map Cel.x, us, s) ⟨by rw [hP, Z48 hcm, if_pos (by rw [List.length_map, List.length_map]; have := of_decide_eq_true hmo; omega)], hIs⟩ (.of_eq (List.append_nil _).symm) (by rw [List.all_cons, hXo]; rfl) rfl hb0 rfl (Sub.slE hG.sl.2 (by repeat first | exact Mh | apply Mt) (by repeat first | exact Mh | apply Mt) (fun X w hf => hf _ (by repeat first | exact Mh | apply Mt)))
theorem Z82 {α : Type} (N : Nat) (T : Tk) (hc : T.ts.length ≤ T.cap) (h9 : T.ts.length ≤ 2049) (b : Nat) (ts : List T3) (hts : ts <:+ T.ts) (En : Enc α) (hE : En.flat) (hs : En.sz = 1) (part : Ps α) (hpd : Dn part) (most : Nat) (fp : FuncId) (hpart : ∀ us, us <:+ T.ts → us.length ≤ ts.length → CallP Tryz.prog fp [PB T b us] [T.G, AF, NH N] [.is (.pointer (some ⟨b, 0, none⟩))] (part us = none) flt (fun z : α × List T3 => part us = some z) (fun z => [PB T b z.2]) (fun z => .rep (En.T z.1))) :
  CallP Tryz.prog Z4J [PB T b ts] [T.G, AF, NH N] [.is (.pointer (some ⟨b, 0, none⟩)), .is (.int .i64 (most : Int)), .is (fv fp)] (listP most part ts = none) flt (fun z : List α × List T3 => listP most part ts = some z) (fun z => [PB T b z.2]) (fun z => .rep (SlE En (FrS N ZN En.sz) z.1)) :=
 (Z4L (S := Unit) N T hc h9 b ts hts En hE hs part id hpd (fun _ => []) (fun _ _ => True) () trivial (fun _ _ h => by cases h) (fun _ => rfl) most fp [] fun us s l hus hu _ => (hpart us hus (by omega)).map id (fun z => (z.1, z.2, ())) (fun z hz => ⟨hz, trivial⟩) (fun z _ => rfl) (fun z _ => rfl)).map id (fun z => (z.1, z.2.1)) (fun z hz => by have := hz.1; rwa [List.map_id] at this) (fun _ _ => rfl) (fun _ _ => rfl)
theorem Z5T {α β S : Type} (N : Nat) (T : Tk) (hc : T.ts.length ≤ T.cap) (h9 : T.ts.length ≤ 2049) (b : Nat) (ts : List T3) (hts : ts <:+ T.ts) (En : Enc β) (hE : En.flat) (hs : En.sz = 1) (part : Ps α) (proj : β → α) (hpd : Dn part) (X : S → List Own) (I : S → List β → Prop) (s0 : S) (hI0 : I s0 []) (hXb : ∀ s, ∀ o ∈ X s0, ∃ o' ∈ X s, o'.b = o.b) (hXo : ∀ s, (X s).all (fun o => o.T.out) = true) (most : Nat) (fp : FuncId) (cp : List Value) (hpart : ∀ us s l, us <:+ T.ts → l.length + us.length ≤ ts.length → I s l → CallP Tryz.prog fp (PB T b us :: X s) [T.G, AF, NH N] ([.is (.pointer (some ⟨b, 0, none⟩))] ++ cp.map Ty.is) (part us = none) flt (fun z : β × List T3 × S => part us = some (proj z.1, z.2.1) ∧ I z.2.2 (l ++ [z.1])) (fun z => PB T b z.2.1 :: X z.2.2) (fun z => .rep (En.T z.1))) : CallP Tryz.prog Z3z (PB T b ts :: X s0) [T.G, AF, NH N] [.is (.pointer (some ⟨b, 0, none⟩)), .is (.int .i64 (most : Int)), .is (.func (.func fp) #[] cp.toArray)] (listP most part ts = none) flt (fun z : List β × List T3 × S => listP most part ts = some (z.1.map proj, z.2.1) ∧ I z.2.2 z.1) (fun z => PB T b z.2.1 :: X z.2.2) (fun z => .rep (SlE En (FrS N Z1j En.sz) z.1)) :=
CallP.ofN (N := N) (List.mem_cons_of_mem _ (List.mem_cons_of_mem _ List.mem_cons_self)) (fn := Tryz.f110) Tryz.func110 (n := 27) rfl rfl rfl (fun _ _ => by kernel_rfl) fun E W hNW hb0 => by
  repeat apply Sq
  apply Pn
  refine Jt (Z2 rfl) rfl ?_
  apply Ni
  repeat first | apply Nx | apply Nb
  refine Sl [0, 1, 2] (.cons rfl (.cons rfl (.cons rfl .nil))) ?_
  repeat apply Sq
  apply Pn
  refine Jt (Z0 rfl) rfl ?_
  refine Jt (Z0 rfl) rfl ?_
  refine JO.callPvK (cp := cp) (Lr := []) rfl (hpart ts s0 [] hts (by simp) hI0) rfl (.of_eq (List.append_nil _).symm) (fun F hF => by repeat (first | (rcases Mc.1 hF with rfl | hF; · (repeat first | exact Mh | apply Mt)) | (cases hF; done))) (.one rfl .nil) (fun hbad => ?_) ?_
  · exact JX.pnI (by rw [Z1E, hbad]; rfl)
  rintro ⟨x1, us1, s1⟩ ⟨hz1, hI1⟩
  try dsimp only [nA, cA]
  try simp only [List.append_nil]
  refine JO.openT (s := 10) rfl (fun p1 hp1 => ?_)
  refine JO.buildE hE (by rw [hs]; exact Z3V) (by rw [hs]; rfl) (by rw [hs]; decide) rfl rfl (fun b11 => ?_)
  refine Jt (Z2 rfl) rfl ?_
  apply Ni
  repeat first | apply Nx | apply Nb
  refine Sl [0, 1, 2, 7] (.cons rfl (.cons rfl (.cons rfl (.cons rfl .nil)))) ?_
  repeat apply Sq
  apply Bk
  repeat apply Sq
  refine J.loopH (α := List (Cel En) × Option (Nat × List Value) × Nat × List T3 × S) (fun x => [(0, .is (.pointer (some ⟨b, 0, none⟩))), (1, .is (.int .i64 (most : Int))), (2, .is (.func (.func fp) #[] cp.toArray)), (7, .is (sliceO x.2.1 x.1.length x.2.2.1))]) (fun x => ownO x.2.1 Z1j (PB T b x.2.2.2.1 :: X x.2.2.2.2)) (fun x => CelF En x.1) (fun x => x.2.2.2.1 <:+ T.ts ∧ x.1.length + x.2.2.2.1.length ≤ ts.length ∧ Grows Cel.cs En.sz x.1 x.2.1 x.2.2.1 ∧ I x.2.2.2.2 (x.1.map Cel.x) ∧ listP most part ts = listI most part ((x.1.map Cel.x).map proj) x.2.2.2.1) (fun x => x.2.2.2.1.length) ([p1], some (b11, p1.cs), 1, us1, s1) [0, 1, 2, 7] (.cons rfl (.cons rfl (.cons rfl (.cons rfl .nil)))) rfl (fun X w hF => fun w' hk p hp => by rw [List.mem_singleton.1 hp]; exact hF _ List.mem_cons_self w' hk) ⟨(show us1 <:+ ts from (hpd _ _ hz1).1).trans hts, (show 1 + us1.length ≤ ts.length by have : us1.length < ts.length := (hpd _ _ hz1).2; omega), growE p1, (by rw [List.map_singleton, hp1]; exact hI1), (by rw [Z1E, hz1, List.map_singleton, hp1]; rfl)⟩ fun ⟨ps, st, cap, us, s⟩ ⟨hus, hlen, hG, hIs, hP⟩ => ?_
  try dsimp only
  try dsimp only at st
  try dsimp only at cap
  try dsimp only at us
  try dsimp only at s
  try dsimp only at hus
  try dsimp only at hlen
  try dsimp only at hG
  try dsimp only at hIs
  try dsimp only at hP
  repeat apply Sq
  apply Pn
  refine Jt (Z0 rfl) rfl ?_
  refine JO.subL (L' := PB T b us :: ownO st Z1j (X s)) Z1R.symm ?_
  refine JO.callK (Lr := ownO st Z1j (X s)) (Z9 T hc b us hus ZV) rfl (.refl _) (fun F hF => by repeat (first | (rcases Mc.1 hF with rfl | hF; · (repeat first | exact Mh | apply Mt)) | (cases hF; done))) (.one rfl (.one rfl .nil)) ?_
  intro _ _
  try dsimp only [nA, cA]
  refine JO.subL (L' := ownO st Z1j (PB T b (skT 5 ZV us) :: X s)) Z1R ?_
  apply Ni
  repeat first | apply Nx | apply Nb
  refine Sl [0, 1, 2, 7, 13] (.cons rfl (.cons rfl (.cons rfl (.cons rfl (.cons rfl .nil))))) ?_
  repeat apply Sq
  refine Cd rfl (fun ht13 => ?_) (fun ht13 => ?_)
  ·
    try simp only [dT, dF] at ht13
    apply Sk
    repeat first | apply Nx | apply Nb
    repeat apply Sq
    apply Bk
    have hcm : isT 5 ZV us = true := ht13
    rw [ZO hcm]
    repeat apply Sq
    apply Pn
    refine Jt (Z0 rfl) rfl ?_
    refine Jt (Z0 rfl) rfl ?_
    refine Jt (Z0 rfl) rfl ?_
    refine JO.subL (L' := (PB T b us.tail :: X s) ++ ownO st Z1j []) Z25.symm ?_
    refine JO.callPvK (cp := cp) (Lr := ownO st Z1j []) rfl (hpart us.tail s (ps.map Cel.x) (Zi hus) (by have := (Zr hcm).2; rw [List.length_map]; omega) hIs) rfl (.refl _) (fun F hF => by repeat (first | (rcases Mc.1 hF with rfl | hF; · (repeat first | exact Mh | apply Mt)) | (cases hF; done))) (.one rfl .nil) (fun hbad => ?_) ?_
    · exact JX.pnI (by rw [hP, Z23 hpd.le hcm, hbad]; rfl)
    rintro ⟨x2, us2, s2⟩ ⟨hz2, hI2⟩
    try dsimp only [nA, cA]
    refine JO.subL (L' := ownO st Z1j (PB T b us2 :: X s2)) Z25 ?_
    refine JO.openT (s := 17) rfl (fun p2 hp2 => ?_)
    have hd2 := (hpd _ _ hz2).2
    have hlt := (Zr hcm).2
    have hle9 := hts.length_le
    refine Jt (Z2h hE (by rw [hs]; exact Z3V) (by rw [hs]; rfl) (by rw [hs]; decide) rfl) rfl ?_
    refine JO.apO (ys := [p2]) (by rw [hs]; exact Z8K) Cel.hlen .here hG rfl rfl (srcE p2 Z1x) (by simp) (by show (ps.length + 1) * 24 ≤ 140737488355328; omega) (by show ps.length + 1 ≤ 9223372036854775807; omega) rfl (fun st2 cap2 hG2 => ?_)
    refine Jt (Z2 rfl) rfl ?_
    apply Ni
    repeat refine JX.normal_block ?_
    refine JX.roundG (x := (ps, st, cap, us, s)) (ps ++ [p2], st2, cap2, us2, s2) ?_ ?_ [0, 1, 2, 7] ?_ ?_ ?_ ?_
    · exact ⟨(show us2 <:+ us.tail from (hpd _ _ hz2).1).trans (Zi hus), (by show (ps ++ [p2]).length + us2.length ≤ ts.length; rw [List.length_append]; show ps.length + 1 + us2.length ≤ ts.length; have : us2.length < us.tail.length := hd2; omega), hG2, (by rw [List.map_append, List.map_singleton, hp2]; exact hI2), (by rw [hP, Z23 hpd.le hcm, hz2, List.map_append, List.map_singleton, hp2, List.map_append]; rfl)⟩
    · exact (by show us2.length < us.length; have : us2.length < us.tail.length := hd2; omega)
    · exact (.cons rfl (.cons rfl (.cons rfl (.cons rfl .nil))))
    · repeat (first | exact .all | exact .nil | refine Has.own (by repeat first | exact .here | apply Tl.past | apply Tl.there) ?_ | refine Has.cons (by repeat (first | exact .here | apply Pk.past | apply Pk.there)) ?_)
    · exact fun G hG => by repeat (first | exact hG | refine List.mem_cons_of_mem _ ?_)
    · exact fun X w hF => fun w' hk => CelF.snoc (hF _ (by repeat first | exact Mh | apply Mt) w' hk) (hF _ List.mem_cons_self w' hk)
  ·
    try simp only [dT, dF] at ht13
    repeat apply Sq
    refine J.exit ?_
    repeat first | refine Ht ?_ | refine Ms rfl ?_ | refine Ep ?_
    repeat first | apply Nx | apply Nb
    have hcm : isT 5 ZV us = false := ht13
    rw [ZQ hcm]
    rw [hG.sl.1]
    repeat apply Sq
    apply Pn
    refine Jt (Z0 rfl) rfl ?_
    refine Jt (Z0 rfl) rfl ?_
    refine Jt (Zq Z1x rfl) rfl ?_
    refine Jt (Z0 rfl) rfl ?_
    refine Jt (Z31 rfl rfl) rfl ?_
    refine JO.callPK (Lr := _) (Z7 (.pointer (some ⟨b, 0, none⟩)) (decide ((ps.length : Int) ≤ (most : Int)))) rfl (Z1a _) Z10 (.one rfl (.one rfl .nil)) (fun hbad => ?_) ?_
    · exact JX.pnI (by rw [hP]; exact Z3K hcm (by rw [List.length_map, List.length_map]; have := of_decide_eq_false hbad; omega))
    intro _ hmo
    try dsimp only [nA, cA]
    apply Ni
    repeat first | apply Nx | apply Nb
    refine Sl [7] (.cons rfl .nil) ?_
    refine J.freezeOMW (e := Z1j) (sz := En.sz) hNW Cel.hlen hG .here (fun q hq => ?_) rfl (by rw [List.all_cons, hXo]; rfl) ?_
    · rw [List.map_cons] at hq
      rcases List.mem_cons.1 hq with rfl | hq
      · exact ⟨_, List.mem_cons_self, rfl⟩
      · obtain ⟨o, ho, e⟩ := List.mem_map.1 hq
        obtain ⟨o2, ho2, e2⟩ := hXb s o ho
        exact ⟨o2, List.mem_cons_of_mem _ ho2, e2.trans e⟩
    repeat apply Sq
    apply Pn
    refine Jt (Z0 rfl) rfl ?_
    refine Jt (Z2 rfl) rfl ?_
    apply Ni
    repeat first | apply Nx | apply Nb
    refine Sl [6] (.cons rfl .nil) ?_
    repeat apply Sq
    apply Rt
    repeat first | apply Rp | apply Rb
    refine JX.toP ?_
    exact JX.retL1 (Lr := []) (L1 := fun z : List β × List T3 × S => PB T b z.2.1 :: X z.2.2) (R := fun z => .rep (SlE En (FrS N Z1j En.sz) z.1)) rfl (ps.map Cel.x, us, s) ⟨by rw [hP, Z48 hcm, if_pos (by rw [List.length_map, List.length_map]; have := of_decide_eq_true hmo; omega)], hIs⟩ (.of_eq (List.append_nil _).symm) (by rw [List.all_cons, hXo]; rfl) rfl hb0 rfl (Sub.slE hG.sl.2 (by repeat first | exact Mh | apply Mt) (by repeat first | exact Mh | apply Mt) (fun X w hf => hf _ (by repeat first | exact Mh | apply Mt)))
theorem Z3E {α : Type} (N : Nat) (T : Tk) (hc : T.ts.length ≤ T.cap) (h9 : T.ts.length ≤ 2049) (b : Nat) (ts : List T3) (hts : ts <:+ T.ts) (En : Enc α) (hE : En.flat) (hs : En.sz = 1) (part : Ps α) (hpd : Dn part) (most : Nat) (fp : FuncId) (hpart : ∀ us, us <:+ T.ts → us.length ≤ ts.length → CallP Tryz.prog fp [PB T b us] [T.G, AF, NH N] [.is (.pointer (some ⟨b, 0, none⟩))] (part us = none) flt (fun z : α × List T3 => part us = some z) (fun z => [PB T b z.2]) (fun z => .rep (En.T z.1))) :
  CallP Tryz.prog Z3z [PB T b ts] [T.G, AF, NH N] [.is (.pointer (some ⟨b, 0, none⟩)), .is (.int .i64 (most : Int)), .is (fv fp)] (listP most part ts = none) flt (fun z : List α × List T3 => listP most part ts = some z) (fun z => [PB T b z.2]) (fun z => .rep (SlE En (FrS N Z1j En.sz) z.1)) :=
 (Z5T (S := Unit) N T hc h9 b ts hts En hE hs part id hpd (fun _ => []) (fun _ _ => True) () trivial (fun _ _ h => by cases h) (fun _ => rfl) most fp [] fun us s l hus hu _ => (hpart us hus (by omega)).map id (fun z => (z.1, z.2, ())) (fun z hz => ⟨hz, trivial⟩) (fun z _ => rfl) (fun z _ => rfl)).map id (fun z => (z.1, z.2.1)) (fun z hz => by have := hz.1; rwa [List.map_id] at this) (fun _ _ => rfl) (fun _ _ => rfl)
theorem Z6m {α : Type} (N : Nat) (T : Tk) (hc : T.ts.length ≤ T.cap) (h9 : T.ts.length ≤ 2049) (b : Nat) (ts : List T3) (hts : ts <:+ T.ts) (En : Enc α) (hE : En.flat) (hs : En.sz = 8) (part : Ps α) (hpd : Dn part) (fp : FuncId) (hpart : ∀ us, us <:+ T.ts → us.length ≤ ts.length → CallP Tryz.prog fp [PB T b us] [T.G, AF, NH N] [.is (.pointer (some ⟨b, 0, none⟩))] (part us = none) flt (fun z : α × List T3 => part us = some z) (fun z => [PB T b z.2]) (fun z => .rep (En.T z.1))) : CallP Tryz.prog Z6k [PB T b ts] [T.G, AF, NH N] [.is (.pointer (some ⟨b, 0, none⟩)), .is (fv fp)] (withinP part ts = none) flt (fun z : List α × List T3 => withinP part ts = some z) (fun z => [PB T b z.2]) (fun z => .rep (SlE En (FrS N Z6 En.sz) z.1)) :=
CallP.of (fn := Tryz.f112) Tryz.func112 (n := 18) rfl rfl rfl (fun _ _ => by kernel_rfl) fun E W hb0 => by
 repeat apply Sq
 apply Pn
 refine Jt (Z2 rfl) rfl ?_
 apply Ni
 repeat first | apply Nx | apply Nb
 refine Sl [0, 1] (.cons rfl (.cons rfl .nil)) ?_
 repeat apply Sq
 apply Pn
 refine Jt (Z0 rfl) rfl ?_
 refine Jt (Z0 rfl) rfl ?_
 refine JO.callK (Lr := []) (Z9 T hc b ts hts s_lp) rfl (.refl _) (fun F hF => by repeat (first | (rcases Mc.1 hF with rfl | hF; · (repeat first | exact Mh | apply Mt)) | (cases hF; done))) (.one rfl (.one rfl .nil)) ?_
 intro _ _
 try dsimp only [nA, cA]
 refine JO.callPK (Lr := _) (Z7 (.pointer (some ⟨b, 0, none⟩)) (isT 5 s_lp ts)) rfl (Z1a _) Z10 (.one rfl (.one rfl .nil)) (fun hbad => ?_) ?_
 · exact JX.pnI (by unfold withinP; rw [wantN hbad]; rfl)
 intro _ hlp
 try dsimp only [nA, cA]
 apply Ni
 repeat first | apply Nx | apply Nb
 refine Sl [0, 1] (.cons rfl (.cons rfl .nil)) ?_
 rw [ZO hlp]
 repeat apply Sq
 apply Pn
 refine Jt (Z0 rfl) rfl ?_
 refine Jt (Z0 rfl) rfl ?_
 refine JO.callPK (Lr := []) (Z4j N T hc h9 b ts.tail (Zi hts) En hE hs part hpd 16 fp (fun us hus hu => hpart us hus (by have := (Zr hlp).2; omega))) rfl (.refl _) (fun F hF => by repeat (first | (rcases Mc.1 hF with rfl | hF; · (repeat first | exact Mh | apply Mt)) | (cases hF; done))) (.one rfl (.one rfl (.one rfl .nil))) (fun hbad => ?_) ?_
 · exact JX.pnI (by unfold withinP; rw [wantY hlp]; simp only [Option.bind_some]; rw [hbad]; rfl)
 intro z hz
 have hzs : z.2 <:+ T.ts := (Z26 hpd.le 16 _ _ hz).trans (Zi hts)
 try dsimp only [nA, cA]
 refine Jt (Z2 rfl) rfl ?_
 apply Ni
 repeat first | apply Nx | apply Nb
 refine Sl [0, 5] (.cons rfl (.cons rfl .nil)) ?_
 repeat apply Sq
 apply Pn
 refine Jt (Z0 rfl) rfl ?_
 refine Jt (Z0 rfl) rfl ?_
 refine JO.callK (Lr := []) (Z9 T hc b z.2 hzs s_rp) rfl (.refl _) (fun F hF => by repeat (first | (rcases Mc.1 hF with rfl | hF; · (repeat first | exact Mh | apply Mt)) | (cases hF; done))) (.one rfl (.one rfl .nil)) ?_
 intro _ _
 try dsimp only [nA, cA]
 refine JO.callPK (Lr := _) (Z7 (.pointer (some ⟨b, 0, none⟩)) (isT 5 s_rp z.2)) rfl (Z1a _) Z10 (.one rfl (.one rfl .nil)) (fun hbad => ?_) ?_
 · exact JX.pnI (by unfold withinP; rw [wantY hlp]; simp only [Option.bind_some]; rw [hz]; simp only [Option.bind_some]; rw [wantN hbad]; rfl)
 intro _ hrp
 try dsimp only [nA, cA]
 apply Ni
 repeat first | apply Nx | apply Nb
 refine Sl [5] (.cons rfl .nil) ?_
 rw [ZO hrp]
 repeat apply Sq
 apply Pn
 refine Jt (Z0 rfl) rfl ?_
 refine Jt (Z2 rfl) rfl ?_
 apply Ni
 repeat first | apply Nx | apply Nb
 refine Sl [4] (.cons rfl .nil) ?_
 repeat apply Sq
 apply Rt
 repeat first | apply Rp | apply Rb
 refine JX.toP ?_
 exact JX.retL1 (Lr := []) (L1 := fun z : List α × List T3 => [PB T b z.2]) (R := fun z => .rep (SlE En (FrS N Z6 En.sz) z.1)) rfl (z.1, z.2.tail) (by unfold withinP; rw [wantY hlp]; simp only [Option.bind_some]; rw [hz]; simp only [Option.bind_some]; rw [wantY hrp]; rfl) (.refl _) rfl rfl hb0 rfl (Sub.refl _)
theorem Z5E {α : Type} (N : Nat) (T : Tk) (hc : T.ts.length ≤ T.cap) (h9 : T.ts.length ≤ 2049) (b : Nat) (ts : List T3) (hts : ts <:+ T.ts) (En : Enc α) (hE : En.flat) (hs : En.sz = 4) (part : Ps α) (hpd : Dn part) (fp : FuncId) (hpart : ∀ us, us <:+ T.ts → us.length ≤ ts.length → CallP Tryz.prog fp [PB T b us] [T.G, AF, NH N] [.is (.pointer (some ⟨b, 0, none⟩))] (part us = none) flt (fun z : α × List T3 => part us = some z) (fun z => [PB T b z.2]) (fun z => .rep (En.T z.1))) : CallP Tryz.prog Z5y [PB T b ts] [T.G, AF, NH N] [.is (.pointer (some ⟨b, 0, none⟩)), .is (fv fp)] (withinP part ts = none) flt (fun z : List α × List T3 => withinP part ts = some z) (fun z => [PB T b z.2]) (fun z => .rep (SlE En (FrS N ZS En.sz) z.1)) :=
CallP.of (fn := Tryz.f106) Tryz.func106 (n := 18) rfl rfl rfl (fun _ _ => by kernel_rfl) fun E W hb0 => by
 repeat apply Sq
 apply Pn
 refine Jt (Z2 rfl) rfl ?_
 apply Ni
 repeat first | apply Nx | apply Nb
 refine Sl [0, 1] (.cons rfl (.cons rfl .nil)) ?_
 repeat apply Sq
 apply Pn
 refine Jt (Z0 rfl) rfl ?_
 refine Jt (Z0 rfl) rfl ?_
 refine JO.callK (Lr := []) (Z9 T hc b ts hts s_lp) rfl (.refl _) (fun F hF => by repeat (first | (rcases Mc.1 hF with rfl | hF; · (repeat first | exact Mh | apply Mt)) | (cases hF; done))) (.one rfl (.one rfl .nil)) ?_
 intro _ _
 try dsimp only [nA, cA]
 refine JO.callPK (Lr := _) (Z7 (.pointer (some ⟨b, 0, none⟩)) (isT 5 s_lp ts)) rfl (Z1a _) Z10 (.one rfl (.one rfl .nil)) (fun hbad => ?_) ?_
 · exact JX.pnI (by unfold withinP; rw [wantN hbad]; rfl)
 intro _ hlp
 try dsimp only [nA, cA]
 apply Ni
 repeat first | apply Nx | apply Nb
 refine Sl [0, 1] (.cons rfl (.cons rfl .nil)) ?_
 rw [ZO hlp]
 repeat apply Sq
 apply Pn
 refine Jt (Z0 rfl) rfl ?_
 refine Jt (Z0 rfl) rfl ?_
 refine JO.callPK (Lr := []) (Z6i N T hc h9 b ts.tail (Zi hts) En hE hs part hpd 16 fp (fun us hus hu => hpart us hus (by have := (Zr hlp).2; omega))) rfl (.refl _) (fun F hF => by repeat (first | (rcases Mc.1 hF with rfl | hF; · (repeat first | exact Mh | apply Mt)) | (cases hF; done))) (.one rfl (.one rfl (.one rfl .nil))) (fun hbad => ?_) ?_
 · exact JX.pnI (by unfold withinP; rw [wantY hlp]; simp only [Option.bind_some]; rw [hbad]; rfl)
 intro z hz
 have hzs : z.2 <:+ T.ts := (Z26 hpd.le 16 _ _ hz).trans (Zi hts)
 try dsimp only [nA, cA]
 refine Jt (Z2 rfl) rfl ?_
 apply Ni
 repeat first | apply Nx | apply Nb
 refine Sl [0, 5] (.cons rfl (.cons rfl .nil)) ?_
 repeat apply Sq
 apply Pn
 refine Jt (Z0 rfl) rfl ?_
 refine Jt (Z0 rfl) rfl ?_
 refine JO.callK (Lr := []) (Z9 T hc b z.2 hzs s_rp) rfl (.refl _) (fun F hF => by repeat (first | (rcases Mc.1 hF with rfl | hF; · (repeat first | exact Mh | apply Mt)) | (cases hF; done))) (.one rfl (.one rfl .nil)) ?_
 intro _ _
 try dsimp only [nA, cA]
 refine JO.callPK (Lr := _) (Z7 (.pointer (some ⟨b, 0, none⟩)) (isT 5 s_rp z.2)) rfl (Z1a _) Z10 (.one rfl (.one rfl .nil)) (fun hbad => ?_) ?_
 · exact JX.pnI (by unfold withinP; rw [wantY hlp]; simp only [Option.bind_some]; rw [hz]; simp only [Option.bind_some]; rw [wantN hbad]; rfl)
 intro _ hrp
 try dsimp only [nA, cA]
 apply Ni
 repeat first | apply Nx | apply Nb
 refine Sl [5] (.cons rfl .nil) ?_
 rw [ZO hrp]
 repeat apply Sq
 apply Pn
 refine Jt (Z0 rfl) rfl ?_
 refine Jt (Z2 rfl) rfl ?_
 apply Ni
 repeat first | apply Nx | apply Nb
 refine Sl [4] (.cons rfl .nil) ?_
 repeat apply Sq
 apply Rt
 repeat first | apply Rp | apply Rb
 refine JX.toP ?_
 exact JX.retL1 (Lr := []) (L1 := fun z : List α × List T3 => [PB T b z.2]) (R := fun z => .rep (SlE En (FrS N ZS En.sz) z.1)) rfl (z.1, z.2.tail) (by unfold withinP; rw [wantY hlp]; simp only [Option.bind_some]; rw [hz]; simp only [Option.bind_some]; rw [wantY hrp]; rfl) (.refl _) rfl rfl hb0 rfl (Sub.refl _)
theorem Z78 {α : Type} (N : Nat) (T : Tk) (hc : T.ts.length ≤ T.cap) (h9 : T.ts.length ≤ 2049) (b : Nat) (ts : List T3) (hts : ts <:+ T.ts) (En : Enc α) (hE : En.flat) (hs : En.sz = 1) (part : Ps α) (hpd : Dn part) (fp : FuncId) (hpart : ∀ us, us <:+ T.ts → us.length ≤ ts.length → CallP Tryz.prog fp [PB T b us] [T.G, AF, NH N] [.is (.pointer (some ⟨b, 0, none⟩))] (part us = none) flt (fun z : α × List T3 => part us = some z) (fun z => [PB T b z.2]) (fun z => .rep (En.T z.1))) : CallP Tryz.prog Z6U [PB T b ts] [T.G, AF, NH N] [.is (.pointer (some ⟨b, 0, none⟩)), .is (fv fp)] (withinP part ts = none) flt (fun z : List α × List T3 => withinP part ts = some z) (fun z => [PB T b z.2]) (fun z => .rep (SlE En (FrS N ZN En.sz) z.1)) :=
CallP.of (fn := Tryz.f109) Tryz.func109 (n := 18) rfl rfl rfl (fun _ _ => by kernel_rfl) fun E W hb0 => by
 repeat apply Sq
 apply Pn
 refine Jt (Z2 rfl) rfl ?_
 apply Ni
 repeat first | apply Nx | apply Nb
 refine Sl [0, 1] (.cons rfl (.cons rfl .nil)) ?_
 repeat apply Sq
 apply Pn
 refine Jt (Z0 rfl) rfl ?_
 refine Jt (Z0 rfl) rfl ?_
 refine JO.callK (Lr := []) (Z9 T hc b ts hts s_lp) rfl (.refl _) (fun F hF => by repeat (first | (rcases Mc.1 hF with rfl | hF; · (repeat first | exact Mh | apply Mt)) | (cases hF; done))) (.one rfl (.one rfl .nil)) ?_
 intro _ _
 try dsimp only [nA, cA]
 refine JO.callPK (Lr := _) (Z7 (.pointer (some ⟨b, 0, none⟩)) (isT 5 s_lp ts)) rfl (Z1a _) Z10 (.one rfl (.one rfl .nil)) (fun hbad => ?_) ?_
 · exact JX.pnI (by unfold withinP; rw [wantN hbad]; rfl)
 intro _ hlp
 try dsimp only [nA, cA]
 apply Ni
 repeat first | apply Nx | apply Nb
 refine Sl [0, 1] (.cons rfl (.cons rfl .nil)) ?_
 rw [ZO hlp]
 repeat apply Sq
 apply Pn
 refine Jt (Z0 rfl) rfl ?_
 refine Jt (Z0 rfl) rfl ?_
 refine JO.callPK (Lr := []) (Z82 N T hc h9 b ts.tail (Zi hts) En hE hs part hpd 16 fp (fun us hus hu => hpart us hus (by have := (Zr hlp).2; omega))) rfl (.refl _) (fun F hF => by repeat (first | (rcases Mc.1 hF with rfl | hF; · (repeat first | exact Mh | apply Mt)) | (cases hF; done))) (.one rfl (.one rfl (.one rfl .nil))) (fun hbad => ?_) ?_
 · exact JX.pnI (by unfold withinP; rw [wantY hlp]; simp only [Option.bind_some]; rw [hbad]; rfl)
 intro z hz
 have hzs : z.2 <:+ T.ts := (Z26 hpd.le 16 _ _ hz).trans (Zi hts)
 try dsimp only [nA, cA]
 refine Jt (Z2 rfl) rfl ?_
 apply Ni
 repeat first | apply Nx | apply Nb
 refine Sl [0, 5] (.cons rfl (.cons rfl .nil)) ?_
 repeat apply Sq
 apply Pn
 refine Jt (Z0 rfl) rfl ?_
 refine Jt (Z0 rfl) rfl ?_
 refine JO.callK (Lr := []) (Z9 T hc b z.2 hzs s_rp) rfl (.refl _) (fun F hF => by repeat (first | (rcases Mc.1 hF with rfl | hF; · (repeat first | exact Mh | apply Mt)) | (cases hF; done))) (.one rfl (.one rfl .nil)) ?_
 intro _ _
 try dsimp only [nA, cA]
 refine JO.callPK (Lr := _) (Z7 (.pointer (some ⟨b, 0, none⟩)) (isT 5 s_rp z.2)) rfl (Z1a _) Z10 (.one rfl (.one rfl .nil)) (fun hbad => ?_) ?_
 · exact JX.pnI (by unfold withinP; rw [wantY hlp]; simp only [Option.bind_some]; rw [hz]; simp only [Option.bind_some]; rw [wantN hbad]; rfl)
 intro _ hrp
 try dsimp only [nA, cA]
 apply Ni
 repeat first | apply Nx | apply Nb
 refine Sl [5] (.cons rfl .nil) ?_
 rw [ZO hrp]
 repeat apply Sq
 apply Pn
 refine Jt (Z0 rfl) rfl ?_
 refine Jt (Z2 rfl) rfl ?_
 apply Ni
 repeat first | apply Nx | apply Nb
 refine Sl [4] (.cons rfl .nil) ?_
 repeat apply Sq
 apply Rt
 repeat first | apply Rp | apply Rb
 refine JX.toP ?_
 exact JX.retL1 (Lr := []) (L1 := fun z : List α × List T3 => [PB T b z.2]) (R := fun z => .rep (SlE En (FrS N ZN En.sz) z.1)) rfl (z.1, z.2.tail) (by unfold withinP; rw [wantY hlp]; simp only [Option.bind_some]; rw [hz]; simp only [Option.bind_some]; rw [wantY hrp]; rfl) (.refl _) rfl rfl hb0 rfl (Sub.refl _)
end Go.Proofs.YtbedigkncjbggaaGreatDoor
