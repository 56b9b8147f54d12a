/- The parser: lists. No condition. -/
import Derived.Test.YtbedigkncjbggaaGreatDoorXQ4
set_option maxRecDepth 20000
namespace Go.Proofs.YtbedigkncjbggaaGreatDoor
open Go Go.Vc
open Go.Pz
theorem Z6M {α β S : Type} (N : Nat) (T : Tk) (hc : T.ts.length ≤ T.cap) (h9 : T.ts.length ≤ 2049) (b : Nat) (ts : List T3) (hts : ts <:+ T.ts) (En : Enc β) (hE : En.flat) (hs : En.sz = 8) (part : Ps α) (proj : β → α) (hpd : Dn part) (X : S → List Own) (I : S → List β → Prop) (s0 : S) (hI0 : I s0 []) (hXb : ∀ s, ∀ o ∈ X s0, ∃ o' ∈ X s, o'.b = o.b) (hXo : ∀ s, (X s).all (fun o => o.T.out) = true) (most : Nat) (fp : FuncId) (cp : List Value) (hpart : ∀ us s l, us <:+ T.ts → l.length + us.length ≤ ts.length → I s l → CallP Tryz.prog fp (PB T b us :: X s) [T.G, AF, NH N] ([.is (.pointer (some ⟨b, 0, none⟩))] ++ cp.map Ty.is) (part us = none) flt (fun z : β × List T3 × S => part us = some (proj z.1, z.2.1) ∧ I z.2.2 (l ++ [z.1])) (fun z => PB T b z.2.1 :: X z.2.2) (fun z => .rep (En.T z.1))) : CallP Tryz.prog Z43 (PB T b ts :: X s0) [T.G, AF, NH N] [.is (.pointer (some ⟨b, 0, none⟩)), .is (.int .i64 (most : Int)), .is (.func (.func fp) #[] cp.toArray)] (listP most part ts = none) flt (fun z : List β × List T3 × S => listP most part ts = some (z.1.map proj, z.2.1) ∧ I z.2.2 z.1) (fun z => PB T b z.2.1 :: X z.2.2) (fun z => .rep (SlE En (FrS N Z6 En.sz) z.1)) :=
CallP.ofN (N := N) (List.mem_cons_of_mem _ (List.mem_cons_of_mem _ List.mem_cons_self)) (fn := Tryz.f118) Tryz.func118 (n := 27) rfl rfl rfl (fun _ _ => by kernel_rfl) fun E W hNW hb0 => by
  repeat apply Sq
  apply Pn
  refine Jt (Z2 rfl) rfl ?_
  apply Ni
  repeat first | apply Nx | apply Nb
  refine Sl [0, 1, 2] (.cons rfl (.cons rfl (.cons rfl .nil))) ?_
  repeat apply Sq
  apply Pn
  refine Jt (Z0 rfl) rfl ?_
  refine Jt (Z0 rfl) rfl ?_
  refine JO.callPvK (cp := cp) (Lr := []) rfl (hpart ts s0 [] hts (by simp) hI0) rfl (.of_eq (List.append_nil _).symm) (fun F hF => by repeat (first | (rcases Mc.1 hF with rfl | hF; · (repeat first | exact Mh | apply Mt)) | (cases hF; done))) (.one rfl .nil) (fun hbad => ?_) ?_
  · exact JX.pnI (by rw [Z1D, hbad]; rfl)
  rintro ⟨x1, us1, s1⟩ ⟨hz1, hI1⟩
  try dsimp only [nA, cA]
  try simp only [List.append_nil]
  refine JO.openT (s := 10) rfl (fun p1 hp1 => ?_)
  refine JO.buildE hE (by rw [hs]; exact ZJ) (by rw [hs]; rfl) (by rw [hs]; decide) rfl rfl (fun b11 => ?_)
  refine Jt (Z2 rfl) rfl ?_
  apply Ni
  repeat first | apply Nx | apply Nb
  refine Sl [0, 1, 2, 7] (.cons rfl (.cons rfl (.cons rfl (.cons rfl .nil)))) ?_
  repeat apply Sq
  apply Bk
  repeat apply Sq
  refine J.loopH (α := List (Cel En) × Option (Nat × List Value) × Nat × List T3 × S) (fun x => [(0, .is (.pointer (some ⟨b, 0, none⟩))), (1, .is (.int .i64 (most : Int))), (2, .is (.func (.func fp) #[] cp.toArray)), (7, .is (sliceO x.2.1 x.1.length x.2.2.1))]) (fun x => ownO x.2.1 Z6 (PB T b x.2.2.2.1 :: X x.2.2.2.2)) (fun x => CelF En x.1) (fun x => x.2.2.2.1 <:+ T.ts ∧ x.1.length + x.2.2.2.1.length ≤ ts.length ∧ Grows Cel.cs En.sz x.1 x.2.1 x.2.2.1 ∧ I x.2.2.2.2 (x.1.map Cel.x) ∧ listP most part ts = listI most part ((x.1.map Cel.x).map proj) x.2.2.2.1) (fun x => x.2.2.2.1.length) ([p1], some (b11, p1.cs), 1, us1, s1) [0, 1, 2, 7] (.cons rfl (.cons rfl (.cons rfl (.cons rfl .nil)))) rfl (fun X w hF => fun w' hk p hp => by rw [List.mem_singleton.1 hp]; exact hF _ List.mem_cons_self w' hk) ⟨(show us1 <:+ ts from (hpd _ _ hz1).1).trans hts, (show 1 + us1.length ≤ ts.length by have : us1.length < ts.length := (hpd _ _ hz1).2; omega), growE p1, (by rw [List.map_singleton, hp1]; exact hI1), (by rw [Z1D, hz1, List.map_singleton, hp1]; rfl)⟩ fun ⟨ps, st, cap, us, s⟩ ⟨hus, hlen, hG, hIs, hP⟩ => ?_
  try dsimp only
  try dsimp only at st
  try dsimp only at cap
  try dsimp only at us
  try dsimp only at s
  try dsimp only at hus
  try dsimp only at hlen
  try dsimp only at hG
  try dsimp only at hIs
  try dsimp only at hP
  repeat apply Sq
  apply Pn
  refine Jt (Z0 rfl) rfl ?_
  refine JO.subL (L' := PB T b us :: ownO st Z6 (X s)) Z1L.symm ?_
  refine JO.callK (Lr := ownO st Z6 (X s)) (Z9 T hc b us hus Z12) rfl (.refl _) (fun F hF => by repeat (first | (rcases Mc.1 hF with rfl | hF; · (repeat first | exact Mh | apply Mt)) | (cases hF; done))) (.one rfl (.one rfl .nil)) ?_
  intro _ _
  try dsimp only [nA, cA]
  refine JO.subL (L' := ownO st Z6 (PB T b (skT 5 Z12 us) :: X s)) Z1L ?_
  apply Ni
  repeat first | apply Nx | apply Nb
  refine Sl [0, 1, 2, 7, 13] (.cons rfl (.cons rfl (.cons rfl (.cons rfl (.cons rfl .nil))))) ?_
  repeat apply Sq
  refine Cd rfl (fun ht13 => ?_) (fun ht13 => ?_)
  ·
    try simp only [dT, dF] at ht13
    apply Sk
    repeat first | apply Nx | apply Nb
    repeat apply Sq
    apply Bk
    have hcm : isT 5 Z12 us = true := ht13
    rw [ZK hcm]
    repeat apply Sq
    apply Pn
    refine Jt (Z0 rfl) rfl ?_
    refine Jt (Z0 rfl) rfl ?_
    refine Jt (Z0 rfl) rfl ?_
    refine JO.subL (L' := (PB T b us.tail :: X s) ++ ownO st Z6 []) Z20.symm ?_
    refine JO.callPvK (cp := cp) (Lr := ownO st Z6 []) rfl (hpart us.tail s (ps.map Cel.x) (Zj hus) (by have := (Zu hcm).2; rw [List.length_map]; omega) hIs) rfl (.refl _) (fun F hF => by repeat (first | (rcases Mc.1 hF with rfl | hF; · (repeat first | exact Mh | apply Mt)) | (cases hF; done))) (.one rfl .nil) (fun hbad => ?_) ?_
    · exact JX.pnI (by rw [hP, Z21 hpd.le hcm, hbad]; rfl)
    rintro ⟨x2, us2, s2⟩ ⟨hz2, hI2⟩
    try dsimp only [nA, cA]
    refine JO.subL (L' := ownO st Z6 (PB T b us2 :: X s2)) Z20 ?_
    refine JO.openT (s := 17) rfl (fun p2 hp2 => ?_)
    have hd2 := (hpd _ _ hz2).2
    have hlt := (Zu hcm).2
    have hle9 := hts.length_le
    refine Jt (Z2b hE (by rw [hs]; exact ZJ) (by rw [hs]; rfl) (by rw [hs]; decide) rfl) rfl ?_
    refine JO.apO (ys := [p2]) (by rw [hs]; exact Z1b) Cel.hlen .here hG rfl rfl (srcE p2 Zk) (by simp) (by show (ps.length + 1) * 104 ≤ 140737488355328; omega) (by show ps.length + 1 ≤ 9223372036854775807; omega) rfl (fun st2 cap2 hG2 => ?_)
    refine Jt (Z2 rfl) rfl ?_
    apply Ni
    repeat refine JX.normal_block ?_
    refine JX.roundG (x := (ps, st, cap, us, s)) (ps ++ [p2], st2, cap2, us2, s2) ?_ ?_ [0, 1, 2, 7] ?_ ?_ ?_ ?_
    · exact ⟨(show us2 <:+ us.tail from (hpd _ _ hz2).1).trans (Zj hus), (by show (ps ++ [p2]).length + us2.length ≤ ts.length; rw [List.length_append]; show ps.length + 1 + us2.length ≤ ts.length; have : us2.length < us.tail.length := hd2; omega), hG2, (by rw [List.map_append, List.map_singleton, hp2]; exact hI2), (by rw [hP, Z21 hpd.le hcm, hz2, List.map_append, List.map_singleton, hp2, List.map_append]; rfl)⟩
    · exact (by show us2.length < us.length; have : us2.length < us.tail.length := hd2; omega)
    · exact (.cons rfl (.cons rfl (.cons rfl (.cons rfl .nil))))
    · repeat (first | exact .all | exact .nil | refine Has.own (by repeat first | exact .here | apply Tl.past | apply Tl.there) ?_ | refine Has.cons (by repeat (first | exact .here | apply Pk.past | apply Pk.there)) ?_)
    · exact fun G hG => by repeat (first | exact hG | refine List.mem_cons_of_mem _ ?_)
    · exact fun X w hF => fun w' hk => CelF.snoc (hF _ (by repeat first | exact Mh | apply Mt) w' hk) (hF _ List.mem_cons_self w' hk)
  ·
    try simp only [dT, dF] at ht13
    repeat apply Sq
    refine J.exit ?_
    repeat first | refine Ht ?_ | refine Ms rfl ?_ | refine Ep ?_
    repeat first | apply Nx | apply Nb
    have hcm : isT 5 Z12 us = false := ht13
    rw [ZO hcm]
    rw [hG.sl.1]
    repeat apply Sq
    apply Pn
    refine Jt (Z0 rfl) rfl ?_
    refine Jt (Z0 rfl) rfl ?_
    refine Jt (Zq Zk rfl) rfl ?_
    refine Jt (Z0 rfl) rfl ?_
    refine Jt (Z3t rfl rfl) rfl ?_
    refine JO.callPK (Lr := _) (Z8 (.pointer (some ⟨b, 0, none⟩)) (decide ((ps.length : Int) ≤ (most : Int)))) rfl (Z19 _) ZV (.one rfl (.one rfl .nil)) (fun hbad => ?_) ?_
    · exact JX.pnI (by rw [hP]; exact Z3I hcm (by rw [List.length_map, List.length_map]; have := of_decide_eq_false hbad; omega))
    intro _ hmo
    try dsimp only [nA, cA]
    apply Ni
    repeat first | apply Nx | apply Nb
    refine Sl [7] (.cons rfl .nil) ?_
    refine J.freezeOMW (e := Z6) (sz := En.sz) hNW Cel.hlen hG .here (fun q hq => ?_) rfl (by rw [List.all_cons, hXo]; rfl) ?_
    · rw [List.map_cons] at hq
      rcases List.mem_cons.1 hq with rfl | hq
      · exact ⟨_, List.mem_cons_self, rfl⟩
      · obtain ⟨o, ho, e⟩ := List.mem_map.1 hq
        obtain ⟨o2, ho2, e2⟩ := hXb s o ho
        exact ⟨o2, List.mem_cons_of_mem _ ho2, e2.trans e⟩
    repeat apply Sq
    apply Pn
    refine Jt (Z0 rfl) rfl ?_
    refine Jt (Z2 rfl) rfl ?_
    apply Ni
    repeat first | apply Nx | apply Nb
    refine Sl [6] (.cons rfl .nil) ?_
    repeat apply Sq
    apply Rt
    repeat first | apply Rp | apply Rb
    refine JX.toP ?_
    exact JX.retL1 (Lr := []) (L1 := fun z : List β × List T3 × S => PB T b z.2.1 :: X z.2.2) (R := fun z => .rep (SlE En (FrS N Z6 En.sz) z.1)) rfl (ps.map Cel.x, us, s) ⟨by rw [hP, Z3Z hcm, if_pos (by rw [List.length_map, List.length_map]; have := of_decide_eq_true hmo; omega)], hIs⟩ (.of_eq (List.append_nil _).symm) (by rw [List.all_cons, hXo]; rfl) rfl hb0 rfl (Sub.slE hG.sl.2 (by repeat first | exact Mh | apply Mt) (by repeat first | exact Mh | apply Mt) (fun X w hf => hf _ (by repeat first | exact Mh | apply Mt)))
theorem Z4a {α : Type} (N : Nat) (T : Tk) (hc : T.ts.length ≤ T.cap) (h9 : T.ts.length ≤ 2049) (b : Nat) (ts : List T3) (hts : ts <:+ T.ts) (En : Enc α) (hE : En.flat) (hs : En.sz = 8) (part : Ps α) (hpd : Dn part) (most : Nat) (fp : FuncId) (hpart : ∀ us, us <:+ T.ts → us.length ≤ ts.length → CallP Tryz.prog fp [PB T b us] [T.G, AF, NH N] [.is (.pointer (some ⟨b, 0, none⟩))] (part us = none) flt (fun z : α × List T3 => part us = some z) (fun z => [PB T b z.2]) (fun z => .rep (En.T z.1))) :
  CallP Tryz.prog Z43 [PB T b ts] [T.G, AF, NH N] [.is (.pointer (some ⟨b, 0, none⟩)), .is (.int .i64 (most : Int)), .is (fv fp)] (listP most part ts = none) flt (fun z : List α × List T3 => listP most part ts = some z) (fun z => [PB T b z.2]) (fun z => .rep (SlE En (FrS N Z6 En.sz) z.1)) :=
 (Z6M (S := Unit) N T hc h9 b ts hts En hE hs part id hpd (fun _ => []) (fun _ _ => True) () trivial (fun _ _ h => by cases h) (fun _ => rfl) most fp [] fun us s l hus hu _ => (hpart us hus (by omega)).map id (fun z => (z.1, z.2, ())) (fun z hz => ⟨hz, trivial⟩) (fun z _ => rfl) (fun z _ => rfl)).map id (fun z => (z.1, z.2.1)) (fun z hz => by have := hz.1; rwa [List.map_id] at this) (fun _ _ => rfl) (fun _ _ => rfl)
theorem Z6J {α β S : Type} (N : Nat) (T : Tk) (hc : T.ts.length ≤ T.cap) (h9 : T.ts.length ≤ 2049) (b : Nat) (ts : List T3) (hts : ts <:+ T.ts) (En : Enc β) (hE : En.flat) (hs : En.sz = 9) (part : Ps α) (proj : β → α) (hpd : Dn part) (X : S → List Own) (I : S → List β → Prop) (s0 : S) (hI0 : I s0 []) (hXb : ∀ s, ∀ o ∈ X s0, ∃ o' ∈ X s, o'.b = o.b) (hXo : ∀ s, (X s).all (fun o => o.T.out) = true) (most : Nat) (fp : FuncId) (cp : List Value) (hpart : ∀ us s l, us <:+ T.ts → l.length + us.length ≤ ts.length → I s l → CallP Tryz.prog fp (PB T b us :: X s) [T.G, AF, NH N] ([.is (.pointer (some ⟨b, 0, none⟩))] ++ cp.map Ty.is) (part us = none) flt (fun z : β × List T3 × S => part us = some (proj z.1, z.2.1) ∧ I z.2.2 (l ++ [z.1])) (fun z => PB T b z.2.1 :: X z.2.2) (fun z => .rep (En.T z.1))) : CallP Tryz.prog Z44 (PB T b ts :: X s0) [T.G, AF, NH N] [.is (.pointer (some ⟨b, 0, none⟩)), .is (.int .i64 (most : Int)), .is (.func (.func fp) #[] cp.toArray)] (listP most part ts = none) flt (fun z : List β × List T3 × S => listP most part ts = some (z.1.map proj, z.2.1) ∧ I z.2.2 z.1) (fun z => PB T b z.2.1 :: X z.2.2) (fun z => .rep (SlE En (FrS N Z1J En.sz) z.1)) :=
CallP.ofN (N := N) (List.mem_cons_of_mem _ (List.mem_cons_of_mem _ List.mem_cons_self)) (fn := Tryz.f114) Tryz.func114 (n := 27) rfl rfl rfl (fun _ _ => by kernel_rfl) fun E W hNW hb0 => by
  repeat apply Sq
  apply Pn
  refine Jt (Z2 rfl) rfl ?_
  apply Ni
  repeat first | apply Nx | apply Nb
  refine Sl [0, 1, 2] (.cons rfl (.cons rfl (.cons rfl .nil))) ?_
  repeat apply Sq
  apply Pn
  refine Jt (Z0 rfl) rfl ?_
  refine Jt (Z0 rfl) rfl ?_
  refine JO.callPvK (cp := cp) (Lr := []) rfl (hpart ts s0 [] hts (by simp) hI0) rfl (.of_eq (List.append_nil _).symm) (fun F hF => by repeat (first | (rcases Mc.1 hF with rfl | hF; · (repeat first | exact Mh | apply Mt)) | (cases hF; done))) (.one rfl .nil) (fun hbad => ?_) ?_
  · exact JX.pnI (by rw [Z1D, hbad]; rfl)
  rintro ⟨x1, us1, s1⟩ ⟨hz1, hI1⟩
  try dsimp only [nA, cA]
  try simp only [List.append_nil]
  refine JO.openT (s := 10) rfl (fun p1 hp1 => ?_)
  refine JO.buildE hE (by rw [hs]; exact Z6D) (by rw [hs]; rfl) (by rw [hs]; decide) rfl rfl (fun b11 => ?_)
  refine Jt (Z2 rfl) rfl ?_
  apply Ni
  repeat first | apply Nx | apply Nb
  refine Sl [0, 1, 2, 7] (.cons rfl (.cons rfl (.cons rfl (.cons rfl .nil)))) ?_
  repeat apply Sq
  apply Bk
  repeat apply Sq
  refine J.loopH (α := List (Cel En) × Option (Nat × List Value) × Nat × List T3 × S) (fun x => [(0, .is (.pointer (some ⟨b, 0, none⟩))), (1, .is (.int .i64 (most : Int))), (2, .is (.func (.func fp) #[] cp.toArray)), (7, .is (sliceO x.2.1 x.1.length x.2.2.1))]) (fun x => ownO x.2.1 Z1J (PB T b x.2.2.2.1 :: X x.2.2.2.2)) (fun x => CelF En x.1) (fun x => x.2.2.2.1 <:+ T.ts ∧ x.1.length + x.2.2.2.1.length ≤ ts.length ∧ Grows Cel.cs En.sz x.1 x.2.1 x.2.2.1 ∧ I x.2.2.2.2 (x.1.map Cel.x) ∧ listP most part ts = listI most part ((x.1.map Cel.x).map proj) x.2.2.2.1) (fun x => x.2.2.2.1.length) ([p1], some (b11, p1.cs), 1, us1, s1) [0, 1, 2, 7] (.cons rfl (.cons rfl (.cons rfl (.cons rfl .nil)))) rfl (fun X w hF => fun w' hk p hp => by rw [List.mem_singleton.1 hp]; exact hF _ List.mem_cons_self w' hk) ⟨(show us1 <:+ ts from (hpd _ _ hz1).1).trans hts, (show 1 + us1.length ≤ ts.length by have : us1.length < ts.length := (hpd _ _ hz1).2; omega), growE p1, (by rw [List.map_singleton, hp1]; exact hI1), (by rw [Z1D, hz1, List.map_singleton, hp1]; rfl)⟩ fun ⟨ps, st, cap, us, s⟩ ⟨hus, hlen, hG, hIs, hP⟩ => ?_
  try dsimp only
  try dsimp only at st
  try dsimp only at cap
  try dsimp only at us
  try dsimp only at s
  try dsimp only at hus
  try dsimp only at hlen
  try dsimp only at hG
  try dsimp only at hIs
  try dsimp only at hP
  repeat apply Sq
  apply Pn
  refine Jt (Z0 rfl) rfl ?_
  refine JO.subL (L' := PB T b us :: ownO st Z1J (X s)) Z1L.symm ?_
  refine JO.callK (Lr := ownO st Z1J (X s)) (Z9 T hc b us hus Z12) rfl (.refl _) (fun F hF => by repeat (first | (rcases Mc.1 hF with rfl | hF; · (repeat first | exact Mh | apply Mt)) | (cases hF; done))) (.one rfl (.one rfl .nil)) ?_
  intro _ _
  try dsimp only [nA, cA]
  refine JO.subL (L' := ownO st Z1J (PB T b (skT 5 Z12 us) :: X s)) Z1L ?_
  apply Ni
  repeat first | apply Nx | apply Nb
  refine Sl [0, 1, 2, 7, 13] (.cons rfl (.cons rfl (.cons rfl (.cons rfl (.cons rfl .nil))))) ?_
  repeat apply Sq
  refine Cd rfl (fun ht13 => ?_) (fun ht13 => ?_)
  ·
    try simp only [dT, dF] at ht13
    apply Sk
    repeat first | apply Nx | apply Nb
    repeat apply Sq
    apply Bk
    have hcm : isT 5 Z12 us = true := ht13
    rw [ZK hcm]
    repeat apply Sq
    apply Pn
    refine Jt (Z0 rfl) rfl ?_
    refine Jt (Z0 rfl) rfl ?_
    refine Jt (Z0 rfl) rfl ?_
    refine JO.subL (L' := (PB T b us.tail :: X s) ++ ownO st Z1J []) Z20.symm ?_
    refine JO.callPvK (cp := cp) (Lr := ownO st Z1J []) rfl (hpart us.tail s (ps.map Cel.x) (Zj hus) (by have := (Zu hcm).2; rw [List.length_map]; omega) hIs) rfl (.refl _) (fun F hF => by repeat (first | (rcases Mc.1 hF with rfl | hF; · (repeat first | exact Mh | apply Mt)) | (cases hF; done))) (.one rfl .nil) (fun hbad => ?_) ?_
    · exact JX.pnI (by rw [hP, Z21 hpd.le hcm, hbad]; rfl)
    rintro ⟨x2, us2, s2⟩ ⟨hz2, hI2⟩
    try dsimp only [nA, cA]
    refine JO.subL (L' := ownO st Z1J (PB T b us2 :: X s2)) Z20 ?_
    refine JO.openT (s := 17) rfl (fun p2 hp2 => ?_)
    have hd2 := (hpd _ _ hz2).2
    have hlt := (Zu hcm).2
    have hle9 := hts.length_le
    refine Jt (Z2b hE (by rw [hs]; exact Z6D) (by rw [hs]; rfl) (by rw [hs]; decide) rfl) rfl ?_
    refine JO.apO (ys := [p2]) (by rw [hs]; exact Z9A) Cel.hlen .here hG rfl rfl (srcE p2 Z1O) (by simp) (by show (ps.length + 1) * 112 ≤ 140737488355328; omega) (by show ps.length + 1 ≤ 9223372036854775807; omega) rfl (fun st2 cap2 hG2 => ?_)
    refine Jt (Z2 rfl) rfl ?_
    apply Ni
    repeat refine JX.normal_block ?_
    refine JX.roundG (x := (ps, st, cap, us, s)) (ps ++ [p2], st2, cap2, us2, s2) ?_ ?_ [0, 1, 2, 7] ?_ ?_ ?_ ?_
    · exact ⟨(show us2 <:+ us.tail from (hpd _ _ hz2).1).trans (Zj hus), (by show (ps ++ [p2]).length + us2.length ≤ ts.length; rw [List.length_append]; show ps.length + 1 + us2.length ≤ ts.length; have : us2.length < us.tail.length := hd2; omega), hG2, (by rw [List.map_append, List.map_singleton, hp2]; exact hI2), (by rw [hP, Z21 hpd.le hcm, hz2, List.map_append, List.map_singleton, hp2, List.map_append]; rfl)⟩
    · exact (by show us2.length < us.length; have : us2.length < us.tail.length := hd2; omega)
    · exact (.cons rfl (.cons rfl (.cons rfl (.cons rfl .nil))))
    · repeat (first | exact .all | exact .nil | refine Has.own (by repeat first | exact .here | apply Tl.past | apply Tl.there) ?_ | refine Has.cons (by repeat (first | exact .here | apply Pk.past | apply Pk.there)) ?_)
    · exact fun G hG => by repeat (first | exact hG | refine List.mem_cons_of_mem _ ?_)
    · exact fun X w hF => fun w' hk => CelF.snoc (hF _ (by repeat first | exact Mh | apply Mt) w' hk) (hF _ List.mem_cons_self w' hk)
  ·
    try simp only [dT, dF] at ht13
    repeat apply Sq
    refine J.exit ?_
    repeat first | refine Ht ?_ | refine Ms rfl ?_ | refine Ep ?_
    repeat first | apply Nx | apply Nb
    have hcm : isT 5 Z12 us = false := ht13
    rw [ZO hcm]
    rw [hG.sl.1]
    repeat apply Sq
    apply Pn
    refine Jt (Z0 rfl) rfl ?_
    refine Jt (Z0 rfl) rfl ?_
    refine Jt (Zq Z1O rfl) rfl ?_
    refine Jt (Z0 rfl) rfl ?_
    refine Jt (Z3t rfl rfl) rfl ?_
    refine JO.callPK (Lr := _) (Z8 (.pointer (some ⟨b, 0, none⟩)) (decide ((ps.length : Int) ≤ (most : Int)))) rfl (Z19 _) ZV (.one rfl (.one rfl .nil)) (fun hbad => ?_) ?_
    · exact JX.pnI (by rw [hP]; exact Z3I hcm (by rw [List.length_map, List.length_map]; have := of_decide_eq_false hbad; omega))
    intro _ hmo
    try dsimp only [nA, cA]
    apply Ni
    repeat first | apply Nx | apply Nb
    refine Sl [7] (.cons rfl .nil) ?_
    refine J.freezeOMW (e := Z1J) (sz := En.sz) hNW Cel.hlen hG .here (fun q hq => ?_) rfl (by rw [List.all_cons, hXo]; rfl) ?_
    · rw [List.map_cons] at hq
      rcases List.mem_cons.1 hq with rfl | hq
      · exact ⟨_, List.mem_cons_self, rfl⟩
      · obtain ⟨o, ho, e⟩ := List.mem_map.1 hq
        obtain ⟨o2, ho2, e2⟩ := hXb s o ho
        exact ⟨o2, List.mem_cons_of_mem _ ho2, e2.trans e⟩
    repeat apply Sq
    apply Pn
    refine Jt (Z0 rfl) rfl ?_
    refine Jt (Z2 rfl) rfl ?_
    apply Ni
    repeat first | apply Nx | apply Nb
    refine Sl [6] (.cons rfl .nil) ?_
    repeat apply Sq
    apply Rt
    repeat first | apply Rp | apply Rb
    refine JX.toP ?_
    exact JX.retL1 (Lr := []) (L1 := fun z : List β × List T3 × S => PB T b z.2.1 :: X z.2.2) (R := fun z => .rep (SlE En (FrS N Z1J En.sz) z.1)) rfl (ps.map Cel.x, us, s) ⟨by rw [hP, Z3Z hcm, if_pos (by rw [List.length_map, List.length_map]; have := of_decide_eq_true hmo; omega)], hIs⟩ (.of_eq (List.append_nil _).symm) (by rw [List.all_cons, hXo]; rfl) rfl hb0 rfl (Sub.slE hG.sl.2 (by repeat first | exact Mh | apply Mt) (by repeat first | exact Mh | apply Mt) (fun X w hf => hf _ (by repeat first | exact Mh | apply Mt)))
theorem Z6X {α : Type} (N : Nat) (T : Tk) (hc : T.ts.length ≤ T.cap) (h9 : T.ts.length ≤ 2049) (b : Nat) (ts : List T3) (hts : ts <:+ T.ts) (En : Enc α) (hE : En.flat) (hs : En.sz = 9) (part : Ps α) (hpd : Dn part) (most : Nat) (fp : FuncId) (hpart : ∀ us, us <:+ T.ts → us.length ≤ ts.length → CallP Tryz.prog fp [PB T b us] [T.G, AF, NH N] [.is (.pointer (some ⟨b, 0, none⟩))] (part us = none) flt (fun z : α × List T3 => part us = some z) (fun z => [PB T b z.2]) (fun z => .rep (En.T z.1))) :
  CallP Tryz.prog Z44 [PB T b ts] [T.G, AF, NH N] [.is (.pointer (some ⟨b, 0, none⟩)), .is (.int .i64 (most : Int)), .is (fv fp)] (listP most part ts = none) flt (fun z : List α × List T3 => listP most part ts = some z) (fun z => [PB T b z.2]) (fun z => .rep (SlE En (FrS N Z1J En.sz) z.1)) :=
 (Z6J (S := Unit) N T hc h9 b ts hts En hE hs part id hpd (fun _ => []) (fun _ _ => True) () trivial (fun _ _ h => by cases h) (fun _ => rfl) most fp [] fun us s l hus hu _ => (hpart us hus (by omega)).map id (fun z => (z.1, z.2, ())) (fun z hz => ⟨hz, trivial⟩) (fun z _ => rfl) (fun z _ => rfl)).map id (fun z => (z.1, z.2.1)) (fun z hz => by have := hz.1; rwa [List.map_id] at this) (fun _ _ => rfl) (fun _ _ => rfl)
theorem Z7n {α β S : Type} (N : Nat) (T : Tk) (hc : T.ts.length ≤ T.cap) (h9 : T.ts.length ≤ 2049) (b : Nat) (ts : List T3) (hts : ts <:+ T.ts) (En : Enc β) (hE : En.flat) (hs : En.sz = 9) (part : Ps α) (proj : β → α) (hpd : Dn part) (X : S → List Own) (I : S → List β → Prop) (s0 : S) (hI0 : I s0 []) (hXb : ∀ s, ∀ o ∈ X s0, ∃ o' ∈ X s, o'.b = o.b) (hXo : ∀ s, (X s).all (fun o => o.T.out) = true) (most : Nat) (fp : FuncId) (cp : List Value) (hpart : ∀ us s l, us <:+ T.ts → l.length + us.length ≤ ts.length → I s l → CallP Tryz.prog fp (PB T b us :: X s) [T.G, AF, NH N] ([.is (.pointer (some ⟨b, 0, none⟩))] ++ cp.map Ty.is) (part us = none) flt (fun z : β × List T3 × S => part us = some (proj z.1, z.2.1) ∧ I z.2.2 (l ++ [z.1])) (fun z => PB T b z.2.1 :: X z.2.2) (fun z => .rep (En.T z.1))) : CallP Tryz.prog Z4q (PB T b ts :: X s0) [T.G, AF, NH N] [.is (.pointer (some ⟨b, 0, none⟩)), .is (.int .i64 (most : Int)), .is (.func (.func fp) #[] cp.toArray)] (listP most part ts = none) flt (fun z : List β × List T3 × S => listP most part ts = some (z.1.map proj, z.2.1) ∧ I z.2.2 z.1) (fun z => PB T b z.2.1 :: X z.2.2) (fun z => .rep (SlE En (FrS N Z1W En.sz) z.1)) :=
CallP.ofN (N := N) (List.mem_cons_of_mem _ (List.mem_cons_of_mem _ List.mem_cons_self)) (fn := Tryz.f119) Tryz.func119 (n := 27) rfl rfl rfl (fun _ _ => by kernel_rfl) fun E W hNW hb0 => by
  repeat apply Sq
  apply Pn
  refine Jt (Z2 rfl) rfl ?_
  apply Ni
  repeat first | apply Nx | apply Nb
  refine Sl [0, 1, 2] (.cons rfl (.cons rfl (.cons rfl .nil))) ?_
  repeat apply Sq
  apply Pn
  refine Jt (Z0 rfl) rfl ?_
  refine Jt (Z0 rfl) rfl ?_
  refine JO.callPvK (cp := cp) (Lr := []) rfl (hpart ts s0 [] hts (by simp) hI0) rfl (.of_eq (List.append_nil _).symm) (fun F hF => by repeat (first | (rcases Mc.1 hF with rfl | hF; · (repeat first | exact Mh | apply Mt)) | (cases hF; done))) (.one rfl .nil) (fun hbad => ?_) ?_
  · exact JX.pnI (by rw [Z1D, hbad]; rfl)
  rintro ⟨x1, us1, s1⟩ ⟨hz1, hI1⟩
  try dsimp only [nA, cA]
  try simp only [List.append_nil]
  refine JO.openT (s := 10) rfl (fun p1 hp1 => ?_)
  refine JO.buildE hE (by rw [hs]; exact Z7x) (by rw [hs]; rfl) (by rw [hs]; decide) rfl rfl (fun b11 => ?_)
  refine Jt (Z2 rfl) rfl ?_
  apply Ni
  repeat first | apply Nx | apply Nb
  refine Sl [0, 1, 2, 7] (.cons rfl (.cons rfl (.cons rfl (.cons rfl .nil)))) ?_
  repeat apply Sq
  apply Bk
  repeat apply Sq
  refine J.loopH (α := List (Cel En) × Option (Nat × List Value) × Nat × List T3 × S) (fun x => [(0, .is (.pointer (some ⟨b, 0, none⟩))), (1, .is (.int .i64 (most : Int))), (2, .is (.func (.func fp) #[] cp.toArray)), (7, .is (sliceO x.2.1 x.1.length x.2.2.1))]) (fun x => ownO x.2.1 Z1W (PB T b x.2.2.2.1 :: X x.2.2.2.2)) (fun x => CelF En x.1) (fun x => x.2.2.2.1 <:+ T.ts ∧ x.1.length + x.2.2.2.1.length ≤ ts.length ∧ Grows Cel.cs En.sz x.1 x.2.1 x.2.2.1 ∧ I x.2.2.2.2 (x.1.map Cel.x) ∧ listP most part ts = listI most part ((x.1.map Cel.x).map proj) x.2.2.2.1) (fun x => x.2.2.2.1.length) ([p1], some (b11, p1.cs), 1, us1, s1) [0, 1, 2, 7] (.cons rfl (.cons rfl (.cons rfl (.cons rfl .nil)))) rfl (fun X w hF => fun w' hk p hp => by rw [List.mem_singleton.1 hp]; exact hF _ List.mem_cons_self w' hk) ⟨(show us1 <:+ ts from (hpd _ _ hz1).1).trans hts, (show 1 + us1.length ≤ ts.length by have : us1.length < ts.length := (hpd _ _ hz1).2; omega), growE p1, (by rw [List.map_singleton, hp1]; exact hI1), (by rw [Z1D, hz1, List.map_singleton, hp1]; rfl)⟩ fun ⟨ps, st, cap, us, s⟩ ⟨hus, hlen, hG, hIs, hP⟩ => ?_
  try dsimp only
  try dsimp only at st
  try dsimp only at cap
  try dsimp only at us
  try dsimp only at s
  try dsimp only at hus
  try dsimp only at hlen
  try dsimp only at hG
  try dsimp only at hIs
  try dsimp only at hP
  repeat apply Sq
  apply Pn
  refine Jt (Z0 rfl) rfl ?_
  refine JO.subL (L' := PB T b us :: ownO st Z1W (X s)) Z1L.symm ?_
  refine JO.callK (Lr := ownO st Z1W (X s)) (Z9 T hc b us hus Z12) rfl (.refl _) (fun F hF => by repeat (first | (rcases Mc.1 hF with rfl | hF; · (repeat first | exact Mh | apply Mt)) | (cases hF; done))) (.one rfl (.one rfl .nil)) ?_
  intro _ _
  try dsimp only [nA, cA]
  refine JO.subL (L' := ownO st Z1W (PB T b (skT 5 Z12 us) :: X s)) Z1L ?_
  apply Ni
  repeat first | apply Nx | apply Nb
  refine Sl [0, 1, 2, 7, 13] (.cons rfl (.cons rfl (.cons rfl (.cons rfl (.cons rfl .nil))))) ?_
  repeat apply Sq
  refine Cd rfl (fun ht13 => ?_) (fun ht13 => ?_)
  ·
    try simp only [dT, dF] at ht13
    apply Sk
    repeat first | apply Nx | apply Nb
    repeat apply Sq
    apply Bk
    have hcm : isT 5 Z12 us = true := ht13
    rw [ZK hcm]
    repeat apply Sq
    apply Pn
    refine Jt (Z0 rfl) rfl ?_
    refine Jt (Z0 rfl) rfl ?_
    refine Jt (Z0 rfl) rfl ?_
    refine JO.subL (L' := (PB T b us.tail :: X s) ++ ownO st Z1W []) Z20.symm ?_
    refine JO.callPvK (cp := cp) (Lr := ownO st Z1W []) rfl (hpart us.tail s (ps.map Cel.x) (Zj hus) (by have := (Zu hcm).2; rw [List.length_map]; omega) hIs) rfl (.refl _) (fun F hF => by repeat (first | (rcases Mc.1 hF with rfl | hF; · (repeat first | exact Mh | apply Mt)) | (cases hF; done))) (.one rfl .nil) (fun hbad => ?_) ?_
    · exact JX.pnI (by rw [hP, Z21 hpd.le hcm, hbad]; rfl)
    rintro ⟨x2, us2, s2⟩ ⟨hz2, hI2⟩
    try dsimp only [nA, cA]
    refine JO.subL (L' := ownO st Z1W (PB T b us2 :: X s2)) Z20 ?_
    refine JO.openT (s := 17) rfl (fun p2 hp2 => ?_)
    have hd2 := (hpd _ _ hz2).2
    have hlt := (Zu hcm).2
    have hle9 := hts.length_le
    refine Jt (Z2b hE (by rw [hs]; exact Z7x) (by rw [hs]; rfl) (by rw [hs]; decide) rfl) rfl ?_
    refine JO.apO (ys := [p2]) (by rw [hs]; exact Zag) Cel.hlen .here hG rfl rfl (srcE p2 Z2g) (by simp) (by show (ps.length + 1) * 112 ≤ 140737488355328; omega) (by show ps.length + 1 ≤ 9223372036854775807; omega) rfl (fun st2 cap2 hG2 => ?_)
    refine Jt (Z2 rfl) rfl ?_
    apply Ni
    repeat refine JX.normal_block ?_
    refine JX.roundG (x := (ps, st, cap, us, s)) (ps ++ [p2], st2, cap2, us2, s2) ?_ ?_ [0, 1, 2, 7] ?_ ?_ ?_ ?_
    · exact ⟨(show us2 <:+ us.tail from (hpd _ _ hz2).1).trans (Zj hus), (by show (ps ++ [p2]).length + us2.length ≤ ts.length; rw [List.length_append]; show ps.length + 1 + us2.length ≤ ts.length; have : us2.length < us.tail.length := hd2; omega), hG2, (by rw [List.map_append, List.map_singleton, hp2]; exact hI2), (by rw [hP, Z21 hpd.le hcm, hz2, List.map_append, List.map_singleton, hp2, List.map_append]; rfl)⟩
    · exact (by show us2.length < us.length; have : us2.length < us.tail.length := hd2; omega)
    · exact (.cons rfl (.cons rfl (.cons rfl (.cons rfl .nil))))
    · repeat (first | exact .all | exact .nil | refine Has.own (by repeat first | exact .here | apply Tl.past | apply Tl.there) ?_ | refine Has.cons (by repeat (first | exact .here | apply Pk.past | apply Pk.there)) ?_)
    · exact fun G hG => by repeat (first | exact hG | refine List.mem_cons_of_mem _ ?_)
    · exact fun X w hF => fun w' hk => CelF.snoc (hF _ (by repeat first | exact Mh | apply Mt) w' hk) (hF _ List.mem_cons_self w' hk)
  ·
    try simp only [dT, dF] at ht13
    repeat apply Sq
    refine J.exit ?_
    repeat first | refine Ht ?_ | refine Ms rfl ?_ | refine Ep ?_
    repeat first | apply Nx | apply Nb
    have hcm : isT 5 Z12 us = false := ht13
    rw [ZO hcm]
    rw [hG.sl.1]
    repeat apply Sq
    apply Pn
    refine Jt (Z0 rfl) rfl ?_
    refine Jt (Z0 rfl) rfl ?_
    refine Jt (Zq Z2g rfl) rfl ?_
    refine Jt (Z0 rfl) rfl ?_
    refine Jt (Z3t rfl rfl) rfl ?_
    refine JO.callPK (Lr := _) (Z8 (.pointer (some ⟨b, 0, none⟩)) (decide ((ps.length : Int) ≤ (most : Int)))) rfl (Z19 _) ZV (.one rfl (.one rfl .nil)) (fun hbad => ?_) ?_
    · exact JX.pnI (by rw [hP]; exact Z3I hcm (by rw [List.length_map, List.length_map]; have := of_decide_eq_false hbad; omega))
    intro _ hmo
    try dsimp only [nA, cA]
    apply Ni
    repeat first | apply Nx | apply Nb
    refine Sl [7] (.cons rfl .nil) ?_
    refine J.freezeOMW (e := Z1W) (sz := En.sz) hNW Cel.hlen hG .here (fun q hq => ?_) rfl (by rw [List.all_cons, hXo]; rfl) ?_
    · rw [List.map_cons] at hq
      rcases List.mem_cons.1 hq with rfl | hq
      · exact ⟨_, List.mem_cons_self, rfl⟩
      · obtain ⟨o, ho, e⟩ := List.mem_map.1 hq
        obtain ⟨o2, ho2, e2⟩ := hXb s o ho
        exact ⟨o2, List.mem_cons_of_mem _ ho2, e2.trans e⟩
    repeat apply Sq
    apply Pn
    refine Jt (Z0 rfl) rfl ?_
    refine Jt (Z2 rfl) rfl ?_
    apply Ni
    repeat first | apply Nx | apply Nb
    refine Sl [6] (.cons rfl .nil) ?_
    repeat apply Sq
    apply Rt
    repeat first | apply Rp | apply Rb
    refine JX.toP ?_
    exact JX.retL1 (Lr := []) (L1 := fun z : List β × List T3 × S => PB T b z.2.1 :: X z.2.2) (R := fun z => .rep (SlE En (FrS N Z1W En.sz) z.1)) rfl (ps.map Cel.x, us, s) ⟨by rw [hP, Z3Z hcm, if_pos (by rw [List.length_map, List.length_map]; have := of_decide_eq_true hmo; omega)], hIs⟩ (.of_eq (List.append_nil _).symm) (by rw [List.all_cons, hXo]; rfl) rfl hb0 rfl (Sub.slE hG.sl.2 (by repeat first | exact Mh | apply Mt) (by repeat first | exact Mh | apply Mt) (fun X w hf => hf _ (by repeat first | exact Mh | apply Mt)))
theorem Z4w {α : Type} (N : Nat) (T : Tk) (hc : T.ts.length ≤ T.cap) (h9 : T.ts.length ≤ 2049) (b : Nat) (ts : List T3) (hts : ts <:+ T.ts) (En : Enc α) (hE : En.flat) (hs : En.sz = 9) (part : Ps α) (hpd : Dn part) (most : Nat) (fp : FuncId) (hpart : ∀ us, us <:+ T.ts → us.length ≤ ts.length → CallP Tryz.prog fp [PB T b us] [T.G, AF, NH N] [.is (.pointer (some ⟨b, 0, none⟩))] (part us = none) flt (fun z : α × List T3 => part us = some z) (fun z => [PB T b z.2]) (fun z => .rep (En.T z.1))) :
  CallP Tryz.prog Z4q [PB T b ts] [T.G, AF, NH N] [.is (.pointer (some ⟨b, 0, none⟩)), .is (.int .i64 (most : Int)), .is (fv fp)] (listP most part ts = none) flt (fun z : List α × List T3 => listP most part ts = some z) (fun z => [PB T b z.2]) (fun z => .rep (SlE En (FrS N Z1W En.sz) z.1)) :=
 (Z7n (S := Unit) N T hc h9 b ts hts En hE hs part id hpd (fun _ => []) (fun _ _ => True) () trivial (fun _ _ h => by cases h) (fun _ => rfl) most fp [] fun us s l hus hu _ => (hpart us hus (by omega)).map id (fun z => (z.1, z.2, ())) (fun z hz => ⟨hz, trivial⟩) (fun z _ => rfl) (fun z _ => rfl)).map id (fun z => (z.1, z.2.1)) (fun z hz => by have := hz.1; rwa [List.map_id] at this) (fun _ _ => rfl) (fun _ _ => rfl)
theorem Z5Z {α β S : Type} (N : Nat) (T : Tk) (hc : T.ts.length ≤ T.cap) (h9 : T.ts.length ≤ 2049) (b : Nat) (ts : List T3) (hts : ts <:+ T.ts) (En : Enc β) (hE : En.flat) (hs : En.sz = 4) (part : Ps α) (proj : β → α) (hpd : Dn part) (X : S → List Own) (I : S → List β → Prop) (s0 : S) (hI0 : I s0 []) (hXb : ∀ s, ∀ o ∈ X s0, ∃ o' ∈ X s, o'.b = o.b) (hXo : ∀ s, (X s).all (fun o => o.T.out) = true) (most : Nat) (fp : FuncId) (cp : List Value) (hpart : ∀ us s l, us <:+ T.ts → l.length + us.length ≤ ts.length → I s l → CallP Tryz.prog fp (PB T b us :: X s) [T.G, AF, NH N] ([.is (.pointer (some ⟨b, 0, none⟩))] ++ cp.map Ty.is) (part us = none) flt (fun z : β × List T3 × S => part us = some (proj z.1, z.2.1) ∧ I z.2.2 (l ++ [z.1])) (fun z => PB T b z.2.1 :: X z.2.2) (fun z => .rep (En.T z.1))) : CallP Tryz.prog Z3J (PB T b ts :: X s0) [T.G, AF, NH N] [.is (.pointer (some ⟨b, 0, none⟩)), .is (.int .i64 (most : Int)), .is (.func (.func fp) #[] cp.toArray)] (listP most part ts = none) flt (fun z : List β × List T3 × S => listP most part ts = some (z.1.map proj, z.2.1) ∧ I z.2.2 z.1) (fun z => PB T b z.2.1 :: X z.2.2) (fun z => .rep (SlE En (FrS N ZQ En.sz) z.1)) :=
CallP.ofN (N := N) (List.mem_cons_of_mem _ (List.mem_cons_of_mem _ List.mem_cons_self)) (fn := Tryz.f143) Tryz.func143 (n := 27) rfl rfl rfl (fun _ _ => by kernel_rfl) fun E W hNW hb0 => by
  repeat apply Sq
  apply Pn
  refine Jt (Z2 rfl) rfl ?_
  apply Ni
  repeat first | apply Nx | apply Nb
  refine Sl [0, 1, 2] (.cons rfl (.cons rfl (.cons rfl .nil))) ?_
  repeat apply Sq
  apply Pn
  refine Jt (Z0 rfl) rfl ?_
  refine Jt (Z0 rfl) rfl ?_
  refine JO.callPvK (cp := cp) (Lr := []) rfl (hpart ts s0 [] hts (by simp) hI0) rfl (.of_eq (List.append_nil _).symm) (fun F hF => by repeat (first | (rcases Mc.1 hF with rfl | hF; · (repeat first | exact Mh | apply Mt)) | (cases hF; done))) (.one rfl .nil) (fun hbad => ?_) ?_
  · exact JX.pnI (by rw [Z1D, hbad]; rfl)
  rintro ⟨x1, us1, s1⟩ ⟨hz1, hI1⟩
  try dsimp only [nA, cA]
  try simp only [List.append_nil]
  refine JO.openT (s := 10) rfl (fun p1 hp1 => ?_)
  refine JO.buildE hE (by rw [hs]; exact Z5H) (by rw [hs]; rfl) (by rw [hs]; decide) rfl rfl (fun b11 => ?_)
  refine Jt (Z2 rfl) rfl ?_
  apply Ni
  repeat first | apply Nx | apply Nb
  refine Sl [0, 1, 2, 7] (.cons rfl (.cons rfl (.cons rfl (.cons rfl .nil)))) ?_
  repeat apply Sq
  apply Bk
  repeat apply Sq
  refine J.loopH (α := List (Cel En) × Option (Nat × List Value) × Nat × List T3 × S) (fun x => [(0, .is (.pointer (some ⟨b, 0, none⟩))), (1, .is (.int .i64 (most : Int))), (2, .is (.func (.func fp) #[] cp.toArray)), (7, .is (sliceO x.2.1 x.1.length x.2.2.1))]) (fun x => ownO x.2.1 ZQ (PB T b x.2.2.2.1 :: X x.2.2.2.2)) (fun x => CelF En x.1) (fun x => x.2.2.2.1 <:+ T.ts ∧ x.1.length + x.2.2.2.1.length ≤ ts.length ∧ Grows Cel.cs En.sz x.1 x.2.1 x.2.2.1 ∧ I x.2.2.2.2 (x.1.map Cel.x) ∧ listP most part ts = listI most part ((x.1.map Cel.x).map proj) x.2.2.2.1) (fun x => x.2.2.2.1.length) ([p1], some (b11, p1.cs), 1, us1, s1) [0, 1, 2, 7] (.cons rfl (.cons rfl (.cons rfl (.cons rfl .nil)))) rfl (fun X w hF => fun w' hk p hp => by rw [List.mem_singleton.1 hp]; exact hF _ List.mem_cons_self w' hk) ⟨(show us1 <:+ ts from (hpd _ _ hz1).1).trans hts, (show 1 + us1.length ≤ ts.length by have : us1.length < ts.length := (hpd _ _ hz1).2; omega), growE p1, (by rw [List.map_singleton, hp1]; exact hI1), (by rw [Z1D, hz1, List.map_singleton, hp1]; rfl)⟩ fun ⟨ps, st, cap, us, s⟩ ⟨hus, hlen, hG, hIs, hP⟩ => ?_
  try dsimp only
  try dsimp only at st
  try dsimp only at cap
  try dsimp only at us
  try dsimp only at s
  try dsimp only at hus
  try dsimp only at hlen
  try dsimp only at hG
  try dsimp only at hIs
  try dsimp only at hP
  repeat apply Sq
  apply Pn
  refine Jt (Z0 rfl) rfl ?_
  refine JO.subL (L' := PB T b us :: ownO st ZQ (X s)) Z1L.symm ?_
  refine JO.callK (Lr := ownO st ZQ (X s)) (Z9 T hc b us hus Z12) rfl (.refl _) (fun F hF => by repeat (first | (rcases Mc.1 hF with rfl | hF; · (repeat first | exact Mh | apply Mt)) | (cases hF; done))) (.one rfl (.one rfl .nil)) ?_
  intro _ _
  try dsimp only [nA, cA]
  refine JO.subL (L' := ownO st ZQ (PB T b (skT 5 Z12 us) :: X s)) Z1L ?_
  apply Ni
  repeat first | apply Nx | apply Nb
  refine Sl [0, 1, 2, 7, 13] (.cons rfl (.cons rfl (.cons rfl (.cons rfl (.cons rfl .nil))))) ?_
  repeat apply Sq
  refine Cd rfl (fun ht13 => ?_) (fun ht13 => ?_)
  ·
    try simp only [dT, dF] at ht13
    apply Sk
    repeat first | apply Nx | apply Nb
    repeat apply Sq
    apply Bk
    have hcm : isT 5 Z12 us = true := ht13
    rw [ZK hcm]
    repeat apply Sq
    apply Pn
    refine Jt (Z0 rfl) rfl ?_
    refine Jt (Z0 rfl) rfl ?_
    refine Jt (Z0 rfl) rfl ?_
    refine JO.subL (L' := (PB T b us.tail :: X s) ++ ownO st ZQ []) Z20.symm ?_
    refine JO.callPvK (cp := cp) (Lr := ownO st ZQ []) rfl (hpart us.tail s (ps.map Cel.x) (Zj hus) (by have := (Zu hcm).2; rw [List.length_map]; omega) hIs) rfl (.refl _) (fun F hF => by repeat (first | (rcases Mc.1 hF with rfl | hF; · (repeat first | exact Mh | apply Mt)) | (cases hF; done))) (.one rfl .nil) (fun hbad => ?_) ?_
    · exact JX.pnI (by rw [hP, Z21 hpd.le hcm, hbad]; rfl)
    rintro ⟨x2, us2, s2⟩ ⟨hz2, hI2⟩
    try dsimp only [nA, cA]
    refine JO.subL (L' := ownO st ZQ (PB T b us2 :: X s2)) Z20 ?_
    refine JO.openT (s := 17) rfl (fun p2 hp2 => ?_)
    have hd2 := (hpd _ _ hz2).2
    have hlt := (Zu hcm).2
    have hle9 := hts.length_le
    refine Jt (Z2b hE (by rw [hs]; exact Z5H) (by rw [hs]; rfl) (by rw [hs]; decide) rfl) rfl ?_
    refine JO.apO (ys := [p2]) (by rw [hs]; exact Z8E) Cel.hlen .here hG rfl rfl (srcE p2 Z2u) (by simp) (by show (ps.length + 1) * 32 ≤ 140737488355328; omega) (by show ps.length + 1 ≤ 9223372036854775807; omega) rfl (fun st2 cap2 hG2 => ?_)
    refine Jt (Z2 rfl) rfl ?_
    apply Ni
    repeat refine JX.normal_block ?_
    refine JX.roundG (x := (ps, st, cap, us, s)) (ps ++ [p2], st2, cap2, us2, s2) ?_ ?_ [0, 1, 2, 7] ?_ ?_ ?_ ?_
    · exact ⟨(show us2 <:+ us.tail from (hpd _ _ hz2).1).trans (Zj hus), (by show (ps ++ [p2]).length + us2.length ≤ ts.length; rw [List.length_append]; show ps.length + 1 + us2.length ≤ ts.length; have : us2.length < us.tail.length := hd2; omega), hG2, (by rw [List.map_append, List.map_singleton, hp2]; exact hI2), (by rw [hP, Z21 hpd.le hcm, hz2, List.map_append, List.map_singleton, hp2, List.map_append]; rfl)⟩
    · exact (by show us2.length < us.length; have : us2.length < us.tail.length := hd2; omega)
    · exact (.cons rfl (.cons rfl (.cons rfl (.cons rfl .nil))))
    · repeat (first | exact .all | exact .nil | refine Has.own (by repeat first | exact .here | apply Tl.past | apply Tl.there) ?_ | refine Has.cons (by repeat (first | exact .here | apply Pk.past | apply Pk.there)) ?_)
    · exact fun G hG => by repeat (first | exact hG | refine List.mem_cons_of_mem _ ?_)
    · exact fun X w hF => fun w' hk => CelF.snoc (hF _ (by repeat first | exact Mh | apply Mt) w' hk) (hF _ List.mem_cons_self w' hk)
  ·
    try simp only [dT, dF] at ht13
    repeat apply Sq
    refine J.exit ?_
    repeat first | refine Ht ?_ | refine Ms rfl ?_ | refine Ep ?_
    repeat first | apply Nx | apply Nb
    have hcm : isT 5 Z12 us = false := ht13
    rw [ZO hcm]
    rw [hG.sl.1]
    repeat apply Sq
    apply Pn
    refine Jt (Z0 rfl) rfl ?_
    refine Jt (Z0 rfl) rfl ?_
    refine Jt (Zq Z2u rfl) rfl ?_
    refine Jt (Z0 rfl) rfl ?_
    refine Jt (Z3t rfl rfl) rfl ?_
    refine JO.callPK (Lr := _) (Z8 (.pointer (some ⟨b, 0, none⟩)) (decide ((ps.length : Int) ≤ (most : Int)))) rfl (Z19 _) ZV (.one rfl (.one rfl .nil)) (fun hbad => ?_) ?_
    · exact JX.pnI (by rw [hP]; exact Z3I hcm (by rw [List.length_map, List.length_map]; have := of_decide_eq_false hbad; omega))
    intro _ hmo
    try dsimp only [nA, cA]
    apply Ni
    repeat first | apply Nx | apply Nb
    refine Sl [7] (.cons rfl .nil) ?_
    refine J.freezeOMW (e := ZQ) (sz := En.sz) hNW Cel.hlen hG .here (fun q hq => ?_) rfl (by rw [List.all_cons, hXo]; rfl) ?_
    · rw [List.map_cons] at hq
      rcases List.mem_cons.1 hq with rfl | hq
      · exact ⟨_, List.mem_cons_self, rfl⟩
      · obtain ⟨o, ho, e⟩ := List.mem_map.1 hq
        obtain ⟨o2, ho2, e2⟩ := hXb s o ho
        exact ⟨o2, List.mem_cons_of_mem _ ho2, e2.trans e⟩
    repeat apply Sq
    apply Pn
    refine Jt (Z0 rfl) rfl ?_
    refine Jt (Z2 rfl) rfl ?_
    apply Ni
    repeat first | apply Nx | apply Nb
    refine Sl [6] (.cons rfl .nil) ?_
    repeat apply Sq
    apply Rt
    repeat first | apply Rp | apply Rb
    refine JX.toP ?_
    exact JX.retL1 (Lr := []) (L1 := fun z : List β × List T3 × S => PB T b z.2.1 :: X z.2.2) (R := fun z => .rep (SlE En (FrS N ZQ En.sz) z.1)) rfl (ps.map Cel.x, us, s) ⟨by rw [hP, Z3Z hcm, if_pos (by rw [List.length_map, List.length_map]; have := of_decide_eq_true hmo; omega)], hIs⟩ (.of_eq (List.append_nil _).symm) (by rw [List.all_cons, hXo]; rfl) rfl hb0 rfl (Sub.slE hG.sl.2 (by repeat first | exact Mh | apply Mt) (by repeat first | exact Mh | apply Mt) (fun X w hf => hf _ (by repeat first | exact Mh | apply Mt)))
theorem Z62 {α : Type} (N : Nat) (T : Tk) (hc : T.ts.length ≤ T.cap) (h9 : T.ts.length ≤ 2049) (b : Nat) (ts : List T3) (hts : ts <:+ T.ts) (En : Enc α) (hE : En.flat) (hs : En.sz = 4) (part : Ps α) (hpd : Dn part) (most : Nat) (fp : FuncId) (hpart : ∀ us, us <:+ T.ts → us.length ≤ ts.length → CallP Tryz.prog fp [PB T b us] [T.G, AF, NH N] [.is (.pointer (some ⟨b, 0, none⟩))] (part us = none) flt (fun z : α × List T3 => part us = some z) (fun z => [PB T b z.2]) (fun z => .rep (En.T z.1))) :
  CallP Tryz.prog Z3J [PB T b ts] [T.G, AF, NH N] [.is (.pointer (some ⟨b, 0, none⟩)), .is (.int .i64 (most : Int)), .is (fv fp)] (listP most part ts = none) flt (fun z : List α × List T3 => listP most part ts = some z) (fun z => [PB T b z.2]) (fun z => .rep (SlE En (FrS N ZQ En.sz) z.1)) :=
 (Z5Z (S := Unit) N T hc h9 b ts hts En hE hs part id hpd (fun _ => []) (fun _ _ => True) () trivial (fun _ _ h => by cases h) (fun _ => rfl) most fp [] fun us s l hus hu _ => (hpart us hus (by omega)).map id (fun z => (z.1, z.2, ())) (fun z hz => ⟨hz, trivial⟩) (fun z _ => rfl) (fun z _ => rfl)).map id (fun z => (z.1, z.2.1)) (fun z hz => by have := hz.1; rwa [List.map_id] at this) (fun _ _ => rfl) (fun _ _ => rfl)
theorem Z4B {α β S : Type} (N : Nat) (T : Tk) (hc : T.ts.length ≤ T.cap) (h9 : T.ts.length ≤ 2049) (b : Nat) (ts : List T3) (hts : ts <:+ T.ts) (En : Enc β) (hE : En.flat) (hs : En.sz = 1) (part : Ps α) (proj : β → α) (hpd : Dn part) (X : S → List Own) (I : S → List β → Prop) (s0 : S) (hI0 : I s0 []) (hXb : ∀ s, ∀ o ∈ X s0, ∃ o' ∈ X s, o'.b = o.b) (hXo : ∀ s, (X s).all (fun o => o.T.out) = true) (most : Nat) (fp : FuncId) (cp : List Value) (hpart : ∀ us s l, us <:+ T.ts → l.length + us.length ≤ ts.length → I s l → CallP Tryz.prog fp (PB T b us :: X s) [T.G, AF, NH N] ([.is (.pointer (some ⟨b, 0, none⟩))] ++ cp.map Ty.is) (part us = none) flt (fun z : β × List T3 × S => part us = some (proj z.1, z.2.1) ∧ I z.2.2 (l ++ [z.1])) (fun z => PB T b z.2.1 :: X z.2.2) (fun z => .rep (En.T z.1))) : CallP Tryz.prog Z4A (PB T b ts :: X s0) [T.G, AF, NH N] [.is (.pointer (some ⟨b, 0, none⟩)), .is (.int .i64 (most : Int)), .is (.func (.func fp) #[] cp.toArray)] (listP most part ts = none) flt (fun z : List β × List T3 × S => listP most part ts = some (z.1.map proj, z.2.1) ∧ I z.2.2 z.1) (fun z => PB T b z.2.1 :: X z.2.2) (fun z => .rep (SlE En (FrS N Z1g En.sz) z.1)) :=
CallP.ofN (N := N) (List.mem_cons_of_mem _ (List.mem_cons_of_mem _ List.mem_cons_self)) (fn := Tryz.f121) Tryz.func121 (n := 27) rfl rfl rfl (fun _ _ => by kernel_rfl) fun E W hNW hb0 => by
  repeat apply Sq
  apply Pn
  refine Jt (Z2 rfl) rfl ?_
  apply Ni
  repeat first | apply Nx | apply Nb
  refine Sl [0, 1, 2] (.cons rfl (.cons rfl (.cons rfl .nil))) ?_
  repeat apply Sq
  apply Pn
  refine Jt (Z0 rfl) rfl ?_
  refine Jt (Z0 rfl) rfl ?_
  refine JO.callPvK (cp := cp) (Lr := []) rfl (hpart ts s0 [] hts (by simp) hI0) rfl (.of_eq (List.append_nil _).symm) (fun F hF => by repeat (first | (rcases Mc.1 hF with rfl | hF; · (repeat first | exact Mh | apply Mt)) | (cases hF; done))) (.one rfl .nil) (fun hbad => ?_) ?_
  · exact JX.pnI (by rw [Z1D, hbad]; rfl)
  rintro ⟨x1, us1, s1⟩ ⟨hz1, hI1⟩
  try dsimp only [nA, cA]
  try simp only [List.append_nil]
  refine JO.openT (s := 10) rfl (fun p1 hp1 => ?_)
  refine JO.buildE hE (by rw [hs]; exact Z1T) (by rw [hs]; rfl) (by rw [hs]; decide) rfl rfl (fun b11 => ?_)
  refine Jt (Z2 rfl) rfl ?_
  apply Ni
  repeat first | apply Nx | apply Nb
  refine Sl [0, 1, 2, 7] (.cons rfl (.cons rfl (.cons rfl (.cons rfl .nil)))) ?_
  repeat apply Sq
  apply Bk
  repeat apply Sq
  refine J.loopH (α := List (Cel En) × Option (Nat × List Value) × Nat × List T3 × S) (fun x => [(0, .is (.pointer (some ⟨b, 0, none⟩))), (1, .is (.int .i64 (most : Int))), (2, .is (.func (.func fp) #[] cp.toArray)), (7, .is (sliceO x.2.1 x.1.length x.2.2.1))]) (fun x => ownO x.2.1 Z1g (PB T b x.2.2.2.1 :: X x.2.2.2.2)) (fun x => CelF En x.1) (fun x => x.2.2.2.1 <:+ T.ts ∧ x.1.length + x.2.2.2.1.length ≤ ts.length ∧ Grows Cel.cs En.sz x.1 x.2.1 x.2.2.1 ∧ I x.2.2.2.2 (x.1.map Cel.x) ∧ listP most part ts = listI most part ((x.1.map Cel.x).map proj) x.2.2.2.1) (fun x => x.2.2.2.1.length) ([p1], some (b11, p1.cs), 1, us1, s1) [0, 1, 2, 7] (.cons rfl (.cons rfl (.cons rfl (.cons rfl .nil)))) rfl (fun X w hF => fun w' hk p hp => by rw [List.mem_singleton.1 hp]; exact hF _ List.mem_cons_self w' hk) ⟨(show us1 <:+ ts from (hpd _ _ hz1).1).trans hts, (show 1 + us1.length ≤ ts.length by have : us1.length < ts.length := (hpd _ _ hz1).2; omega), growE p1, (by rw [List.map_singleton, hp1]; exact hI1), (by rw [Z1D, hz1, List.map_singleton, hp1]; rfl)⟩ fun ⟨ps, st, cap, us, s⟩ ⟨hus, hlen, hG, hIs, hP⟩ => ?_
  try dsimp only
  try dsimp only at st
  try dsimp only at cap
  try dsimp only at us
  try dsimp only at s
  try dsimp only at hus
  try dsimp only at hlen
  try dsimp only at hG
  try dsimp only at hIs
  try dsimp only at hP
  repeat apply Sq
  apply Pn
  refine Jt (Z0 rfl) rfl ?_
  refine JO.subL (L' := PB T b us :: ownO st Z1g (X s)) Z1L.symm ?_
  refine JO.callK (Lr := ownO st Z1g (X s)) (Z9 T hc b us hus Z12) rfl (.refl _) (fun F hF => by repeat (first | (rcases Mc.1 hF with rfl | hF; · (repeat first | exact Mh | apply Mt)) | (cases hF; done))) (.one rfl (.one rfl .nil)) ?_
  intro _ _
  try dsimp only [nA, cA]
  refine JO.subL (L' := ownO st Z1g (PB T b (skT 5 Z12 us) :: X s)) Z1L ?_
  apply Ni
  repeat first | apply Nx | apply Nb
  refine Sl [0, 1, 2, 7, 13] (.cons rfl (.cons rfl (.cons rfl (.cons rfl (.cons rfl .nil))))) ?_
  repeat apply Sq
  refine Cd rfl (fun ht13 => ?_) (fun ht13 => ?_)
  ·
    try simp only [dT, dF] at ht13
    apply Sk
    repeat first | apply Nx | apply Nb
    repeat apply Sq
    apply Bk
    have hcm : isT 5 Z12 us = true := ht13
    rw [ZK hcm]
    repeat apply Sq
    apply Pn
    refine Jt (Z0 rfl) rfl ?_
    refine Jt (Z0 rfl) rfl ?_
    refine Jt (Z0 rfl) rfl ?_
    refine JO.subL (L' := (PB T b us.tail :: X s) ++ ownO st Z1g []) Z20.symm ?_
    refine JO.callPvK (cp := cp) (Lr := ownO st Z1g []) rfl (hpart us.tail s (ps.map Cel.x) (Zj hus) (by have := (Zu hcm).2; rw [List.length_map]; omega) hIs) rfl (.refl _) (fun F hF => by repeat (first | (rcases Mc.1 hF with rfl | hF; · (repeat first | exact Mh | apply Mt)) | (cases hF; done))) (.one rfl .nil) (fun hbad => ?_) ?_
    · exact JX.pnI (by rw [hP, Z21 hpd.le hcm, hbad]; rfl)
    rintro ⟨x2, us2, s2⟩ ⟨hz2, hI2⟩
    try dsimp only [nA, cA]
    refine JO.subL (L' := ownO st Z1g (PB T b us2 :: X s2)) Z20 ?_
    refine JO.openT (s := 17) rfl (fun p2 hp2 => ?_)
    have hd2 := (hpd _ _ hz2).2
    have hlt := (Zu hcm).2
    have hle9 := hts.length_le
    refine Jt (Z2b hE (by rw [hs]; exact Z1T) (by rw [hs]; rfl) (by rw [hs]; decide) rfl) rfl ?_
    refine JO.apO (ys := [p2]) (by rw [hs]; exact ZaH) Cel.hlen .here hG rfl rfl (srcE p2 Z1X) (by simp) (by show (ps.length + 1) * 16 ≤ 140737488355328; omega) (by show ps.length + 1 ≤ 9223372036854775807; omega) rfl (fun st2 cap2 hG2 => ?_)
    refine Jt (Z2 rfl) rfl ?_
    apply Ni
    repeat refine JX.normal_block ?_
    refine JX.roundG (x := (ps, st, cap, us, s)) (ps ++ [p2], st2, cap2, us2, s2) ?_ ?_ [0, 1, 2, 7] ?_ ?_ ?_ ?_
    · exact ⟨(show us2 <:+ us.tail from (hpd _ _ hz2).1).trans (Zj hus), (by show (ps ++ [p2]).length + us2.length ≤ ts.length; rw [List.length_append]; show ps.length + 1 + us2.length ≤ ts.length; have : us2.length < us.tail.length := hd2; omega), hG2, (by rw [List.map_append, List.map_singleton, hp2]; exact hI2), (by rw [hP, Z21 hpd.le hcm, hz2, List.map_append, List.map_singleton, hp2, List.map_append]; rfl)⟩
    · exact (by show us2.length < us.length; have : us2.length < us.tail.length := hd2; omega)
    · exact (.cons rfl (.cons rfl (.cons rfl (.cons rfl .nil))))
    · repeat (first | exact .all | exact .nil | refine Has.own (by repeat first | exact .here | apply Tl.past | apply Tl.there) ?_ | refine Has.cons (by repeat (first | exact .here | apply Pk.past | apply Pk.there)) ?_)
    · exact fun G hG => by repeat (first | exact hG | refine List.mem_cons_of_mem _ ?_)
    · exact fun X w hF => fun w' hk => CelF.snoc (hF _ (by repeat first | exact Mh | apply Mt) w' hk) (hF _ List.mem_cons_self w' hk)
  ·
    try simp only [dT, dF] at ht13
    repeat apply Sq
    refine J.exit ?_
    repeat first | refine Ht ?_ | refine Ms rfl ?_ | refine Ep ?_
    repeat first | apply Nx | apply Nb
    have hcm : isT 5 Z12 us = false := ht13
    rw [ZO hcm]
    rw [hG.sl.1]
    repeat apply Sq
    apply Pn
    refine Jt (Z0 rfl) rfl ?_
    refine Jt (Z0 rfl) rfl ?_
    refine Jt (Zq Z1X rfl) rfl ?_
    refine Jt (Z0 rfl) rfl ?_
    refine Jt (Z3t rfl rfl) rfl ?_
    refine JO.callPK (Lr := _) (Z8 (.pointer (some ⟨b, 0, none⟩)) (decide ((ps.length : Int) ≤ (most : Int)))) rfl (Z19 _) ZV (.one rfl (.one rfl .nil)) (fun hbad => ?_) ?_
    · exact JX.pnI (by rw [hP]; exact Z3I hcm (by rw [List.length_map, List.length_map]; have := of_decide_eq_false hbad; omega))
    intro _ hmo
    try dsimp only [nA, cA]
    apply Ni
    repeat first | apply Nx | apply Nb
    refine Sl [7] (.cons rfl .nil) ?_
    refine J.freezeOMW (e := Z1g) (sz := En.sz) hNW Cel.hlen hG .here (fun q hq => ?_) rfl (by rw [List.all_cons, hXo]; rfl) ?_
    · rw [List.map_cons] at hq
      rcases List.mem_cons.1 hq with rfl | hq
      · exact ⟨_, List.mem_cons_self, rfl⟩
      · obtain ⟨o, ho, e⟩ := List.mem_map.1 hq
        obtain ⟨o2, ho2, e2⟩ := hXb s o ho
        exact ⟨o2, List.mem_cons_of_mem _ ho2, e2.trans e⟩
    repeat apply Sq
    apply Pn
    refine Jt (Z0 rfl) rfl ?_
    refine Jt (Z2 rfl) rfl ?_
    apply Ni
    repeat first | apply Nx | apply Nb
    refine Sl [6] (.cons rfl .nil) ?_
    repeat apply Sq
    apply Rt
    repeat first | apply Rp | apply Rb
    refine JX.toP ?_
    exact JX.retL1 (Lr := []) (L1 := fun z : List β × List T3 × S => PB T b z.2.1 :: X z.2.2) (R := fun z => .rep (SlE En (FrS N Z1g En.sz) z.1)) rfl (ps.map Cel.x, us, s) ⟨by rw [hP, Z3Z hcm, if_pos (by rw [List.length_map, List.length_map]; have := of_decide_eq_true hmo; omega)], hIs⟩ (.of_eq (List.append_nil _).symm) (by rw [List.all_cons, hXo]; rfl) rfl hb0 rfl (Sub.slE hG.sl.2 (by repeat first | exact Mh | apply Mt) (by repeat first | exact Mh | apply Mt) (fun X w hf => hf _ (by repeat first | exact Mh | apply Mt)))
theorem Z7H {α : Type} (N : Nat) (T : Tk) (hc : T.ts.length ≤ T.cap) (h9 : T.ts.length ≤ 2049) (b : Nat) (ts : List T3) (hts : ts <:+ T.ts) (En : Enc α) (hE : En.flat) (hs : En.sz = 1) (part : Ps α) (hpd : Dn part) (most : Nat) (fp : FuncId) (hpart : ∀ us, us <:+ T.ts → us.length ≤ ts.length → CallP Tryz.prog fp [PB T b us] [T.G, AF, NH N] [.is (.pointer (some ⟨b, 0, none⟩))] (part us = none) flt (fun z : α × List T3 => part us = some z) (fun z => [PB T b z.2]) (fun z => .rep (En.T z.1))) :
  CallP Tryz.prog Z4A [PB T b ts] [T.G, AF, NH N] [.is (.pointer (some ⟨b, 0, none⟩)), .is (.int .i64 (most : Int)), .is (fv fp)] (listP most part ts = none) flt (fun z : List α × List T3 => listP most part ts = some z) (fun z => [PB T b z.2]) (fun z => .rep (SlE En (FrS N Z1g En.sz) z.1)) :=
 (Z4B (S := Unit) N T hc h9 b ts hts En hE hs part id hpd (fun _ => []) (fun _ _ => True) () trivial (fun _ _ h => by cases h) (fun _ => rfl) most fp [] fun us s l hus hu _ => (hpart us hus (by omega)).map id (fun z => (z.1, z.2, ())) (fun z hz => ⟨hz, trivial⟩) (fun z _ => rfl) (fun z _ => rfl)).map id (fun z => (z.1, z.2.1)) (fun z hz => by have := hz.1; rwa [List.map_id] at this) (fun _ _ => rfl) (fun _ _ => rfl)
theorem Z5A {α β S : Type} (N : Nat) (T : Tk) (hc : T.ts.length ≤ T.cap) (h9 : T.ts.length ≤ 2049) (b : Nat) (ts : List T3) (hts : ts <:+ T.ts) (En : Enc β) (hE : En.flat) (hs : En.sz = 1) (part : Ps α) (proj : β → α) (hpd : Dn part) (X : S → List Own) (I : S → List β → Prop) (s0 : S) (hI0 : I s0 []) (hXb : ∀ s, ∀ o ∈ X s0, ∃ o' ∈ X s, o'.b = o.b) (hXo : ∀ s, (X s).all (fun o => o.T.out) = true) (most : Nat) (fp : FuncId) (cp : List Value) (hpart : ∀ us s l, us <:+ T.ts → l.length + us.length ≤ ts.length → I s l → CallP Tryz.prog fp (PB T b us :: X s) [T.G, AF, NH N] ([.is (.pointer (some ⟨b, 0, none⟩))] ++ cp.map Ty.is) (part us = none) flt (fun z : β × List T3 × S => part us = some (proj z.1, z.2.1) ∧ I z.2.2 (l ++ [z.1])) (fun z => PB T b z.2.1 :: X z.2.2) (fun z => .rep (En.T z.1))) : CallP Tryz.prog Z3A (PB T b ts :: X s0) [T.G, AF, NH N] [.is (.pointer (some ⟨b, 0, none⟩)), .is (.int .i64 (most : Int)), .is (.func (.func fp) #[] cp.toArray)] (listP most part ts = none) flt (fun z : List β × List T3 × S => listP most part ts = some (z.1.map proj, z.2.1) ∧ I z.2.2 z.1) (fun z => PB T b z.2.1 :: X z.2.2) (fun z => .rep (SlE En (FrS N Z1k En.sz) z.1)) :=
CallP.ofN (N := N) (List.mem_cons_of_mem _ (List.mem_cons_of_mem _ List.mem_cons_self)) (fn := Tryz.f110) Tryz.func110 (n := 27) rfl rfl rfl (fun _ _ => by kernel_rfl) fun E W hNW hb0 => by
  repeat apply Sq
  apply Pn
  refine Jt (Z2 rfl) rfl ?_
  apply Ni
  repeat first | apply Nx | apply Nb
  refine Sl [0, 1, 2] (.cons rfl (.cons rfl (.cons rfl .nil))) ?_
  repeat apply Sq
  apply Pn
  refine Jt (Z0 rfl) rfl ?_
  refine Jt (Z0 rfl) rfl ?_
  refine JO.callPvK (cp := cp) (Lr := []) rfl (hpart ts s0 [] hts (by simp) hI0) rfl (.of_eq (List.append_nil _).symm) (fun F hF => by repeat (first | (rcases Mc.1 hF with rfl | hF; · (repeat first | exact Mh | apply Mt)) | (cases hF; done))) (.one rfl .nil) (fun hbad => ?_) ?_
  · exact JX.pnI (by rw [Z1D, hbad]; rfl)
  rintro ⟨x1, us1, s1⟩ ⟨hz1, hI1⟩
  try dsimp only [nA, cA]
  try simp only [List.append_nil]
  refine JO.openT (s := 10) rfl (fun p1 hp1 => ?_)
  refine JO.buildE hE (by rw [hs]; exact Z3N) (by rw [hs]; rfl) (by rw [hs]; decide) rfl rfl (fun b11 => ?_)
  refine Jt (Z2 rfl) rfl ?_
  apply Ni
  repeat first | apply Nx | apply Nb
  refine Sl [0, 1, 2, 7] (.cons rfl (.cons rfl (.cons rfl (.cons rfl .nil)))) ?_
  repeat apply Sq
  apply Bk
  repeat apply Sq
  refine J.loopH (α := List (Cel En) × Option (Nat × List Value) × Nat × List T3 × S) (fun x => [(0, .is (.pointer (some ⟨b, 0, none⟩))), (1, .is (.int .i64 (most : Int))), (2, .is (.func (.func fp) #[] cp.toArray)), (7, .is (sliceO x.2.1 x.1.length x.2.2.1))]) (fun x => ownO x.2.1 Z1k (PB T b x.2.2.2.1 :: X x.2.2.2.2)) (fun x => CelF En x.1) (fun x => x.2.2.2.1 <:+ T.ts ∧ x.1.length + x.2.2.2.1.length ≤ ts.length ∧ Grows Cel.cs En.sz x.1 x.2.1 x.2.2.1 ∧ I x.2.2.2.2 (x.1.map Cel.x) ∧ listP most part ts = listI most part ((x.1.map Cel.x).map proj) x.2.2.2.1) (fun x => x.2.2.2.1.length) ([p1], some (b11, p1.cs), 1, us1, s1) [0, 1, 2, 7] (.cons rfl (.cons rfl (.cons rfl (.cons rfl .nil)))) rfl (fun X w hF => fun w' hk p hp => by rw [List.mem_singleton.1 hp]; exact hF _ List.mem_cons_self w' hk) ⟨(show us1 <:+ ts from (hpd _ _ hz1).1).trans hts, (show 1 + us1.length ≤ ts.length by have : us1.length < ts.length := (hpd _ _ hz1).2; omega), growE p1, (by rw [List.map_singleton, hp1]; exact hI1), (by rw [Z1D, hz1, List.map_singleton, hp1]; rfl)⟩ fun ⟨ps, st, cap, us, s⟩ ⟨hus, hlen, hG, hIs, hP⟩ => ?_
  try dsimp only
  try dsimp only at st
  try dsimp only at cap
  try dsimp only at us
  try dsimp only at s
  try dsimp only at hus
  try dsimp only at hlen
  try dsimp only at hG
  try dsimp only at hIs
  try dsimp only at hP
  repeat apply Sq
  apply Pn
  refine Jt (Z0 rfl) rfl ?_
  refine JO.subL (L' := PB T b us :: ownO st Z1k (X s)) Z1L.symm ?_
  refine JO.callK (Lr := ownO st Z1k (X s)) (Z9 T hc b us hus Z12) rfl (.refl _) (fun F hF => by repeat (first | (rcases Mc.1 hF with rfl | hF; · (repeat first | exact Mh | apply Mt)) | (cases hF; done))) (.one rfl (.one rfl .nil)) ?_
  intro _ _
  try dsimp only [nA, cA]
  refine JO.subL (L' := ownO st Z1k (PB T b (skT 5 Z12 us) :: X s)) Z1L ?_
  apply Ni
  repeat first | apply Nx | apply Nb
  refine Sl [0, 1, 2, 7, 13] (.cons rfl (.cons rfl (.cons rfl (.cons rfl (.cons rfl .nil))))) ?_
  repeat apply Sq
  refine Cd rfl (fun ht13 => ?_) (fun ht13 => ?_)
  ·
    try simp only [dT, dF] at ht13
    apply Sk
    repeat first | apply Nx | apply Nb
    repeat apply Sq
    apply Bk
    have hcm : isT 5 Z12 us = true := ht13
    rw [ZK hcm]
    repeat apply Sq
    apply Pn
    refine Jt (Z0 rfl) rfl ?_
    refine Jt (Z0 rfl) rfl ?_
    refine Jt (Z0 rfl) rfl ?_
    refine JO.subL (L' := (PB T b us.tail :: X s) ++ ownO st Z1k []) Z20.symm ?_
    refine JO.callPvK (cp := cp) (Lr := ownO st Z1k []) rfl (hpart us.tail s (ps.map Cel.x) (Zj hus) (by have := (Zu hcm).2; rw [List.length_map]; omega) hIs) rfl (.refl _) (fun F hF => by repeat (first | (rcases Mc.1 hF with rfl | hF; · (repeat first | exact Mh | apply Mt)) | (cases hF; done))) (.one rfl .nil) (fun hbad => ?_) ?_
    · exact JX.pnI (by rw [hP, Z21 hpd.le hcm, hbad]; rfl)
    rintro ⟨x2, us2, s2⟩ ⟨hz2, hI2⟩
    try dsimp only [nA, cA]
    refine JO.subL (L' := ownO st Z1k (PB T b us2 :: X s2)) Z20 ?_
    refine JO.openT (s := 17) rfl (fun p2 hp2 => ?_)
    have hd2 := (hpd _ _ hz2).2
    have hlt := (Zu hcm).2
    have hle9 := hts.length_le
    refine Jt (Z2b hE (by rw [hs]; exact Z3N) (by rw [hs]; rfl) (by rw [hs]; decide) rfl) rfl ?_
    refine JO.apO (ys := [p2]) (by rw [hs]; exact Z8l) Cel.hlen .here hG rfl rfl (srcE p2 Z1y) (by simp) (by show (ps.length + 1) * 24 ≤ 140737488355328; omega) (by show ps.length + 1 ≤ 9223372036854775807; omega) rfl (fun st2 cap2 hG2 => ?_)
    refine Jt (Z2 rfl) rfl ?_
    apply Ni
    repeat refine JX.normal_block ?_
    refine JX.roundG (x := (ps, st, cap, us, s)) (ps ++ [p2], st2, cap2, us2, s2) ?_ ?_ [0, 1, 2, 7] ?_ ?_ ?_ ?_
    · exact ⟨(show us2 <:+ us.tail from (hpd _ _ hz2).1).trans (Zj hus), (by show (ps ++ [p2]).length + us2.length ≤ ts.length; rw [List.length_append]; show ps.length + 1 + us2.length ≤ ts.length; have : us2.length < us.tail.length := hd2; omega), hG2, (by rw [List.map_append, List.map_singleton, hp2]; exact hI2), (by rw [hP, Z21 hpd.le hcm, hz2, List.map_append, List.map_singleton, hp2, List.map_append]; rfl)⟩
    · exact (by show us2.length < us.length; have : us2.length < us.tail.length := hd2; omega)
    · exact (.cons rfl (.cons rfl (.cons rfl (.cons rfl .nil))))
    · repeat (first | exact .all | exact .nil | refine Has.own (by repeat first | exact .here | apply Tl.past | apply Tl.there) ?_ | refine Has.cons (by repeat (first | exact .here | apply Pk.past | apply Pk.there)) ?_)
    · exact fun G hG => by repeat (first | exact hG | refine List.mem_cons_of_mem _ ?_)
    · exact fun X w hF => fun w' hk => CelF.snoc (hF _ (by repeat first | exact Mh | apply Mt) w' hk) (hF _ List.mem_cons_self w' hk)
  ·
    try simp only [dT, dF] at ht13
    repeat apply Sq
    refine J.exit ?_
    repeat first | refine Ht ?_ | refine Ms rfl ?_ | refine Ep ?_
    repeat first | apply Nx | apply Nb
    have hcm : isT 5 Z12 us = false := ht13
    rw [ZO hcm]
    rw [hG.sl.1]
    repeat apply Sq
    apply Pn
    refine Jt (Z0 rfl) rfl ?_
    refine Jt (Z0 rfl) rfl ?_
    refine Jt (Zq Z1y rfl) rfl ?_
    refine Jt (Z0 rfl) rfl ?_
    refine Jt (Z3t rfl rfl) rfl ?_
    refine JO.callPK (Lr := _) (Z8 (.pointer (some ⟨b, 0, none⟩)) (decide ((ps.length : Int) ≤ (most : Int)))) rfl (Z19 _) ZV (.one rfl (.one rfl .nil)) (fun hbad => ?_) ?_
    · exact JX.pnI (by rw [hP]; exact Z3I hcm (by rw [List.length_map, List.length_map]; have := of_decide_eq_false hbad; omega))
    intro _ hmo
    try dsimp only [nA, cA]
    apply Ni
    repeat first | apply Nx | apply Nb
    refine Sl [7] (.cons rfl .nil) ?_
    refine J.freezeOMW (e := Z1k) (sz := En.sz) hNW Cel.hlen hG .here (fun q hq => ?_) rfl (by rw [List.all_cons, hXo]; rfl) ?_
    · rw [List.map_cons] at hq
      rcases List.mem_cons.1 hq with rfl | hq
      · exact ⟨_, List.mem_cons_self, rfl⟩
      · obtain ⟨o, ho, e⟩ := List.mem_map.1 hq
        obtain ⟨o2, ho2, e2⟩ := hXb s o ho
        exact ⟨o2, List.mem_cons_of_mem _ ho2, e2.trans e⟩
    repeat apply Sq
    apply Pn
    refine Jt (Z0 rfl) rfl ?_
    refine Jt (Z2 rfl) rfl ?_
    apply Ni
    repeat first | apply Nx | apply Nb
    refine Sl [6] (.cons rfl .nil) ?_
    repeat apply Sq
    apply Rt
    repeat first | apply Rp | apply Rb
    refine JX.toP ?_
    exact JX.retL1 (Lr := []) (L1 := fun z : List β × List T3 × S => PB T b z.2.1 :: X z.2.2) (R := fun z => .rep (SlE En (FrS N Z1k En.sz) z.1)) rfl (ps.map Cel.x, us, s) ⟨by rw [hP, Z3Z hcm, if_pos (by rw [List.length_map, List.length_map]; have := of_decide_eq_true hmo; omega)], hIs⟩ (.of_eq (List.append_nil _).symm) (by rw [List.all_cons, hXo]; rfl) rfl hb0 rfl (Sub.slE hG.sl.2 (by repeat first | exact Mh | apply Mt) (by repeat first | exact Mh | apply Mt) (fun X w hf => hf _ (by repeat first | exact Mh | apply Mt)))
theorem Z3y {α : Type} (N : Nat) (T : Tk) (hc : T.ts.length ≤ T.cap) (h9 : T.ts.length ≤ 2049) (b : Nat) (ts : List T3) (hts : ts <:+ T.ts) (En : Enc α) (hE : En.flat) (hs : En.sz = 1) (part : Ps α) (hpd : Dn part) (most : Nat) (fp : FuncId) (hpart : ∀ us, us <:+ T.ts → us.length ≤ ts.length → CallP Tryz.prog fp [PB T b us] [T.G, AF, NH N] [.is (.pointer (some ⟨b, 0, none⟩))] (part us = none) flt (fun z : α × List T3 => part us = some z) (fun z => [PB T b z.2]) (fun z => .rep (En.T z.1))) :
  CallP Tryz.prog Z3A [PB T b ts] [T.G, AF, NH N] [.is (.pointer (some ⟨b, 0, none⟩)), .is (.int .i64 (most : Int)), .is (fv fp)] (listP most part ts = none) flt (fun z : List α × List T3 => listP most part ts = some z) (fun z => [PB T b z.2]) (fun z => .rep (SlE En (FrS N Z1k En.sz) z.1)) :=
 (Z5A (S := Unit) N T hc h9 b ts hts En hE hs part id hpd (fun _ => []) (fun _ _ => True) () trivial (fun _ _ h => by cases h) (fun _ => rfl) most fp [] fun us s l hus hu _ => (hpart us hus (by omega)).map id (fun z => (z.1, z.2, ())) (fun z hz => ⟨hz, trivial⟩) (fun z _ => rfl) (fun z _ => rfl)).map id (fun z => (z.1, z.2.1)) (fun z hz => by have := hz.1; rwa [List.map_id] at this) (fun _ _ => rfl) (fun _ _ => rfl)
theorem Z5X {α : Type} (N : Nat) (T : Tk) (hc : T.ts.length ≤ T.cap) (h9 : T.ts.length ≤ 2049) (b : Nat) (ts : List T3) (hts : ts <:+ T.ts) (En : Enc α) (hE : En.flat) (hs : En.sz = 8) (part : Ps α) (hpd : Dn part) (fp : FuncId) (hpart : ∀ us, us <:+ T.ts → us.length ≤ ts.length → CallP Tryz.prog fp [PB T b us] [T.G, AF, NH N] [.is (.pointer (some ⟨b, 0, none⟩))] (part us = none) flt (fun z : α × List T3 => part us = some z) (fun z => [PB T b z.2]) (fun z => .rep (En.T z.1))) : CallP Tryz.prog Z5Y [PB T b ts] [T.G, AF, NH N] [.is (.pointer (some ⟨b, 0, none⟩)), .is (fv fp)] (withinP part ts = none) flt (fun z : List α × List T3 => withinP part ts = some z) (fun z => [PB T b z.2]) (fun z => .rep (SlE En (FrS N Z6 En.sz) z.1)) :=
CallP.of (fn := Tryz.f112) Tryz.func112 (n := 18) rfl rfl rfl (fun _ _ => by kernel_rfl) fun E W hb0 => by
 repeat apply Sq
 apply Pn
 refine Jt (Z2 rfl) rfl ?_
 apply Ni
 repeat first | apply Nx | apply Nb
 refine Sl [0, 1] (.cons rfl (.cons rfl .nil)) ?_
 repeat apply Sq
 apply Pn
 refine Jt (Z0 rfl) rfl ?_
 refine Jt (Z0 rfl) rfl ?_
 refine JO.callK (Lr := []) (Z9 T hc b ts hts s_lp) rfl (.refl _) (fun F hF => by repeat (first | (rcases Mc.1 hF with rfl | hF; · (repeat first | exact Mh | apply Mt)) | (cases hF; done))) (.one rfl (.one rfl .nil)) ?_
 intro _ _
 try dsimp only [nA, cA]
 refine JO.callPK (Lr := _) (Z8 (.pointer (some ⟨b, 0, none⟩)) (isT 5 s_lp ts)) rfl (Z19 _) ZV (.one rfl (.one rfl .nil)) (fun hbad => ?_) ?_
 · exact JX.pnI (by unfold withinP; rw [wantN hbad]; rfl)
 intro _ hlp
 try dsimp only [nA, cA]
 apply Ni
 repeat first | apply Nx | apply Nb
 refine Sl [0, 1] (.cons rfl (.cons rfl .nil)) ?_
 rw [ZK hlp]
 repeat apply Sq
 apply Pn
 refine Jt (Z0 rfl) rfl ?_
 refine Jt (Z0 rfl) rfl ?_
 refine JO.callPK (Lr := []) (Z4a N T hc h9 b ts.tail (Zj hts) En hE hs part hpd 16 fp (fun us hus hu => hpart us hus (by have := (Zu hlp).2; omega))) rfl (.refl _) (fun F hF => by repeat (first | (rcases Mc.1 hF with rfl | hF; · (repeat first | exact Mh | apply Mt)) | (cases hF; done))) (.one rfl (.one rfl (.one rfl .nil))) (fun hbad => ?_) ?_
 · exact JX.pnI (by unfold withinP; rw [wantY hlp]; simp only [Option.bind_some]; rw [hbad]; rfl)
 intro z hz
 have hzs : z.2 <:+ T.ts := (Z24 hpd.le 16 _ _ hz).trans (Zj hts)
 try dsimp only [nA, cA]
 refine Jt (Z2 rfl) rfl ?_
 apply Ni
 repeat first | apply Nx | apply Nb
 refine Sl [0, 5] (.cons rfl (.cons rfl .nil)) ?_
 repeat apply Sq
 apply Pn
 refine Jt (Z0 rfl) rfl ?_
 refine Jt (Z0 rfl) rfl ?_
 refine JO.callK (Lr := []) (Z9 T hc b z.2 hzs s_rp) rfl (.refl _) (fun F hF => by repeat (first | (rcases Mc.1 hF with rfl | hF; · (repeat first | exact Mh | apply Mt)) | (cases hF; done))) (.one rfl (.one rfl .nil)) ?_
 intro _ _
 try dsimp only [nA, cA]
 refine JO.callPK (Lr := _) (Z8 (.pointer (some ⟨b, 0, none⟩)) (isT 5 s_rp z.2)) rfl (Z19 _) ZV (.one rfl (.one rfl .nil)) (fun hbad => ?_) ?_
 · exact JX.pnI (by unfold withinP; rw [wantY hlp]; simp only [Option.bind_some]; rw [hz]; simp only [Option.bind_some]; rw [wantN hbad]; rfl)
 intro _ hrp
 try dsimp only [nA, cA]
 apply Ni
 repeat first | apply Nx | apply Nb
 refine Sl [5] (.cons rfl .nil) ?_
 rw [ZK hrp]
 repeat apply Sq
 apply Pn
 refine Jt (Z0 rfl) rfl ?_
 refine Jt (Z2 rfl) rfl ?_
 apply Ni
 repeat first | apply Nx | apply Nb
 refine Sl [4] (.cons rfl .nil) ?_
 repeat apply Sq
 apply Rt
 repeat first | apply Rp | apply Rb
 refine JX.toP ?_
 exact JX.retL1 (Lr := []) (L1 := fun z : List α × List T3 => [PB T b z.2]) (R := fun z => .rep (SlE En (FrS N Z6 En.sz) z.1)) rfl (z.1, z.2.tail) (by unfold withinP; rw [wantY hlp]; simp only [Option.bind_some]; rw [hz]; simp only [Option.bind_some]; rw [wantY hrp]; rfl) (.refl _) rfl rfl hb0 rfl (Sub.refl _)
theorem Z5n {α : Type} (N : Nat) (T : Tk) (hc : T.ts.length ≤ T.cap) (h9 : T.ts.length ≤ 2049) (b : Nat) (ts : List T3) (hts : ts <:+ T.ts) (En : Enc α) (hE : En.flat) (hs : En.sz = 4) (part : Ps α) (hpd : Dn part) (fp : FuncId) (hpart : ∀ us, us <:+ T.ts → us.length ≤ ts.length → CallP Tryz.prog fp [PB T b us] [T.G, AF, NH N] [.is (.pointer (some ⟨b, 0, none⟩))] (part us = none) flt (fun z : α × List T3 => part us = some z) (fun z => [PB T b z.2]) (fun z => .rep (En.T z.1))) : CallP Tryz.prog Z5p [PB T b ts] [T.G, AF, NH N] [.is (.pointer (some ⟨b, 0, none⟩)), .is (fv fp)] (withinP part ts = none) flt (fun z : List α × List T3 => withinP part ts = some z) (fun z => [PB T b z.2]) (fun z => .rep (SlE En (FrS N ZQ En.sz) z.1)) :=
CallP.of (fn := Tryz.f106) Tryz.func106 (n := 18) rfl rfl rfl (fun _ _ => by kernel_rfl) fun E W hb0 => by
 repeat apply Sq
 apply Pn
 refine Jt (Z2 rfl) rfl ?_
 apply Ni
 repeat first | apply Nx | apply Nb
 refine Sl [0, 1] (.cons rfl (.cons rfl .nil)) ?_
 repeat apply Sq
 apply Pn
 refine Jt (Z0 rfl) rfl ?_
 refine Jt (Z0 rfl) rfl ?_
 refine JO.callK (Lr := []) (Z9 T hc b ts hts s_lp) rfl (.refl _) (fun F hF => by repeat (first | (rcases Mc.1 hF with rfl | hF; · (repeat first | exact Mh | apply Mt)) | (cases hF; done))) (.one rfl (.one rfl .nil)) ?_
 intro _ _
 try dsimp only [nA, cA]
 refine JO.callPK (Lr := _) (Z8 (.pointer (some ⟨b, 0, none⟩)) (isT 5 s_lp ts)) rfl (Z19 _) ZV (.one rfl (.one rfl .nil)) (fun hbad => ?_) ?_
 · exact JX.pnI (by unfold withinP; rw [wantN hbad]; rfl)
 intro _ hlp
 try dsimp only [nA, cA]
 apply Ni
 repeat first | apply Nx | apply Nb
 refine Sl [0, 1] (.cons rfl (.cons rfl .nil)) ?_
 rw [ZK hlp]
 repeat apply Sq
 apply Pn
 refine Jt (Z0 rfl) rfl ?_
 refine Jt (Z0 rfl) rfl ?_
 refine JO.callPK (Lr := []) (Z62 N T hc h9 b ts.tail (Zj hts) En hE hs part hpd 16 fp (fun us hus hu => hpart us hus (by have := (Zu hlp).2; omega))) rfl (.refl _) (fun F hF => by repeat (first | (rcases Mc.1 hF with rfl | hF; · (repeat first | exact Mh | apply Mt)) | (cases hF; done))) (.one rfl (.one rfl (.one rfl .nil))) (fun hbad => ?_) ?_
 · exact JX.pnI (by unfold withinP; rw [wantY hlp]; simp only [Option.bind_some]; rw [hbad]; rfl)
 intro z hz
 have hzs : z.2 <:+ T.ts := (Z24 hpd.le 16 _ _ hz).trans (Zj hts)
 try dsimp only [nA, cA]
 refine Jt (Z2 rfl) rfl ?_
 apply Ni
 repeat first | apply Nx | apply Nb
 refine Sl [0, 5] (.cons rfl (.cons rfl .nil)) ?_
 repeat apply Sq
 apply Pn
 refine Jt (Z0 rfl) rfl ?_
 refine Jt (Z0 rfl) rfl ?_
 refine JO.callK (Lr := []) (Z9 T hc b z.2 hzs s_rp) rfl (.refl _) (fun F hF => by repeat (first | (rcases Mc.1 hF with rfl | hF; · (repeat first | exact Mh | apply Mt)) | (cases hF; done))) (.one rfl (.one rfl .nil)) ?_
 intro _ _
 try dsimp only [nA, cA]
 refine JO.callPK (Lr := _) (Z8 (.pointer (some ⟨b, 0, none⟩)) (isT 5 s_rp z.2)) rfl (Z19 _) ZV (.one rfl (.one rfl .nil)) (fun hbad => ?_) ?_
 · exact JX.pnI (by unfold withinP; rw [wantY hlp]; simp only [Option.bind_some]; rw [hz]; simp only [Option.bind_some]; rw [wantN hbad]; rfl)
 intro _ hrp
 try dsimp only [nA, cA]
 apply Ni
 repeat first | apply Nx | apply Nb
 refine Sl [5] (.cons rfl .nil) ?_
 rw [ZK hrp]
 repeat apply Sq
 apply Pn
 refine Jt (Z0 rfl) rfl ?_
 refine Jt (Z2 rfl) rfl ?_
 apply Ni
 repeat first | apply Nx | apply Nb
 refine Sl [4] (.cons rfl .nil) ?_
 repeat apply Sq
 apply Rt
 repeat first | apply Rp | apply Rb
 refine JX.toP ?_
 exact JX.retL1 (Lr := []) (L1 := fun z : List α × List T3 => [PB T b z.2]) (R := fun z => .rep (SlE En (FrS N ZQ En.sz) z.1)) rfl (z.1, z.2.tail) (by unfold withinP; rw [wantY hlp]; simp only [Option.bind_some]; rw [hz]; simp only [Option.bind_some]; rw [wantY hrp]; rfl) (.refl _) rfl rfl hb0 rfl (Sub.refl _)
theorem Z6W {α : Type} (N : Nat) (T : Tk) (hc : T.ts.length ≤ T.cap) (h9 : T.ts.length ≤ 2049) (b : Nat) (ts : List T3) (hts : ts <:+ T.ts) (En : Enc α) (hE : En.flat) (hs : En.sz = 1) (part : Ps α) (hpd : Dn part) (fp : FuncId) (hpart : ∀ us, us <:+ T.ts → us.length ≤ ts.length → CallP Tryz.prog fp [PB T b us] [T.G, AF, NH N] [.is (.pointer (some ⟨b, 0, none⟩))] (part us = none) flt (fun z : α × List T3 => part us = some z) (fun z => [PB T b z.2]) (fun z => .rep (En.T z.1))) : CallP Tryz.prog Z6y [PB T b ts] [T.G, AF, NH N] [.is (.pointer (some ⟨b, 0, none⟩)), .is (fv fp)] (withinP part ts = none) flt (fun z : List α × List T3 => withinP part ts = some z) (fun z => [PB T b z.2]) (fun z => .rep (SlE En (FrS N Z1g En.sz) z.1)) :=
CallP.of (fn := Tryz.f109) Tryz.func109 (n := 18) rfl rfl rfl (fun _ _ => by kernel_rfl) fun E W hb0 => by
 repeat apply Sq
 apply Pn
 refine Jt (Z2 rfl) rfl ?_
 apply Ni
 repeat first | apply Nx | apply Nb
 refine Sl [0, 1] (.cons rfl (.cons rfl .nil)) ?_
 repeat apply Sq
 apply Pn
 refine Jt (Z0 rfl) rfl ?_
 refine Jt (Z0 rfl) rfl ?_
 refine JO.callK (Lr := []) (Z9 T hc b ts hts s_lp) rfl (.refl _) (fun F hF => by repeat (first | (rcases Mc.1 hF with rfl | hF; · (repeat first | exact Mh | apply Mt)) | (cases hF; done))) (.one rfl (.one rfl .nil)) ?_
 intro _ _
 try dsimp only [nA, cA]
 refine JO.callPK (Lr := _) (Z8 (.pointer (some ⟨b, 0, none⟩)) (isT 5 s_lp ts)) rfl (Z19 _) ZV (.one rfl (.one rfl .nil)) (fun hbad => ?_) ?_
 · exact JX.pnI (by unfold withinP; rw [wantN hbad]; rfl)
 intro _ hlp
 try dsimp only [nA, cA]
 apply Ni
 repeat first | apply Nx | apply Nb
 refine Sl [0, 1] (.cons rfl (.cons rfl .nil)) ?_
 rw [ZK hlp]
 repeat apply Sq
 apply Pn
 refine Jt (Z0 rfl) rfl ?_
 refine Jt (Z0 rfl) rfl ?_
 refine JO.callPK (Lr := []) (Z7H N T hc h9 b ts.tail (Zj hts) En hE hs part hpd 16 fp (fun us hus hu => hpart us hus (by have := (Zu hlp).2; omega))) rfl (.refl _) (fun F hF => by repeat (first | (rcases Mc.1 hF with rfl | hF; · (repeat first | exact Mh | apply Mt)) | (cases hF; done))) (.one rfl (.one rfl (.one rfl .nil))) (fun hbad => ?_) ?_
 · exact JX.pnI (by unfold withinP; rw [wantY hlp]; simp only [Option.bind_some]; rw [hbad]; rfl)
 intro z hz
 have hzs : z.2 <:+ T.ts := (Z24 hpd.le 16 _ _ hz).trans (Zj hts)
 try dsimp only [nA, cA]
 refine Jt (Z2 rfl) rfl ?_
 apply Ni
 repeat first | apply Nx | apply Nb
 refine Sl [0, 5] (.cons rfl (.cons rfl .nil)) ?_
 repeat apply Sq
 apply Pn
 refine Jt (Z0 rfl) rfl ?_
 refine Jt (Z0 rfl) rfl ?_
 refine JO.callK (Lr := []) (Z9 T hc b z.2 hzs s_rp) rfl (.refl _) (fun F hF => by repeat (first | (rcases Mc.1 hF with rfl | hF; · (repeat first | exact Mh | apply Mt)) | (cases hF; done))) (.one rfl (.one rfl .nil)) ?_
 intro _ _
 try dsimp only [nA, cA]
 refine JO.callPK (Lr := _) (Z8 (.pointer (some ⟨b, 0, none⟩)) (isT 5 s_rp z.2)) rfl (Z19 _) ZV (.one rfl (.one rfl .nil)) (fun hbad => ?_) ?_
 · exact JX.pnI (by unfold withinP; rw [wantY hlp]; simp only [Option.bind_some]; rw [hz]; simp only [Option.bind_some]; rw [wantN hbad]; rfl)
 intro _ hrp
 try dsimp only [nA, cA]
 apply Ni
 repeat first | apply Nx | apply Nb
 refine Sl [5] (.cons rfl .nil) ?_
 rw [ZK hrp]
 repeat apply Sq
 apply Pn
 refine Jt (Z0 rfl) rfl ?_
 refine Jt (Z2 rfl) rfl ?_
 apply Ni
 repeat first | apply Nx | apply Nb
 refine Sl [4] (.cons rfl .nil) ?_
 repeat apply Sq
 apply Rt
 repeat first | apply Rp | apply Rb
 refine JX.toP ?_
 exact JX.retL1 (Lr := []) (L1 := fun z : List α × List T3 => [PB T b z.2]) (R := fun z => .rep (SlE En (FrS N Z1g En.sz) z.1)) rfl (z.1, z.2.tail) (by unfold withinP; rw [wantY hlp]; simp only [Option.bind_some]; rw [hz]; simp only [Option.bind_some]; rw [wantY hrp]; rfl) (.refl _) rfl rfl hb0 rfl (Sub.refl _)
end Go.Proofs.YtbedigkncjbggaaGreatDoor
