/- The document's reader: SELECT. No condition. -/
import Derived.Test.YtbedigkncjbggaaGreatDoorXQ13
import Derived.Test.YtbedigkncjbggaaGreatDoorXG8
import Derived.Test.YtbedigkncjbggaaGreatDoorXQ9
import Derived.Test.YtbedigkncjbggaaGreatDoorXQ1
set_option maxRecDepth 20000
namespace Go.Proofs.YtbedigkncjbggaaGreatDoor
open Go Go.Vc
open Go.Pz
theorem ZhR{e:Ps Ex}(he:Dn e):Dn (keyR e):=by rw[Zeo];exact Z8c he
theorem Rv.cap3{α:Type}{us:List T3}{bad:Bool}(n m k:Nat)(x:α):Rv (if n<=16/\m+1<=4/\k<=16 then some (x,us)else none) us bad (x,us,((bad||decide ((16:Int)<(n:Int)))||decide ((4:Int)<((m+1:Nat):Int)))||decide ((16:Int)<(k:Int))):=by
 by_cases h:n<=16/\m+1<=4/\k<=16
 · rw[if_pos h,decide_eq_false (show ¬(16:Int)<(n:Int) by omega),decide_eq_false (show ¬(4:Int)<((m+1:Nat):Int) by omega),decide_eq_false (show ¬(16:Int)<(k:Int) by omega),Bool.or_false,Bool.or_false,Bool.or_false];exact Rv.pure x
 · rw[if_neg h]
   by_cases h1:n<=16
   · by_cases h2:m+1<=4
     · rw[decide_eq_true (show(16:Int)<(k:Int) by omega),Bool.or_true];exact Rv.none x
     · rw[decide_eq_true (show(4:Int)<((m+1:Nat):Int) by omega),Bool.or_true,Bool.true_or];exact Rv.none x
   · rw[decide_eq_true (show(16:Int)<(n:Int) by omega),Bool.or_true,Bool.true_or,Bool.true_or];exact Rv.none x
attribute [local irreducible] SlE ExsR
set_option maxHeartbeats 2000000 in
theorem Z7K(T:Rk)(b0 o0:Nat)(ha:T.ts.length≠0->T.ad=some ⟨b0,o0,none⟩)(h9:T.ts.length<=2049)(b:Nat)(us:List T3)(hus:us<:+T.ts)(bad:Bool)(hE:E0 T b):CallL Tryz.prog Z7L [RB T b us bad] [T.G] [.is (.pointer (some ⟨b,0,none⟩))] (fun z:Pz.St×List T3×Bool=>Rv (queryR T.e us) us bad z) (fun z=>[RB T b z.2.1 z.2.2]) (fun z=>.rep (StR 0 z.1)):=
CallL.of (fn:=Tryz.f34) Tryz.func34 (n:=123) rfl rfl rfl (fun _ _=>by kernel_rfl) fun E W hb0=>by
 refine vQ ?_;refine JO.alloc ZT rfl fun b2=>(vP [0,2] ?_);refine Jq (Zd (cs:=[_,_,_,_,_,_,_,_,_,_,_,_,_,_]) Z1w (.cons rfl (.cons rfl .nil)) rfl rfl) (JO.alloc ZT rfl fun b3=>(JO.m (Z2 rfl rfl qU (by exact Zb rfl rfl) (by first|exact Zb rfl rfl|exact ZF) Zo) (by rfl) ?_));refine vS [0,2,3] ?_;refine J.front b (by repeat(first|exact .here|apply Front.there)) ?_;refine vQ ?_;refine Ja rfl (vS [0,2,3,4] ?_);apply yk
 repeat apply yQ
 refine J.loopH (α:=List (Cel itE)×Option (Nat×List Value)×Nat×List T3×Bool×Bool) (fun x=>[(0,.is (.pointer (some ⟨b,0,none⟩))),(2,.is (.pointer (some ⟨b2,0,none⟩))),(3,.is (.pointer (some ⟨b3,0,none⟩))),(4,.is (.bool x.2.2.2.2.2))]) (fun x=>RB T b x.2.2.2.1 x.2.2.2.2.1::⟨b3,Z3,.is (.agg #[.int .i64 4,.string ⟨#[]⟩,.string ⟨#[]⟩,.slice none 0 0,.slice none 0 0,.slice none 0 0,sliceO x.2.1 x.1.length x.2.2.1,.slice none 0 0,.slice none 0 0,.slice none 0 0,.slice none 0 0,.int .i64 (-1),.slice none 0 0,.bool false])⟩::⟨b2,Z3,zSt⟩::ownO x.2.1 Z4d []) (fun x=>CelF itE x.1) (fun x=>InvW (itemP T.e) us bad (x.1.map Cel.x) x.2.2.2.1 x.2.2.2.2.1 x.2.2.2.2.2/\Grows Cel.cs 9 x.1 x.2.1 x.2.2.1) (fun x=>x.2.2.2.1.length+(if x.2.2.2.2.2 then 1 else 0)) ([],none,0,us,bad,true) [0,2,3,4] (.cons rfl (.cons rfl (.cons rfl (.cons rfl .nil)))) rfl (fun X w hF=>fun w' hk=>CelF.nil w') ⟨InvW.start _ _ _,rfl⟩ fun⟨pi,si,ci,vs,bd,mo⟩ ⟨hI,hGi⟩=>?_;try dsimp only
 try dsimp only at hI
 try dsimp only at hGi
 refine vQ ?_;refine Jm rfl (Jm rfl (JO.tg rfl rfl rfl rfl rfl (fun hg=>Z1 (.inl rfl)) (JO.tg rfl rfl rfl rfl rfl (fun hg=>Z4 (qR rfl)) ?_)));refine JO.tg rfl rfl rfl rfl rfl (fun hg=>Z0 Ze (qR rfl)) ?_;refine JO.tg rfl rfl rfl rfl rfl (fun hg=>Z5 Z1O (qR rfl) rfl) ?_;refine JO.tg rfl rfl rfl rfl rfl (fun hg=>Z22 (qR rfl)) ?_;refine Jq (Zl rfl rfl rfl id) (vS [0,2,3,15] ?_);refine yC rfl (fun ht15=>?_) (fun ht15=>?_);apply yK;refine vN ?_;apply yk;obtain⟨rfl,rfl⟩:mo=true/\bd=false:=by simpa using ht15
 repeat apply yQ
 refine J.regBgm (G:={q:{z:Pz.Itm×List T3×Bool // Rv (itemP T.e vs) vs false z}×Cel itE // q.2.x=q.1.1.1}) 3 5 (fun q=>TC q.1.2) (fun q=>[RB T b q.1.1.1.2.1 q.1.1.1.2.2]++(⟨b3,Z3,.is (.agg #[.int .i64 4,.string ⟨#[]⟩,.string ⟨#[]⟩,.slice none 0 0,.slice none 0 0,.slice none 0 0,sliceO si pi.length ci,.slice none 0 0,.slice none 0 0,.slice none 0 0,.slice none 0 0,.int .i64 (-1),.slice none 0 0,.bool false])⟩::⟨b2,Z3,zSt⟩::ownO si Z4d [])) ([⟨b3,Z3,.is (.agg #[.int .i64 4,.string ⟨#[]⟩,.string ⟨#[]⟩,.slice none 0 0,.slice none 0 0,.slice none 0 0,sliceO si pi.length ci,.slice none 0 0,.slice none 0 0,.slice none 0 0,.slice none 0 0,.int .i64 (-1),.slice none 0 0,.bool false])⟩]) rfl rfl rfl rfl hmx qK rfl qK (fun o ho=>by rw[List.mem_singleton.1 ho];exact List.mem_cons_of_mem _ List.mem_cons_self) (fun g o ho=>by rw[List.mem_singleton.1 ho];exact List.mem_cons_of_mem _ List.mem_cons_self) qK ?_;refine yz (Z0 Z1y rfl) (yz (Z5 Z1H rfl rfl) (yz (Z1 rfl) ?_));refine RT.bigg (Lq:=[⟨b3,Z3,.is (.agg #[.int .i64 4,.string ⟨#[]⟩,.string ⟨#[]⟩,.slice none 0 0,.slice none 0 0,.slice none 0 0,sliceO si pi.length ci,.slice none 0 0,.slice none 0 0,.slice none 0 0,.slice none 0 0,.int .i64 (-1),.slice none 0 0,.bool false])⟩]) (BigOb.pick (f:=fun g:{z:Pz.Itm×List T3×Bool // Rv (itemP T.e vs) vs false z}=>g.1.1) (Z3d (Lr:=⟨b3,Z3,.is (.agg #[.int .i64 4,.string ⟨#[]⟩,.string ⟨#[]⟩,.slice none 0 0,.slice none 0 0,.slice none 0 0,sliceO si pi.length ci,.slice none 0 0,.slice none 0 0,.slice none 0 0,.slice none 0 0,.int .i64 (-1),.slice none 0 0,.bool false])⟩::⟨b2,Z3,zSt⟩::ownO si Z4d []) rfl (Z84 T b0 o0 ha h9 b vs (hI.suf.trans hus) false hE) (.refl _) qF qA)) (fun g=>?_);refine yz (Zc7 rfl (by simp[Op.operands]) (fun E v w _ h=>TC.is E v w h) (Z1V (p:=g.1.2) ZcW Z7Y rfl qD (.inr ⟨rfl,rfl⟩))) ?_;apply yn;obtain⟨⟨⟨z2,hz2⟩,p2⟩,hp2⟩:=g;try dsimp only at hp2 ⊢
 refine JO.tcF (s:=21) (p:=p2) rfl ?_;refine JO.apO (ys:=[p2]) Z8u Cel.hlen yV hGi rfl rfl (srcE p2 Z2i) (by simp) (by have h1:=hI.len;have h2:=hus.length_le;rw[List.length_map]at h1;simp;omega) (by have h1:=hI.len;have h2:=hus.length_le;rw[List.length_map]at h1;simp;omega) rfl (fun st2 cap2 hG2=>?_);refine Jq (Z0 Z1y rfl) (JO.m (Z2B (cs':=[_,_,_,_,_,_,_,_,_,_,_,_,_,_]) (Z2m _ _ _) (Z2C _ _ _) rfl rfl (Z1R (.there .here)) rfl rfl Z8d) (Upd.same (Z1R (.there .here)) rfl) (JO.subL (L':=RB T b z2.2.1 z2.2.2::⟨b3,Z3,.is (.agg #[.int .i64 4,.string ⟨#[]⟩,.string ⟨#[]⟩,.slice none 0 0,.slice none 0 0,.slice none 0 0,sliceO st2 (pi++[p2]).length cap2,.slice none 0 0,.slice none 0 0,.slice none 0 0,.slice none 0 0,.int .i64 (-1),.slice none 0 0,.bool false])⟩::⟨b2,Z3,zSt⟩::ownO st2 Z4d []) Z9I (vP [0,2,3] ?_)));refine Jm rfl ?_;refine JO.callK (Lr:=_) (ZZ T b0 o0 ha h9 b _ ?hs _ ZW) rfl (.refl _) qF qA ?_
 case hs=>exact hz2.suf.trans (hI.suf.trans hus)
 intro _ _;refine vD ?_;refine Ja rfl ?_;apply yI
 repeat refine JX.normal_block ?_
 refine JX.roundG (x:=(pi,si,ci,vs,false,true)) (pi++[p2],st2,cap2,skRB 5 ZW z2.2.1 z2.2.2,z2.2.2,isRB 5 ZW z2.2.1 z2.2.2) ?_ ?_ [0,2,3,4] ?_ ?_ ?_ ?_
 · exact⟨(by rw[List.map_append,List.map_singleton,hp2];exact hI.step (Z5V T.e_dn) hz2),hG2⟩
 · exact(by show _<vs.length+1;exact InvW.less hz2)
 · exact qS
 · exact qH
 · exact qG
 · exact fun X w hF=>fun w' hk=>CelF.snoc (hF _ qI w' hk) (hF _ qI w' hk)
 repeat apply yQ
 refine J.exit ?_
 repeat first|refine yH ?_|refine yM rfl ?_|refine yE ?_
 repeat first|apply yX|apply yB
 have hFi:=hI.fin (by simpa using ht15);refine J.freezeOMW (N:=0) (e:=Z4d) (sz:=9) (Nat.zero_le _) Cel.hlen hGi yV (fun q hq=>by simp only[List.map_cons,List.map_nil,List.mem_singleton]at hq;exact⟨_,List.mem_cons_self,hq.symm⟩) rfl rfl ?_;rw[hGi.sl.1];refine vQ ?_;refine Jm rfl ?_;refine JO.callK (Lr:=_) (Zh T b0 o0 ha h9 b _ ?hs _ 1 qD Z5G) rfl (.refl _) qF qA ?_
 case hs=>exact hI.suf.trans hus
 intro z4 hz4;have hu4:z4.2.1<:+T.ts:=hz4.suf.trans (hI.suf.trans hus);refine vD ?_;refine vS [0,2,3] ?_;refine J.regBgm (G:={z:Pz.Src×List T3×Bool // Rv (sourceP z4.2.1) z4.2.1 z4.2.2 z}) 3 5 (fun g=>.is (srcV g.1.1)) (fun g=>[RB T b g.1.2.1 g.1.2.2]++[⟨b3,Z3,.is (.agg #[.int .i64 4,.string ⟨#[]⟩,.string ⟨#[]⟩,.slice none 0 0,.slice none 0 0,.slice none 0 0,.slice (adO si) pi.length (capO si ci),.slice none 0 0,.slice none 0 0,.slice none 0 0,.slice none 0 0,.int .i64 (-1),.slice none 0 0,.bool false])⟩,⟨b2,Z3,zSt⟩]) ([⟨b3,Z3,.is (.agg #[.int .i64 4,.string ⟨#[]⟩,.string ⟨#[]⟩,.slice none 0 0,.slice none 0 0,.slice none 0 0,.slice (adO si) pi.length (capO si ci),.slice none 0 0,.slice none 0 0,.slice none 0 0,.slice none 0 0,.int .i64 (-1),.slice none 0 0,.bool false])⟩]) rfl rfl rfl rfl hmx qK rfl qK (fun o ho=>by rw[List.mem_singleton.1 ho];exact List.mem_cons_of_mem _ List.mem_cons_self) (fun g o ho=>by rw[List.mem_singleton.1 ho];exact List.mem_cons_of_mem _ List.mem_cons_self) qK ?_;refine yz (Z0 Z13 rfl) (yz (Z5 Z11 rfl rfl) (yz (Z1 rfl) ?_));refine RT.bigg (Lq:=[⟨b3,Z3,.is (.agg #[.int .i64 4,.string ⟨#[]⟩,.string ⟨#[]⟩,.slice none 0 0,.slice none 0 0,.slice none 0 0,.slice (adO si) pi.length (capO si ci),.slice none 0 0,.slice none 0 0,.slice none 0 0,.slice none 0 0,.int .i64 (-1),.slice none 0 0,.bool false])⟩]) (Z3d (Lr:=[⟨b3,Z3,.is (.agg #[.int .i64 4,.string ⟨#[]⟩,.string ⟨#[]⟩,.slice none 0 0,.slice none 0 0,.slice none 0 0,.slice (adO si) pi.length (capO si ci),.slice none 0 0,.slice none 0 0,.slice none 0 0,.slice none 0 0,.int .i64 (-1),.slice none 0 0,.bool false])⟩,⟨b2,Z3,zSt⟩]) rfl (Z4L T b0 o0 ha h9 b z4.2.1 hu4 z4.2.2) (.refl _) qF qA) (fun g=>?_);refine yz (Z1V (p:=srC ⟨g.1.1.tb,g.1.1.nm,[]⟩) Z99 Z41 rfl qD rfl) ?_;apply yn;obtain⟨z5,hz5⟩:=g;try dsimp only
 refine JO.apO (st:=none) (cap:=0) (xs:=([]:List (Cel srE))) (ys:=[srC ⟨z5.1.tb,z5.1.nm,[]⟩]) Z5b Cel.hlen Tl.zero rfl rfl rfl (srcE (srC ⟨z5.1.tb,z5.1.nm,[]⟩) Z1N) (by simp) (by simp) (by simp) rfl (fun st2 cap2 hG2=>?_);rw[List.nil_append]at hG2 ⊢;refine Jq (Z0 Z13 rfl) (JO.m (Z2B (cs':=[_,_,_,_,_,_,_,_,_,_,_,_,_,_]) (Z2m _ _ _) (Z2C _ _ _) rfl rfl (Z1R (.there .here)) rfl rfl Z44) (Upd.same (Z1R (.there .here)) rfl) (JO.subL (L':=RB T b z5.2.1 z5.2.2::⟨b3,Z3,.is (.agg #[.int .i64 4,.string ⟨#[]⟩,.string ⟨#[]⟩,.slice none 0 0,.slice none 0 0,.slice none 0 0,.slice (adO si) pi.length (capO si ci),sliceO st2 [srC ⟨z5.1.tb,z5.1.nm,[]⟩].length cap2,.slice none 0 0,.slice none 0 0,.slice none 0 0,.int .i64 (-1),.slice none 0 0,.bool false])⟩::⟨b2,Z3,zSt⟩::ownO st2 Z31 []) Z9I ?_));have hu5:z5.2.1<:+T.ts:=hz5.suf.trans hu4;refine vS [0,2,3] ?_;refine J.cutZF (fun x:List (Cel srE)×Option (Nat×List Value)×Nat×List T3×Bool=>[(0,.is (.pointer (some ⟨b,0,none⟩))),(2,.is (.pointer (some ⟨b2,0,none⟩))),(3,.is (.pointer (some ⟨b3,0,none⟩)))]) (fun x:List (Cel srE)×Option (Nat×List Value)×Nat×List T3×Bool=>RB T b x.2.2.2.1 x.2.2.2.2::⟨b3,Z3,.is (.agg #[.int .i64 4,.string ⟨#[]⟩,.string ⟨#[]⟩,.slice none 0 0,.slice none 0 0,.slice none 0 0,.slice (adO si) pi.length (capO si ci),sliceO x.2.1 (srC ⟨z5.1.tb,z5.1.nm,[]⟩::x.1).length x.2.2.1,.slice none 0 0,.slice none 0 0,.slice none 0 0,.int .i64 (-1),.slice none 0 0,.bool false])⟩::⟨b2,Z3,zSt⟩::ownO x.2.1 Z31 []) (fun x:List (Cel srE)×Option (Nat×List Value)×Nat×List T3×Bool=>CelF srE (srC ⟨z5.1.tb,z5.1.nm,[]⟩::x.1)) (fun x:List (Cel srE)×Option (Nat×List Value)×Nat×List T3×Bool=>Rv (joinsC T.e z5.2.1) z5.2.1 z5.2.2 (x.1.map Cel.x,x.2.2.2.1,x.2.2.2.2)/\x.2.2.2.1<:+T.ts/\Grows Cel.cs 3 (srC ⟨z5.1.tb,z5.1.nm,[]⟩::x.1) x.2.1 x.2.2.1) ?_ ?_
 · apply yk
   repeat apply yQ
   refine J.loopH (α:=List (Cel srE)×Option (Nat×List Value)×Nat×List T3×Bool) (fun x=>[(0,.is (.pointer (some ⟨b,0,none⟩))),(2,.is (.pointer (some ⟨b2,0,none⟩))),(3,.is (.pointer (some ⟨b3,0,none⟩)))]) (fun x=>RB T b x.2.2.2.1 x.2.2.2.2::⟨b3,Z3,.is (.agg #[.int .i64 4,.string ⟨#[]⟩,.string ⟨#[]⟩,.slice none 0 0,.slice none 0 0,.slice none 0 0,.slice (adO si) pi.length (capO si ci),sliceO x.2.1 (srC ⟨z5.1.tb,z5.1.nm,[]⟩::x.1).length x.2.2.1,.slice none 0 0,.slice none 0 0,.slice none 0 0,.int .i64 (-1),.slice none 0 0,.bool false])⟩::⟨b2,Z3,zSt⟩::ownO x.2.1 Z31 []) (fun x=>CelF srE (srC ⟨z5.1.tb,z5.1.nm,[]⟩::x.1)) (fun x=>InvJ T.e z5.2.1 z5.2.2 (x.1.map Cel.x) x.2.2.2.1 x.2.2.2.2/\Grows Cel.cs 3 (srC ⟨z5.1.tb,z5.1.nm,[]⟩::x.1) x.2.1 x.2.2.1) (fun x=>x.2.2.2.1.length) ([],st2,cap2,z5.2.1,z5.2.2) [0,2,3] (.cons rfl (.cons rfl (.cons rfl .nil))) rfl (fun X w hF=>fun w' hk p hp=>by rw[List.mem_singleton.1 hp];exact ZgO rfl w') ⟨InvJ.start _ _ _,hG2⟩ fun⟨js,sf,cf,vs2,bd2⟩ ⟨hJ,hGf⟩=>?_;try dsimp only
   try dsimp only at hJ
   try dsimp only at hGf
   refine vQ ?_;refine Jm rfl (Jq (Z4 rfl) (Jq (Z0 Ze rfl) (Jq (Z5 Z1O rfl rfl) (Jq (Z22 rfl) (vS [0,2,3,38] ?_)))));refine yC rfl (fun ht38=>?_) (fun ht38=>?_);apply yK;refine vN ?_;apply yk;obtain rfl:bd2=false:=by simpa using ht38
   refine vQ ?_;refine Jm rfl ?_;refine JO.callK (Lr:=_) (Zg T b0 o0 ha h9 b _ ?hs _ Z15) rfl (.refl _) qF qA ?_
   case hs=>exact hJ.suf.trans hu5
   intro _ _;refine vD ?_;refine vS [0,2,3,40] ?_;refine J.cutZN (fun x:Unit×List T3×Bool=>[(0,.is (.pointer (some ⟨b,0,none⟩))),(2,.is (.pointer (some ⟨b2,0,none⟩))),(3,.is (.pointer (some ⟨b3,0,none⟩)))]) (fun x:Unit×List T3×Bool=>RB T b x.2.1 x.2.2::⟨b3,Z3,.is (.agg #[.int .i64 4,.string ⟨#[]⟩,.string ⟨#[]⟩,.slice none 0 0,.slice none 0 0,.slice none 0 0,.slice (adO si) pi.length (capO si ci),sliceO sf (srC ⟨z5.1.tb,z5.1.nm,[]⟩::js).length cf,.slice none 0 0,.slice none 0 0,.slice none 0 0,.int .i64 (-1),.slice none 0 0,.bool false])⟩::⟨b2,Z3,zSt⟩::ownO sf Z31 []) (fun x:Unit×List T3×Bool=>isJ vs2=true/\Rv (wantP 1 Z35 (skT 1 Z15 vs2)) (skT 1 Z15 vs2) false x/\x.2.1<:+T.ts/\x.2.1.length<vs2.length) ?_ ?_
   · refine yC rfl (fun ht40=>?_) (fun ht40=>?_)
     rw[Z1e ht40];refine vQ ?_;refine Jm rfl ?_;refine JO.callK (Lr:=_) (Zh T b0 o0 ha h9 b _ ?hs _ 1 qD Z35) rfl (.refl _) qF qA ?_
     case hs=>exact(List.tail_suffix _).trans (hJ.suf.trans hu5)
     intro y1 hy1;refine vD ?_;apply yI;refine JX.midZ (y1) ?_ [0,2,3] ?_ ?_ ?_
     · exact⟨(by unfold isJ;rw[(Z2p ht40).2,Bool.true_or]),(by have hsk:skT 1 Z15 vs2=vs2.tail:=Z1z (Z2p ht40).2;rw[hsk];exact hy1),hy1.suf.trans ((List.tail_suffix _).trans (hJ.suf.trans hu5)),Nat.lt_of_le_of_lt hy1.suf.length_le (ZG (Z2p ht40).2).2⟩
     · exact qS
     · exact qH
     · exact qG
     rw[Z19 ht40];refine vQ ?_;refine Jm rfl ?_;refine JO.callK (Lr:=_) (Zg T b0 o0 ha h9 b _ ?hs _ Z35) rfl (.refl _) qF qA ?_
     case hs=>exact hJ.suf.trans hu5
     intro _ _;refine vD ?_;refine Jq (Z22 rfl) (vS [0,2,3,45] ?_);refine yC rfl (fun ht45=>?_) (fun ht45=>?_)
     repeat apply yQ
     refine J.exit ?_
     repeat first|refine yH ?_|refine yM rfl ?_|refine yE ?_
     repeat first|apply yX|apply yB
     repeat refine JX.normal_block ?_
     have hw:isRB 1 Z35 vs2 false=false:=(by simpa using ht45);have hjn:isJ vs2=false:=(by unfold isJ;rw[show isT 1 Z15 vs2=false by simpa [isRB] using ht40,show isT 1 Z35 vs2=false by simpa [isRB] using hw];rfl);rw[Z19 hw];refine JX.midF ((js,sf,cf,vs2,false)) ?_ [0,2,3] ?_ ?_ ?_ ?_
     · exact⟨hJ.stop hjn,hJ.suf.trans hu5,hGf⟩
     · exact qS
     · exact qH
     · exact qG
     · exact fun X w hF=>hF _ qI
     apply yK;have hw:isRB 1 Z35 vs2 false=true:=(by simpa using ht45);rw[Z1e hw];refine JX.midZ (((),vs2.tail,false)) ?_ [0,2,3] ?_ ?_ ?_
     · exact⟨(by unfold isJ;rw[(Z2p hw).2,Bool.or_true]),(by have hin:isT 1 Z15 vs2=false:=(by simpa [isRB] using ht40);rw[Z21 hin];have h:=Rv.want (us:=vs2) (bad:=false) (k:=1) (s:=Z35);rw[Z1e hw,hw]at h;exact h),(List.tail_suffix _).trans (hJ.suf.trans hu5),(ZG (Z2p hw).2).2⟩
     · exact qS
     · exact qH
     · exact qG
   · intro y1 ⟨hjj,hy1,hwS,hlt⟩
     refine vQ ?_;refine Jm rfl ?_;refine JO.callK (Lr:=_) (Z4L T b0 o0 ha h9 b _ ?hs _) rfl (.refl _) qF qA ?_
     case hs=>exact hwS
     intro s6 hs6;refine vD ?_;refine JO.alloc Z30 rfl fun b5=>(JO.m (Z2 rfl rfl qU (by exact Zb rfl rfl) (by first|exact Zb rfl rfl|exact ZF) Z2q) (by rfl) ?_);refine vP [0,2,3,5] ?_;refine Jm rfl ?_;refine JO.callK (Lr:=_) (Zh T b0 o0 ha h9 b _ ?hs _ 1 qD w_ON) rfl qP qF qA ?_
     case hs=>exact hs6.suf.trans hwS
     intro y3 hy3;refine vD ?_;try dsimp only[List.append]
     refine vP [0,2,3,5] ?_;refine Jm rfl (JO.callK (Lr:=_) (hE y3.2.1 y3.2.2 (hy3.suf.trans (hs6.suf.trans hwS))) rfl (.refl _) qF qA ?_);intro z6 hz6;refine vD ?_;refine Jq (Z1T Zy rfl) (JO.open_ (s:=52) (R:=ExsR [z6.1]) rfl ?_);rintro v52 ⟨w52,h52⟩;obtain⟨a52,l52,q52,rfl⟩:=Z8f h52;refine Jq (Z0 Z2V rfl) (JO.m (Z9 (cs':=[_,_,_]) rfl rfl qU rfl rfl rfl rfl Z1I) (by rfl) ?_);refine vP [0,2,3,5] ?_;refine Jq (Z0 Z13 rfl) (Jq (Z5 Z11 rfl rfl) (Jq (ZU (cs:=[_,_,_]) Z24 rfl rfl rfl) (Jq (Z1V (p:=sjC s6.1 z6.1 a52 l52 q52) Z99 Z41 rfl qD rfl) ?_)));refine JO.apO (ys:=[sjC s6.1 z6.1 a52 l52 q52]) Z5b Cel.hlen yV hGf rfl rfl (srcE (sjC s6.1 z6.1 a52 l52 q52) Z1N) (by simp) (by have h1:=hJ.len;have h2:=hu5.length_le;rw[List.length_map]at h1;simp;omega) (by have h1:=hJ.len;have h2:=hu5.length_le;rw[List.length_map]at h1;simp;omega) rfl (fun st3 cap3 hG3=>?_);refine Jq (Z0 Z13 rfl) (JO.m (Z2B (cs':=[_,_,_,_,_,_,_,_,_,_,_,_,_,_]) (Z2m _ _ _) (Z2C _ _ _) rfl rfl (Z1R (.there (.there .here))) rfl rfl Z44) (Upd.same (Z1R (.there (.there .here))) rfl) (JO.subL (Z4o (L:=[_,_,_,_])).symm ?_));apply yI
     repeat refine JX.normal_block ?_
     refine JX.roundG (x:=(js,sf,cf,vs2,false)) (js++[sjC s6.1 z6.1 a52 l52 q52],st3,cap3,z6.2.1,z6.2.2) ?_ ?_ [0,2,3] ?_ ?_ ?_ ?_
     · exact⟨(by rw[List.map_append,List.map_singleton];exact hJ.step T.e_dn hjj hy1 hs6 hy3 hz6),hG3⟩
     · exact(by have h1:=(hz6.suf.trans (hy3.suf.trans hs6.suf)).length_le;show z6.2.1.length<vs2.length;omega)
     · exact qS
     · exact qH
     · exact qG
     · exact fun X w hF=>fun w' hk=>CelF.snoc (hF _ qI w' hk) (ZgN (hF (ExsR [z6.1] (.slice a52 l52 q52)) qI w' hk))
   repeat apply yQ
   refine J.exit ?_
   repeat first|refine yH ?_|refine yM rfl ?_|refine yE ?_
   repeat first|apply yX|apply yB
   repeat refine JX.normal_block ?_
   obtain rfl:bd2=true:=(by simpa using ht38);refine JX.midF ((js,sf,cf,vs2,true)) ?_ [0,2,3] ?_ ?_ ?_ ?_
   · exact⟨hJ.bad,hJ.suf.trans hu5,hGf⟩
   · exact qS
   · exact qH
   · exact qG
   · exact fun X w hF=>hF _ qI
 · intro⟨js,sf,cf,vs2,bd2⟩ ⟨hJF,hvu,hGf⟩
   try dsimp only
   try dsimp only at hJF hvu hGf
   refine J.freezeOMW (N:=0) (e:=Z31) (sz:=3) (Nat.zero_le _) Cel.hlen hGf yV (fun q hq=>by simp only[List.map_cons,List.map_nil,List.mem_singleton]at hq;exact⟨_,List.mem_cons_self,hq.symm⟩) rfl rfl ?_;rw[hGf.sl.1];refine vQ ?_;refine Jm rfl (JO.callK (Lr:=_) (Z3E T b0 o0 ha h9 b vs2 hvu _ hE) rfl (.refl _) qF qA ?_);intro w6 hw6;have hu6:w6.2.1<:+T.ts:=hw6.suf.trans hvu;refine vD ?_;refine JO.openEv (s:=61) rfl (fun aw lw cw _ _=>?_);refine Jq (Z0 Z26 rfl) (JO.m (Z9 (cs':=[_,_,_,_,_,_,_,_,_,_,_,_,_,_]) rfl rfl qU rfl rfl rfl rfl Z1I) (by rfl) ?_);refine vP [0,2,3] ?_;refine Jm rfl ?_;refine JO.callK (Lr:=_) (Zg T b0 o0 ha h9 b _ ?hs _ Z5p) rfl (.refl _) qF qA ?_
   case hs=>exact hu6
   intro _ _;refine vD ?_;refine vS [0,2,3,64] ?_;refine J.cutZF (fun x:List Ex×(Option Addr×Nat×Nat)×List T3×Bool=>[(0,.is (.pointer (some ⟨b,0,none⟩))),(2,.is (.pointer (some ⟨b2,0,none⟩))),(3,.is (.pointer (some ⟨b3,0,none⟩)))]) (fun x:List Ex×(Option Addr×Nat×Nat)×List T3×Bool=>RB T b x.2.2.1 x.2.2.2::⟨b3,Z3,.is (.agg #[.int .i64 4,.string ⟨#[]⟩,.string ⟨#[]⟩,.slice none 0 0,.slice none 0 0,.slice none 0 0,.slice (adO si) pi.length (capO si ci),.slice (adO sf) (srC ⟨z5.1.tb,z5.1.nm,[]⟩::js).length (capO sf cf),.slice aw lw cw,.slice x.2.1.1 x.2.1.2.1 x.2.1.2.2,.slice none 0 0,.int .i64 (-1),.slice none 0 0,.bool false])⟩::⟨b2,Z3,zSt⟩::[]) (fun x:List Ex×(Option Addr×Nat×Nat)×List T3×Bool=>SlE exE (FX 0) x.1 (.slice x.2.1.1 x.2.1.2.1 x.2.1.2.2)) (fun x:List Ex×(Option Addr×Nat×Nat)×List T3×Bool=>Rv (groupR T.e w6.2.1) w6.2.1 w6.2.2 (x.1,x.2.2.1,x.2.2.2)) ?_ ?_
   · refine yC rfl (fun ht64=>?_) (fun ht64=>?_)
     rw[Z1e ht64];refine vQ ?_;refine Jm rfl ?_;refine JO.callK (Lr:=_) (Zh T b0 o0 ha h9 b _ ?hs _ 1 qD w_BY) rfl (.refl _) qF qA ?_
     case hs=>exact(List.tail_suffix _).trans hu6
     intro y7 hy7;refine vD ?_;refine vP [0,2,3] ?_;refine Jm rfl (JO.callK (Lr:=_) (Z4S T b0 o0 ha h9 b y7.2.1 (hy7.suf.trans ((List.tail_suffix _).trans hu6)) _ hE) rfl (.refl _) qF qA ?_);intro z7 hz7;refine vD ?_;refine JO.openEv (s:=68) rfl (fun ag lg cg _ _=>?_);refine Jq (Z0 Z3w rfl) (JO.m (Z9 (cs':=[_,_,_,_,_,_,_,_,_,_,_,_,_,_]) rfl rfl qU rfl rfl rfl rfl Z1I) (by rfl) ?_);apply yI;refine JX.midF ((z7.1,(ag,lg,cg),z7.2.1,z7.2.2)) ?_ [0,2,3] ?_ ?_ ?_ ?_
     · exact(by unfold groupR;exact Rv.ite_t ht64 (hy7.bind hz7))
     · exact qS
     · exact qH
     · exact qG
     · exact fun X w hF=>hF _ qI
     apply yK;rw[Z19 ht64];refine JX.midF ((([]:List Ex),(none,0,0),w6.2.1,w6.2.2)) ?_ [0,2,3] ?_ ?_ ?_ ?_
     · exact(by unfold groupR;exact Rv.ite_f ht64 (Rv.pure _))
     · exact qS
     · exact qH
     · exact qG
     · exact fun X w hF=>fun w' hk=>Za (FrS.nil _)
   · intro⟨gl,⟨ag,lg,cg⟩,gu,gb⟩ hgr
     try dsimp only
     try dsimp only at hgr
     have hu7:gu<:+T.ts:=hgr.suf.trans hu6;refine vQ ?_;refine Jm rfl ?_;refine JO.callK (Lr:=_) (Zg T b0 o0 ha h9 b _ ?hs _ Z4y) rfl (.refl _) qF qA ?_
     case hs=>exact hu7
     intro _ _;refine vD ?_;refine vS [0,2,3,71] ?_;refine J.cutZF (fun x:List (Cel kyE)×Option (Nat×List Value)×Nat×List T3×Bool=>[(0,.is (.pointer (some ⟨b,0,none⟩))),(2,.is (.pointer (some ⟨b2,0,none⟩))),(3,.is (.pointer (some ⟨b3,0,none⟩)))]) (fun x:List (Cel kyE)×Option (Nat×List Value)×Nat×List T3×Bool=>RB T b x.2.2.2.1 x.2.2.2.2::⟨b3,Z3,.is (.agg #[.int .i64 4,.string ⟨#[]⟩,.string ⟨#[]⟩,.slice none 0 0,.slice none 0 0,.slice none 0 0,.slice (adO si) pi.length (capO si ci),.slice (adO sf) (srC ⟨z5.1.tb,z5.1.nm,[]⟩::js).length (capO sf cf),.slice aw lw cw,.slice ag lg cg,sliceO x.2.1 x.1.length x.2.2.1,.int .i64 (-1),.slice none 0 0,.bool false])⟩::⟨b2,Z3,zSt⟩::ownO x.2.1 Z42 []) (fun x:List (Cel kyE)×Option (Nat×List Value)×Nat×List T3×Bool=>CelF kyE x.1) (fun x:List (Cel kyE)×Option (Nat×List Value)×Nat×List T3×Bool=>Rv (orderR T.e gu) gu gb (x.1.map Cel.x,x.2.2.2.1,x.2.2.2.2)/\Grows Cel.cs 9 x.1 x.2.1 x.2.2.1) ?_ ?_
     · refine yC rfl (fun ht71=>?_) (fun ht71=>?_)
       rw[Z1e ht71];refine vQ ?_;refine Jm rfl ?_;refine JO.callK (Lr:=_) (Zh T b0 o0 ha h9 b _ ?hs _ 1 qD w_BY) rfl (.refl _) qF qA ?_
       case hs=>exact(List.tail_suffix _).trans hu7
       intro y8 hy8;have hu8:y8.2.1<:+T.ts:=hy8.suf.trans ((List.tail_suffix _).trans hu7);refine vD ?_;refine vP [0,2,3] ?_;refine Ja rfl (vS [0,2,3,6] ?_);apply yk
       repeat apply yQ
       refine J.loopH (α:=List (Cel kyE)×Option (Nat×List Value)×Nat×List T3×Bool×Bool) (fun x=>[(0,.is (.pointer (some ⟨b,0,none⟩))),(2,.is (.pointer (some ⟨b2,0,none⟩))),(3,.is (.pointer (some ⟨b3,0,none⟩))),(6,.is (.bool x.2.2.2.2.2))]) (fun x=>RB T b x.2.2.2.1 x.2.2.2.2.1::⟨b3,Z3,.is (.agg #[.int .i64 4,.string ⟨#[]⟩,.string ⟨#[]⟩,.slice none 0 0,.slice none 0 0,.slice none 0 0,.slice (adO si) pi.length (capO si ci),.slice (adO sf) (srC ⟨z5.1.tb,z5.1.nm,[]⟩::js).length (capO sf cf),.slice aw lw cw,.slice ag lg cg,sliceO x.2.1 x.1.length x.2.2.1,.int .i64 (-1),.slice none 0 0,.bool false])⟩::⟨b2,Z3,zSt⟩::ownO x.2.1 Z42 []) (fun x=>CelF kyE x.1) (fun x=>InvW (keyR T.e) y8.2.1 y8.2.2 (x.1.map Cel.x) x.2.2.2.1 x.2.2.2.2.1 x.2.2.2.2.2/\Grows Cel.cs 9 x.1 x.2.1 x.2.2.1) (fun x=>x.2.2.2.1.length+(if x.2.2.2.2.2 then 1 else 0)) ([],none,0,y8.2.1,y8.2.2,true) [0,2,3,6] (.cons rfl (.cons rfl (.cons rfl (.cons rfl .nil)))) rfl (fun X w hF=>fun w' hk=>CelF.nil w') ⟨InvW.start _ _ _,rfl⟩ fun⟨po,so,co,vs3,bd3,mo3⟩ ⟨hO,hGo⟩=>?_;try dsimp only
       try dsimp only at hO
       try dsimp only at hGo
       refine vQ ?_;refine Jm rfl (Jm rfl (JO.tg rfl rfl rfl rfl rfl (fun hg=>Z1 (.inl rfl)) (JO.tg rfl rfl rfl rfl rfl (fun hg=>Z4 (qR rfl)) ?_)));refine JO.tg rfl rfl rfl rfl rfl (fun hg=>Z0 Ze (qR rfl)) ?_;refine JO.tg rfl rfl rfl rfl rfl (fun hg=>Z5 Z1O (qR rfl) rfl) ?_;refine JO.tg rfl rfl rfl rfl rfl (fun hg=>Z22 (qR rfl)) ?_;refine Jq (Zl rfl rfl rfl id) (vS [0,2,3,81] ?_);refine yC rfl (fun ht81=>?_) (fun ht81=>?_);apply yK;refine vN ?_;apply yk;obtain⟨rfl,rfl⟩:mo3=true/\bd3=false:=by simpa using ht81
       repeat apply yQ
       refine J.regBgm (G:={q:{z:Pz.Ky×List T3×Bool // Rv (keyR T.e vs3) vs3 false z}×Cel kyE // q.2.x=q.1.1.1}) 3 5 (fun q=>TC q.1.2) (fun q=>[RB T b q.1.1.1.2.1 q.1.1.1.2.2]++(⟨b3,Z3,.is (.agg #[.int .i64 4,.string ⟨#[]⟩,.string ⟨#[]⟩,.slice none 0 0,.slice none 0 0,.slice none 0 0,.slice (adO si) pi.length (capO si ci),.slice (adO sf) (srC ⟨z5.1.tb,z5.1.nm,[]⟩::js).length (capO sf cf),.slice aw lw cw,.slice ag lg cg,sliceO so po.length co,.int .i64 (-1),.slice none 0 0,.bool false])⟩::⟨b2,Z3,zSt⟩::ownO so Z42 [])) ([⟨b3,Z3,.is (.agg #[.int .i64 4,.string ⟨#[]⟩,.string ⟨#[]⟩,.slice none 0 0,.slice none 0 0,.slice none 0 0,.slice (adO si) pi.length (capO si ci),.slice (adO sf) (srC ⟨z5.1.tb,z5.1.nm,[]⟩::js).length (capO sf cf),.slice aw lw cw,.slice ag lg cg,sliceO so po.length co,.int .i64 (-1),.slice none 0 0,.bool false])⟩]) rfl rfl rfl rfl hmx qK rfl qK (fun o ho=>by rw[List.mem_singleton.1 ho];exact List.mem_cons_of_mem _ List.mem_cons_self) (fun g o ho=>by rw[List.mem_singleton.1 ho];exact List.mem_cons_of_mem _ List.mem_cons_self) qK ?_;refine yz (Z0 Z1F rfl) (yz (Z5 Z2e rfl rfl) (yz (Z1 rfl) ?_));refine RT.bigg (Lq:=[⟨b3,Z3,.is (.agg #[.int .i64 4,.string ⟨#[]⟩,.string ⟨#[]⟩,.slice none 0 0,.slice none 0 0,.slice none 0 0,.slice (adO si) pi.length (capO si ci),.slice (adO sf) (srC ⟨z5.1.tb,z5.1.nm,[]⟩::js).length (capO sf cf),.slice aw lw cw,.slice ag lg cg,sliceO so po.length co,.int .i64 (-1),.slice none 0 0,.bool false])⟩]) (BigOb.pick (f:=fun g:{z:Pz.Ky×List T3×Bool // Rv (keyR T.e vs3) vs3 false z}=>g.1.1) (Z3d (Lr:=⟨b3,Z3,.is (.agg #[.int .i64 4,.string ⟨#[]⟩,.string ⟨#[]⟩,.slice none 0 0,.slice none 0 0,.slice none 0 0,.slice (adO si) pi.length (capO si ci),.slice (adO sf) (srC ⟨z5.1.tb,z5.1.nm,[]⟩::js).length (capO sf cf),.slice aw lw cw,.slice ag lg cg,sliceO so po.length co,.int .i64 (-1),.slice none 0 0,.bool false])⟩::⟨b2,Z3,zSt⟩::ownO so Z42 []) rfl (Z8I T b0 o0 ha h9 b vs3 (hO.suf.trans hu8) false hE) (.refl _) qF qA)) (fun g=>?_);refine yz (Zc7 rfl (by simp[Op.operands]) (fun E v w _ h=>TC.is E v w h) (Z1V (p:=g.1.2) ZcS Z9m rfl qD (.inr ⟨rfl,rfl⟩))) ?_;apply yn;obtain⟨⟨⟨z9,hz9⟩,p9⟩,hp9⟩:=g;try dsimp only at hp9 ⊢
       refine JO.tcF (s:=87) (p:=p9) rfl ?_;refine JO.apO (ys:=[p9]) Z9h Cel.hlen yV hGo rfl rfl (srcE p9 Z2I) (by simp) (by have h1:=hO.len;have h2:=hu8.length_le;rw[List.length_map]at h1;simp;omega) (by have h1:=hO.len;have h2:=hu8.length_le;rw[List.length_map]at h1;simp;omega) rfl (fun st4 cap4 hG4=>?_);refine Jq (Z0 Z1F rfl) (JO.m (Z2B (cs':=[_,_,_,_,_,_,_,_,_,_,_,_,_,_]) (Z2m _ _ _) (Z2C _ _ _) rfl rfl (Z1R (.there .here)) rfl rfl Z9f) (Upd.same (Z1R (.there .here)) rfl) (JO.subL (L':=RB T b z9.2.1 z9.2.2::⟨b3,Z3,.is (.agg #[.int .i64 4,.string ⟨#[]⟩,.string ⟨#[]⟩,.slice none 0 0,.slice none 0 0,.slice none 0 0,.slice (adO si) pi.length (capO si ci),.slice (adO sf) (srC ⟨z5.1.tb,z5.1.nm,[]⟩::js).length (capO sf cf),.slice aw lw cw,.slice ag lg cg,sliceO st4 (po++[p9]).length cap4,.int .i64 (-1),.slice none 0 0,.bool false])⟩::⟨b2,Z3,zSt⟩::ownO st4 Z42 []) Z9I (vP [0,2,3] ?_)));refine Jm rfl ?_;refine JO.callK (Lr:=_) (ZZ T b0 o0 ha h9 b _ ?hs _ ZW) rfl (.refl _) qF qA ?_
       case hs=>exact hz9.suf.trans (hO.suf.trans hu8)
       intro _ _;refine vD ?_;refine Ja rfl ?_;apply yI
       repeat refine JX.normal_block ?_
       refine JX.roundG (x:=(po,so,co,vs3,false,true)) (po++[p9],st4,cap4,skRB 5 ZW z9.2.1 z9.2.2,z9.2.2,isRB 5 ZW z9.2.1 z9.2.2) ?_ ?_ [0,2,3,6] ?_ ?_ ?_ ?_
       · exact⟨(by rw[List.map_append,List.map_singleton,hp9];exact hO.step (ZhR T.e_dn) hz9),hG4⟩
       · exact(by show _<vs3.length+1;exact InvW.less hz9)
       · exact qS
       · exact qH
       · exact qG
       · exact fun X w hF=>fun w' hk=>CelF.snoc (hF _ qI w' hk) (hF _ qI w' hk)
       repeat apply yQ
       refine J.exit ?_
       repeat first|refine yH ?_|refine yM rfl ?_|refine yE ?_
       repeat first|apply yX|apply yB
       have hOF:=hO.fin (by simpa using ht81);refine JX.midF ((po,so,co,vs3,bd3)) ?_ [0,2,3] ?_ ?_ ?_ ?_
       · exact⟨(by unfold orderR;exact Rv.ite_t ht71 (hy8.bind hOF)),hGo⟩
       · exact qS
       · exact qH
       · exact qG
       · exact fun X w hF=>hF _ qI
       apply yK;rw[Z19 ht71];refine JX.midF ((([]:List (Cel kyE)),none,0,gu,gb)) ?_ [0,2,3] ?_ ?_ ?_ ?_
       · exact⟨(by unfold orderR;exact Rv.ite_f ht71 (Rv.pure _)),rfl⟩
       · exact qS
       · exact qH
       · exact qG
       · exact fun X w hF=>fun w' hk=>CelF.nil w'
     · intro⟨po,so,co,ou,ob⟩ ⟨hor,hGo⟩
       try dsimp only
       try dsimp only at hor hGo
       have hu9:ou<:+T.ts:=hor.suf.trans hu7;refine J.freezeOMW (N:=0) (e:=Z42) (sz:=9) (Nat.zero_le _) Cel.hlen hGo yV (fun q hq=>by simp only[List.map_cons,List.map_nil,List.mem_singleton]at hq;exact⟨_,List.mem_cons_self,hq.symm⟩) rfl rfl ?_;rw[hGo.sl.1];refine vQ ?_;refine Jm rfl ?_;refine JO.callK (Lr:=_) (Zg T b0 o0 ha h9 b _ ?hs _ Z5Y) rfl (.refl _) qF qA ?_
       case hs=>exact hu9
       intro _ _;refine vD ?_;refine vS [0,2,3,92] ?_;refine J.cutZN (fun x:Int×List T3×Bool=>[(0,.is (.pointer (some ⟨b,0,none⟩))),(2,.is (.pointer (some ⟨b2,0,none⟩))),(3,.is (.pointer (some ⟨b3,0,none⟩)))]) (fun x:Int×List T3×Bool=>RB T b x.2.1 x.2.2::⟨b3,Z3,.is (.agg #[.int .i64 4,.string ⟨#[]⟩,.string ⟨#[]⟩,.slice none 0 0,.slice none 0 0,.slice none 0 0,.slice (adO si) pi.length (capO si ci),.slice (adO sf) (srC ⟨z5.1.tb,z5.1.nm,[]⟩::js).length (capO sf cf),.slice aw lw cw,.slice ag lg cg,.slice (adO so) po.length (capO so co),.int .i64 (x.1),.slice none 0 0,.bool false])⟩::⟨b2,Z3,zSt⟩::[]) (fun x:Int×List T3×Bool=>Rv (limitP ou) ou ob x) ?_ ?_
       · refine yC rfl (fun ht92=>?_) (fun ht92=>?_)
         rw[Z1e ht92];refine vQ ?_;refine Jm rfl ?_;refine JO.callK (Lr:=_) (Z5B T b0 o0 ha h9 b _ ?hs _ 3 qD) rfl (.refl _) qF qA ?_
         case hs=>exact(List.tail_suffix _).trans hu9
         intro zl hzl;refine vD ?_;refine Jq (Z4l (off:=2) qK rfl rfl) ?_;refine Jq (Z0 Z3O rfl) (JO.m (Z9 (cs':=[_,_,_,_,_,_,_,_,_,_,_,_,_,_]) rfl rfl qU rfl rfl rfl rfl Z29) (by rfl) ?_);apply yI;refine JX.midZ ((zl.1.n,zl.2.1,zl.2.2)) ?_ [0,2,3] ?_ ?_ ?_
         · exact(by unfold limitP;exact Rv.ite_t ht92 (Rv.map (f:=fun z:T3×List T3=>(z.1.n,z.2)) hzl rfl))
         · exact qS
         · exact qH
         · exact qG
         apply yK;rw[Z19 ht92];refine JX.midZ ((-1,ou,ob)) ?_ [0,2,3] ?_ ?_ ?_
         · exact(by unfold limitP;exact Rv.ite_f ht92 (Rv.pure _))
         · exact qS
         · exact qH
         · exact qG
       · intro⟨lv,lu,lb⟩ hlm
         try dsimp only
         refine vQ ?_;refine Jm rfl (Jm rfl (Jq (Z4 rfl) (Jq (Z0 Ze rfl) (Jq (Z5 Z1O rfl rfl) (Jm rfl (JO.tg rfl rfl rfl rfl rfl (fun hg=>Z0 Z1y (.inl rfl)) (JO.tg rfl rfl rfl rfl rfl (fun hg=>Z5 Z1H (qR rfl) rfl) ?_)))))));refine JO.tg rfl rfl rfl rfl rfl (fun hg=>ZD Z2i (qR rfl)) ?_;refine JO.tg rfl rfl rfl rfl rfl (fun hg=>Z1r (qR rfl) (.inl rfl)) ?_;refine Jq (Zw rfl rfl rfl id) (Jm rfl (JO.tg rfl rfl rfl rfl rfl (fun hg=>Z0 Z13 (.inl rfl)) (JO.tg rfl rfl rfl rfl rfl (fun hg=>Z5 Z11 (qR rfl) rfl) ?_)));refine JO.tg rfl rfl rfl rfl rfl (fun hg=>ZD Z1N (qR rfl)) ?_;refine JO.tg rfl rfl rfl rfl rfl (fun hg=>Z1r (qR rfl) (.inl rfl)) ?_;refine Jq (Zw rfl rfl rfl id) (Jm rfl (JO.tg rfl rfl rfl rfl rfl (fun hg=>Z0 Z1F (.inl rfl)) (JO.tg rfl rfl rfl rfl rfl (fun hg=>Z5 Z2e (qR rfl) rfl) ?_)));refine JO.tg rfl rfl rfl rfl rfl (fun hg=>ZD Z2I (qR rfl)) ?_;refine JO.tg rfl rfl rfl rfl rfl (fun hg=>Z1r (qR rfl) (.inl rfl)) ?_;refine Jq (Zw rfl rfl rfl id) (Jq (Z4 rfl) (Jq (Z0 Ze rfl) (JO.m (Z9 (cs':=[_,_,_]) rfl rfl qU rfl rfl rfl rfl Z1A) (by rfl) ?_)));refine vP [2,3] ?_;refine Jq (ZU (cs:=[_,_,_,_,_,_,_,_,_,_,_,_,_,_]) Zj rfl rfl rfl) (JO.m (Z2 rfl rfl qU (by exact Zb rfl rfl) (by first|exact Zb rfl rfl|exact ZF) Zo) (by rfl) ?_);refine vS [2] ?_;refine vR ?_;refine JX.retLCs (Lr:=[_,_]) rfl ({stK 4 with items:=pi.map Cel.x,from_:=(srC ⟨z5.1.tb,z5.1.nm,[]⟩::js).map Cel.x,where_:=w6.1,group:=gl,order:=po.map Cel.x,limit:=lv},lu,((lb||decide ((16:Int)<((pi.length:Nat):Int)))||decide ((4:Int)<(((srC ⟨z5.1.tb,z5.1.nm,[]⟩::js).length:Nat):Int)))||decide ((16:Int)<((po.length:Nat):Int))) ?_ qP rfl rfl hb0 rfl Zj HasOwn.mem (ZQ rfl) (Sub.st rfl fun X w hf w' hk=>⟨Za (FrS.nil _),Za (FrS.nil _),Za trivial,(by have h:=SlE.ofGr0 hGi (hf _ qI w' hk) (hf (CelF itE pi) qI w' hk);rwa [hGi.sl.1]at h),(by have h:=SlE.ofGr0 hGf (hf _ qI w' hk) (hf (CelF srE (srC ⟨z5.1.tb,z5.1.nm,[]⟩::js)) qI w' hk);rwa [hGf.sl.1]at h),hf _ qI w' hk,(SlE.exs (hf (SlE exE (FX 0) gl (.slice ag lg cg)) qI w' hk)),(by have h:=SlE.ofGr0 hGo (hf _ qI w' hk) (hf (CelF kyE po) qI w' hk);rwa [hGo.sl.1]at h),Z16⟩);show Rv (queryR T.e us) us bad _;unfold queryR;refine hFi.bind (hz4.bind ((Rv.src hz5).bind ((show Rv (joinsG T.e z5.2.1.length z5.2.1) _ _ _ from hJF).bind (hw6.bind (hgr.bind (hor.bind (hlm.bind ?_)))))));have hc:=Rv.cap3 (us:=lu) (bad:=lb) (pi.map Cel.x).length (js.map Cel.x).length (po.map Cel.x).length ({stK 4 with items:=pi.map Cel.x,from_:=⟨z5.1.tb,z5.1.nm,[]⟩::js.map Cel.x,where_:=w6.1,group:=gl,order:=po.map Cel.x,limit:=lv}:Pz.St);simp only[List.length_map]at hc ⊢;exact hc
end Go.Proofs.YtbedigkncjbggaaGreatDoor
set_option maxRecDepth 100000
namespace Go.Proofs.YtbedigkncjbggaaGreatDoor
open Go Go.Vc
abbrev zs(k:Nat):ByteArray:=bl (List.replicate k 122)
abbrev ys(k:Nat):ByteArray:=bl (39::List.replicate k 121)
def n1:ByteArray:=⟨#[48,48,48,48,48,57,50,50,51,51,55,50,48,51,54,56,53,52,55,55,53,56,48,55]⟩
def n2:ByteArray:=⟨#[57,50,50,51,51,55,50,48,51,54,56,53,52,55,55,53,56,48,56]⟩
def n3:ByteArray:=⟨#[57,50,50,51,51,55,50,48,51,54,56,53,52,55,55,53,56,48,56,97]⟩
def part(i n:Nat):List Value:=List.replicate i (.int .u8 32)++List.replicate (n-i) (.int .u8 0)
end Go.Proofs.YtbedigkncjbggaaGreatDoor
set_option maxRecDepth 100000
namespace Go.Proofs.YtbedigkncjbggaaGreatDoor
open Go Go.Vc
def isW(c:Int):Bool:=((decide (97<=c)&&decide (c<=122))||(decide (65<=c)&&decide (c<=90)))||(c==95)
def isB(c:Int):Bool:=(((c==32)||(c==9))||(c==10))||(c==13)
def classF(c:Int):Int:=if isW c then 1 else if digitF c then 2 else if isB c then 3 else 0
def clsOK(b:UInt8):Bool:=((classF b.toNat==1)==letB b)&&(((classF b.toNat==1)||(classF b.toNat==2))==wordB b)&&((classF b.toNat==2)==digB b)&&((classF b.toNat==3)==isSp b)&&(!(isSp b)|| !(wordB b))
theorem Zi6(b:UInt8):clsOK b=true:=Z82 (p:=clsOK) (by decide+kernel) b
theorem Z9U(b:UInt8):(classF b.toNat==1)=letB b/\((classF b.toNat==1)||(classF b.toNat==2))=wordB b/\(classF b.toNat==2)=digB b/\(classF b.toNat==3)=isSp b/\(isSp b=true->wordB b=false):=by
 have h:=Zi6 b;unfold clsOK at h;simp only[Bool.and_eq_true,beq_iff_eq,Bool.or_eq_true,Bool.not_eq_true']at h;obtain⟨⟨⟨⟨h1,h2⟩,h3⟩,h4⟩,h5⟩:=h;refine⟨h1,h2,h3,h4,fun h=>?_⟩;rcases h5 with h5|h5
 · rw[h]at h5;cases h5
 · exact h5
def upV(fr tp d:Int)(b:UInt8):Int:=if decide (fr<=(b.toNat:Int))&&decide ((b.toNat:Int)<=tp)then IntKind.u8.wrap (IntKind.i64.wrap (IntKind.i64.wrap (b.toNat:Int)+d))else b.toNat
def upF(fr tp d:Int)(b:UInt8):UInt8:=(upV fr tp d b).toNat.toUInt8
theorem ZhG(x:Int):((IntKind.u8.wrap x).toNat.toUInt8.toNat:Int)=IntKind.u8.wrap x:=by
 have h:IntKind.u8.wrap x=x % 256:=by
  unfold IntKind.wrap
  simp[IntKind.bits,IntKind.signed]
 rw[h];have h1:0<=x % 256:=Int.emod_nonneg _ qD;have h2:x % 256<256:=Int.emod_lt_of_pos _ qD;have h3:(x % 256).toNat<256:=by omega
 rw[Nat.toUInt8_eq,UInt8.toNat_ofNat_of_lt' (by simpa using h3)]
 omega
theorem up_v(fr tp d:Int)(b:UInt8):((upF fr tp d b).toNat:Int)=upV fr tp d b:=by
 unfold upF upV
 split
 · exact ZhG _
 · simp
theorem Zgl: ∀b:UInt8,upF 97 122 (-32) b=Lib.upperB b:=fun b=>by
 have:=Z82 (p:=fun b=>upF 97 122 (-32) b==Lib.upperB b) (by decide+kernel) b
 simpa using this
theorem Zg8: ∀b:UInt8,upF 65 90 32 b=Lib.lowerB b:=fun b=>by
 have:=Z82 (p:=fun b=>upF 65 90 32 b==Lib.lowerB b) (by decide+kernel) b
 simpa using this
def strC(s:ByteArray):List Value:=[.string s]
theorem ZfY(s:ByteArray):(strC s).length=1:=rfl
def joinW:List (List UInt8)->List UInt8
 |[]=>[32]
 |w::ws=>32::w++joinW ws
theorem ZeM(ws:List (List UInt8)): ∃t,joinW ws=32::t:=by
 cases ws with
 |nil=>exact⟨[],rfl⟩
 |cons w ws=>exact⟨_,rfl⟩
theorem ZcF: ∀(x w:List UInt8) (t:List UInt8),32∉x->32∉w->((x++[32]).isPrefixOf (w++32::t)=true↔x=w)
 |[],[],t,_,_=>by simp
 |[],b::w,t,_,h=>by
   have:(32==b)=false:=beq_eq_false_iff_ne.2 fun e=>h (e ▸ List.mem_cons_self)
   simp[List.isPrefixOf,this]
 |a::x,[],t,h,_=>by
   have:(a==32)=false:=beq_eq_false_iff_ne.2 fun e=>h (e ▸ List.mem_cons_self)
   simp[List.isPrefixOf,this]
 |a::x,b::w,t,h1,h2=>by
   have ih:=ZcF x w t (fun h=>h1 (List.mem_cons_of_mem _ h)) (fun h=>h2 (List.mem_cons_of_mem _ h));simp only[List.cons_append,List.isPrefixOf,Bool.and_eq_true,beq_iff_eq,ih,List.cons.injEq]
theorem ZcG(x:List UInt8): ∀(w t:List UInt8),32∉w->(0<=Lib.index (w++t) (padL x)↔0<=Lib.index t (padL x))
 |[],t,_=>Iff.rfl
 |b::w,t,h=>by
   have hb:(32==b)=false:=beq_eq_false_iff_ne.2 fun e=>h (e ▸ List.mem_cons_self);have hp:(padL x).isPrefixOf (b::(w++t))=false:=by
     unfold padL
     simp[List.isPrefixOf,hb]
   rw[<-ZcG x w t (fun h'=>h (List.mem_cons_of_mem _ h'))];show 0<=Lib.index (b::(w++t)) (padL x)↔_;rw[Lib.index,hp];have:=Lib.index_ge (w++t) (padL x);simp only[Bool.false_eq_true,if_false]
   by_cases h1:Lib.index (w++t) (padL x)= -1
   · rw[h1];simp
   · rw[if_neg (by simpa using h1)]
     omega
theorem Zd4{x:List UInt8}(hx:32∉x): ∀ws:List (List UInt8),(∀w∈ws,32∉w)->(0<=Lib.index (joinW ws) (padL x)↔x∈ws)
 |[],_=>by
   have:Lib.index (joinW []) (padL x)= -1:=by
     cases x with
     |nil=>rfl
     |cons a x=>
       unfold joinW padL Lib.index
       simp[List.isPrefixOf,Lib.index]
   rw[this]
   simp
 |w::ws,hw=>by
   obtain⟨t,ht⟩:=ZeM ws;have h1:=ZcF x w t hx (hw w List.mem_cons_self);have ih:=Zd4 hx ws (fun v hv=>hw v (List.mem_cons_of_mem _ hv));have hs:=ZcG x w (joinW ws) (hw w List.mem_cons_self);have e:joinW (w::ws)=32::(w++joinW ws):=rfl;have hp:(padL x).isPrefixOf (32::(w++joinW ws))=(x++[32]).isPrefixOf (w++joinW ws):=by
     unfold padL
     simp[List.isPrefixOf]
   rw[e,Lib.index,hp];rw[<-ht]at h1
   by_cases hh:x=w
   · rw[if_pos (h1.2 hh)]
     simp[hh]
   · rw[if_neg (fun h=>hh (h1.1 h))]
     have hge:=Lib.index_ge (w++joinW ws) (padL x);rw[ih]at hs
     constructor
     · intro h
       refine List.mem_cons_of_mem _ (hs.1 ?_)
       by_cases h9:Lib.index (w++joinW ws) (padL x)= -1
       · rw[h9]at h;simp at h
       · omega
     · intro h
       rcases List.mem_cons.1 h with h|h
       · exact absurd h hh
       · have:=hs.2 h
         rw[if_neg (by rw[beq_iff_eq];omega)]
         omega
def wordsB:List ByteArray:=[⟨#[65,78,68]⟩,⟨#[65,83]⟩,⟨#[65,83,67]⟩,⟨#[66,69,71,73,78]⟩,⟨#[66,79,79,76]⟩,⟨#[66,89]⟩,⟨#[67,79,77,77,73,84]⟩,⟨#[67,79,85,78,84]⟩,⟨#[67,82,69,65,84,69]⟩,⟨#[68,69,76,69,84,69]⟩,⟨#[68,69,83,67]⟩,⟨#[70,65,76,83,69]⟩,⟨#[70,82,79,77]⟩,⟨#[71,82,79,85,80]⟩,⟨#[72,65,83,72]⟩,⟨#[73,78,68,69,88]⟩,⟨#[73,78,78,69,82]⟩,⟨#[73,78,83,69,82,84]⟩,⟨#[73,78,84]⟩,⟨#[73,78,84,79]⟩,⟨#[73,83]⟩,⟨#[74,79,73,78]⟩,⟨#[75,69,89]⟩,⟨#[76,73,77,73,84]⟩,⟨#[77,65,88]⟩,⟨#[77,73,78]⟩,⟨#[78,79,84]⟩,⟨#[78,85,76,76]⟩,⟨#[79,78]⟩,⟨#[79,82]⟩,⟨#[79,82,68,69,82]⟩,⟨#[80,82,73,77,65,82,89]⟩,⟨#[82,79,76,76,66,65,67,75]⟩,⟨#[83,69,76,69,67,84]⟩,⟨#[83,69,84]⟩,⟨#[83,85,77]⟩,⟨#[84,65,66,76,69]⟩,⟨#[84,69,88,84]⟩,⟨#[84,82,85,69]⟩,⟨#[85,78,73,81,85,69]⟩,⟨#[85,80,68,65,84,69]⟩,⟨#[85,83,73,78,71]⟩,⟨#[86,65,76,85,69,83]⟩,⟨#[87,72,69,82,69]⟩]
theorem Zhp:kwB.data.toList=joinW (wordsB.map fun s=>s.data.toList):=by decide+kernel
theorem Zg7: ∀w∈wordsB.map (fun s=>s.data.toList),(32:UInt8)∉w:=by decide+kernel
theorem Zal(s:ByteArray)(x:List UInt8):seq s (bl x)=(s.data.toList==x):=by
 unfold seq;rw[ByteArray.toList_eq,ByteArray.toList_eq,Z4D]
theorem Zcp{x:List UInt8}(hx:32∉x):Lib.contains kwB.data.toList (padL x)=wordsB.any (fun s=>seq s (bl x)):=by
 unfold Lib.contains;rw[Zhp];have h:=Zd4 hx _ Zg7;rw[Bool.eq_iff_iff,decide_eq_true_iff,h,List.any_eq_true]
 constructor
 · intro hm
   obtain⟨s,hs,e⟩:=List.mem_map.1 hm;exact⟨s,hs,by rw[Zal];simpa using e⟩
 · rintro⟨s,hs,e⟩
   rw[Zal]at e;exact List.mem_map.2 ⟨s,hs,by simpa using e⟩
theorem ZhF(b:UInt8)(h:wordB b=true):Lib.upperB b≠32:=by
 have:=Z82 (p:=fun b=> !(wordB b)|| !(Lib.upperB b==32)) (by decide+kernel) b;rw[h]at this
 simpa using this
theorem ZaD{w:List UInt8}(h: ∀b∈w,wordB b=true):32∉Lib.toUpperA w:=fun hm=>by
 obtain⟨b,hb,e⟩:=List.mem_map.1 hm;exact ZhF b (h b hb) e
theorem Zgw{α:Type}(p:α->Bool)(d:α){xs:List α}{i:Nat}(h:i<xs.length):(xs.take (i+1)).any p=((xs.take i).any p||p (xs.getD i d)):=by
 rw[List.take_add_one,List.any_append]
 simp[h]
theorem ZgT{α:Type}{p:α->Bool}(d:α){xs:List α}{i:Nat}(h:i<xs.length)(hp:p (xs.getD i d)=true):xs.any p=true:=
 List.any_eq_true.2 ⟨_,by rw[List.getD_eq_getElem?_getD,List.getElem?_eq_getElem h];exact List.getElem_mem h,hp⟩
def oneB:ByteArray:=⟨#[40,41,44,59,42,43,45,47,37,61,60,62,46]⟩
def signRF(l:List UInt8):Int:=
 if decide (2<=(l.length:Int))&&((l.take 2==[60,62])||(l.take 2==[60,61])||(l.take 2==[62,61]))then 2 else if oneB.data.toList.contains (l.headD 0)then 1 else 0
theorem ZhN(b:UInt8):tryL [b] 1=oneB.data.toList.contains b:=by
 have:=Z82 (p:=fun b=>tryL [b] 1==oneB.data.toList.contains b) (by decide+kernel) b
 simpa using this
theorem ZhV: ∀b∈sgB.data.toList,∀c∈sgB.data.toList,b≠32->tryL [b,c] 2=((([b,c]:List UInt8)==[60,62])||(([b,c]:List UInt8)==[60,61])||(([b,c]:List UInt8)==[62,61])):=by decide+kernel
theorem Ziv{b c:UInt8}(hb:b≠32):tryL [b,c] 2=((([b,c]:List UInt8)==[60,62])||(([b,c]:List UInt8)==[60,61])||(([b,c]:List UInt8)==[62,61])):=by
 by_cases h1:b∈sgB.data.toList
 · by_cases h2:c∈sgB.data.toList
   · exact ZhV b h1 c h2 hb
   · rw[ZfO (b:=c) (by simp) h2]
     have hc:c≠62/\c≠61:=⟨fun e=>h2 (by rw[e];decide+kernel),fun e=>h2 (by rw[e];decide+kernel)⟩
     simp[hc.1,hc.2]
 · rw[ZfO (b:=b) (by simp) h1]
   have hc:b≠60/\b≠62:=⟨fun e=>h1 (by rw[e];decide+kernel),fun e=>h1 (by rw[e];decide+kernel)⟩
   simp[hc.1,hc.2]
theorem Zfh(A B:Bool)(b:UInt8)(l:List UInt8)(h:signRF (b::l)=if A then 2 else if B then 1 else 0)(h2:tryL (b::l) 2=A)(h1:tryL (b::l) 1=B):
  signL (b::l)=if signRF (b::l)=0 then((t3D,30),0)else((⟨5,bl ((b::l).take (signRF (b::l)).toNat),0⟩,0),(signRF (b::l)).toNat):=by
 rw[h];unfold signL;rw[h2,h1];cases A<;>cases B<;>rfl
theorem Zeh{b:UInt8}{l:List UInt8}(hb:b≠32):signL (b::l)=if signRF (b::l)=0 then((t3D,30),0)else((⟨5,bl ((b::l).take (signRF (b::l)).toNat),0⟩,0),(signRF (b::l)).toNat):=by
 have e1:tryL (b::l) 1=oneB.data.toList.contains b:=by rw[<-ZhN];unfold tryL;simp
 cases l with
 |nil=>
   refine Zfh false _ b [] ?_ rfl e1;unfold signRF
   simp
 |cons c l=>
   have e2:tryL (b::c::l) 2=tryL [b,c] 2:=by unfold tryL;simp
   refine Zfh _ _ b (c::l) ?_ (e2.trans (Ziv hb)) e1;unfold signRF;have e4:decide (2<=((b::c::l).length:Int))=true:=by simp;omega
   have e3:(b::c::l).take 2=[b,c]:=rfl;simp only[e4,e3,Bool.true_and,List.headD_cons]
   rfl
def quoF:List UInt8->List UInt8->Option (List UInt8×Nat)
 |[],_=>none
 |[b],acc=>if b==39 then some (acc,1)else none
 |b::c::l,acc=>if b==39 then(if c != 39 then some (acc,1)else(quoF l (acc++[c])).map fun r=>(r.1,r.2+2))else(quoF (c::l) (acc++[b])).map fun r=>(r.1,r.2+1)
theorem Z93: ∀(l acc:List UInt8),(quoF l acc=none->(textL l acc).1=(t3D,30))/\(∀r,quoF l acc=some r->textL l acc=(endT r.1,r.2))
 |[],acc=>⟨fun _=>rfl,fun r h=>by cases h⟩
 |[b],acc=>by
   by_cases hq:(b==39)=true
   · have e1:quoF [b] acc=some (acc,1):=by rw[quoF,if_pos hq]
     have e2:textL [b] acc=(endT acc,1):=by rw[textL,if_pos hq]
     rw[e1,e2];exact⟨fun h=>(by cases h),fun r h=>(by injection h with h;subst h;rfl)⟩
   · have e1:quoF [b] acc=none:=by rw[quoF,if_neg hq]
     have e2:textL [b] acc=((t3D,30),1):=by rw[textL,if_neg hq]
     rw[e1,e2];exact⟨fun _=>rfl,fun r h=>(by cases h)⟩
 |b::c::l,acc=>by
   obtain⟨a1,a2⟩:=Z93 l (acc++[c]);obtain⟨b1,b2⟩:=Z93 (c::l) (acc++[b])
   by_cases hq:(b==39)=true
   · by_cases hc:(c != 39)=true
     · have e1:quoF (b::c::l) acc=some (acc,1):=by rw[quoF,if_pos hq,if_pos hc]
       have e2:textL (b::c::l) acc=(endT acc,1):=by rw[textL,if_pos hq,if_pos hc]
       rw[e1,e2];exact⟨fun h=>(by cases h),fun r h=>(by injection h with h;subst h;rfl)⟩
     · have e1:quoF (b::c::l) acc=(quoF l (acc++[c])).map fun r=>(r.1,r.2+2):=by rw[quoF,if_pos hq,if_neg hc]
       have e2:textL (b::c::l) acc=((textL l (acc++[c])).1,(textL l (acc++[c])).2+2):=by rw[textL,if_pos hq,if_neg hc]
       rw[e1,e2];refine⟨fun h=>a1 (Option.map_eq_none_iff.1 h),fun r h=>?_⟩;obtain⟨q,hq,e⟩:=Option.map_eq_some_iff.1 h;subst e;rw[a2 q hq]
   · have e1:quoF (b::c::l) acc=(quoF (c::l) (acc++[b])).map fun r=>(r.1,r.2+1):=by rw[quoF,if_neg hq]
     have e2:textL (b::c::l) acc=((textL (c::l) (acc++[b])).1,(textL (c::l) (acc++[b])).2+1):=by rw[textL,if_neg hq]
     rw[e1,e2];refine⟨fun h=>b1 (Option.map_eq_none_iff.1 h),fun r h=>?_⟩;obtain⟨q,hq,e⟩:=Option.map_eq_some_iff.1 h;subst e;rw[b2 q hq]
theorem ZfX(b:UInt8)(l acc:List UInt8)(hb:(b==39)=false):quoF (b::l) acc=(quoF l (acc++[b])).map fun r=>(r.1,r.2+1):=by
 cases l with
 |nil=>simp[quoF,hb]
 |cons c l=>rw[quoF,if_neg (by rw[hb];simp)]
theorem Zi3{s:ByteArray}{i:Nat}(h:i<s.size)(acc:List UInt8)(hb:(by_ s i==39)=false):quoF (dr s i) acc=(quoF (dr s (i+1)) (acc++[by_ s i])).map fun r=>(r.1,r.2+1):=by
 rw[Z1t h,ZfX _ _ _ hb]
theorem Zho{s:ByteArray}{i:Nat}(h:i+1<s.size)(acc:List UInt8)(hb:(by_ s i==39)=true)(hc:(by_ s (i+1)==39)=true):quoF (dr s i) acc=(quoF (dr s (i+1+1)) (acc++[39])).map fun r=>(r.1,r.2+2):=by
 have e:by_ s (i+1)=39:=by simpa using hc
 rw[Z1t (by omega:i<s.size),Z1t h,quoF,if_pos hb,if_neg (by simp[bne,hc]),e]
theorem ZgY{s:ByteArray}{i:Nat}(h:i<s.size)(acc:List UInt8)(hb:(by_ s i==39)=true)(hc:(decide (((i+1:Nat):Int)<(s.size:Int))&&(by_ s (i+1)==39))=false):quoF (dr s i) acc=some (acc,1):=by
 by_cases h1:i+1<s.size
 · have hc:(by_ s (i+1)==39)=false:=by
     rw[decide_eq_true qM,Bool.true_and]at hc;exact hc
   rw[Z1t h,Z1t h1,quoF,if_pos hb,if_pos (by simp[bne,hc])]
 · rw[Z1t h,Z4Y qM,quoF,if_pos hb]
end Go.Proofs.YtbedigkncjbggaaGreatDoor
set_option maxRecDepth 100000
namespace Go.Proofs.YtbedigkncjbggaaGreatDoor
open Go Go.Vc
theorem w8(x:Int):IntKind.u8.wrap x=x % 256:=by
 unfold IntKind.wrap
 simp[IntKind.bits,IntKind.signed]
theorem w64u(x:Int):IntKind.u64.wrap x=x % 18446744073709551616:=by
 unfold IntKind.wrap
 simp[IntKind.bits,IntKind.signed]
def overF(u d:Int):Bool:=decide (922337203685477580<u)||((u==922337203685477580)&&decide (7<d))
def dgU(b:UInt8):Int:=IntKind.u64.wrap (IntKind.u8.wrap ((b.toNat:Int)-48))
def refG:List UInt8->Int->Option Int
 |[],u=>some u
 |x::l,u=>if overF u (dgU x)then none else refG l (IntKind.u64.wrap (IntKind.u64.wrap (10*u)+dgU x))
def refNum(l:List UInt8):Int×Bool:=match refG l 0 with|none=>(0,false)|some u=>(IntKind.i64.wrap u,true)
theorem ZhA{b:UInt8}(h:digB b=true):48<=(b.toNat:Int)/\(b.toNat:Int)<=57:=by
 unfold digB digitF at h
 simpa using h
theorem Zel: ∀(l:List UInt8) (m:Int),(l.foldl numStep (m,35)).2=35
 |[],_=>rfl
 |x::l,m=>by
   rw[List.foldl_cons];have:(numStep (m,35) x).2=35:=by unfold numStep;split<;>rfl
   rw[show numStep (m,35) x=((numStep (m,35) x).1,35)from Prod.ext rfl this];exact Zel l _
theorem ZbJ: ∀(l:List UInt8) (u:Int),(∀b∈l,digB b=true)->0<=u->u<=9223372036854775807->
   (refG l u=none->(l.foldl numStep (u,0)).2=35)/\(∀v,refG l u=some v->l.foldl numStep (u,0)=(v,0)/\0<=v/\v<=9223372036854775807)
 |[],u,_,h0,h1=>⟨fun h=>(by cases h),fun v h=>(by injection h with h;subst h;exact⟨rfl,h0,h1⟩)⟩
 |x::l,u,hd,h0,h1=>by
   obtain⟨d0,d1⟩:=ZhA (hd x List.mem_cons_self);have e8:IntKind.u8.wrap ((x.toNat:Int)-48)=(x.toNat:Int)-48:=by rw[w8];omega
   have eu:dgU x=(x.toNat:Int)-48:=by unfold dgU;rw[e8,w64u];omega
   have ei:IntKind.i64.wrap ((x.toNat:Int)-48)=(x.toNat:Int)-48:=Z3T qM qM;have em:IntKind.i64.wrap (9223372036854775807-((x.toNat:Int)-48))=9223372036854775807-((x.toNat:Int)-48):=Z3T qM qM;have eq:IntKind.i64.wrap ((9223372036854775807-((x.toNat:Int)-48)).tdiv 10)=(9223372036854775807-((x.toNat:Int)-48)) / 10:=by
     rw[Int.tdiv_eq_ediv_of_nonneg qM];exact Z3T qM qM
   have es:numStep (u,0) x=(IntKind.i64.wrap (IntKind.i64.wrap (10*u)+((x.toNat:Int)-48)),if decide ((9223372036854775807-((x.toNat:Int)-48)) / 10<u)then 35 else 0):=by
     unfold numStep;rw[e8,ei,em,eq]
   rw[List.foldl_cons,refG,eu,es]
   by_cases ho:overF u ((x.toNat:Int)-48)=true
   · rw[if_pos ho]
     have:(9223372036854775807-((x.toNat:Int)-48)) / 10<u:=by
       unfold overF at ho;simp only[Bool.or_eq_true,decide_eq_true_eq,Bool.and_eq_true,beq_iff_eq]at ho
       omega
     rw[if_pos (decide_eq_true this)];exact⟨fun _=>Zel l _,fun v h=>(by cases h)⟩
   · rw[if_neg ho]
     have hn: ¬(9223372036854775807-((x.toNat:Int)-48)) / 10<u:=by
       unfold overF at ho;simp only[Bool.or_eq_true,decide_eq_true_eq,Bool.and_eq_true,beq_iff_eq,not_or,not_and]at ho
       omega
     rw[if_neg (by rw[decide_eq_false hn];simp)];have e1:IntKind.u64.wrap (IntKind.u64.wrap (10*u)+((x.toNat:Int)-48))=10*u+((x.toNat:Int)-48):=by
       rw[w64u,w64u];omega
     have e2:IntKind.i64.wrap (IntKind.i64.wrap (10*u)+((x.toNat:Int)-48))=10*u+((x.toNat:Int)-48):=by
       rw[Z3T (n:=10*u) qM qM];exact Z3T qM qM
     rw[e1,e2];exact ZbJ l _ (fun b hb=>hd b (List.mem_cons_of_mem _ hb)) qM qM
theorem Zef{l:List UInt8}(hl:headP letB (l.drop (runN digB l))=false):
   numL l=if(refNum (l.take (runN digB l))).2 then(⟨3,⟨#[]⟩,(refNum (l.take (runN digB l))).1⟩,0)else(t3D,35):=by
 have h:=ZbJ (l.take (runN digB l)) 0 (Z9Z digB l) (Int.le_refl _) qD;have e:numE l=((l.take (runN digB l)).foldl numStep (0,0)).2:=by unfold numE;rw[hl];rfl
 unfold numL refNum;rw[e];cases hr:refG (l.take (runN digB l)) 0 with
 |none=>
   rw[h.1 hr]
   rfl
 |some v=>
   obtain⟨h1,h2,h3⟩:=h.2 v hr;rw[h1];simp only[bne_self_eq_false,Bool.false_eq_true,if_false,if_true];rw[Z3T qM qM]
theorem ZgS{l:List UInt8}(hl:headP letB (l.drop (runN digB l))=true):numL l=(t3D,30):=by
 have e:numE l=30:=by unfold numE;rw[hl];rfl
 unfold numL;rw[e]
 rfl
end Go.Proofs.YtbedigkncjbggaaGreatDoor
