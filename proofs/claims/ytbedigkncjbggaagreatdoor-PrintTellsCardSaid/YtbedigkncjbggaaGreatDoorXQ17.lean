/- The document's reader: SELECT. No condition. -/
import Derived.Test.YtbedigkncjbggaaGreatDoorXQ16
import Derived.Test.YtbedigkncjbggaaGreatDoorXG8
import Derived.Test.YtbedigkncjbggaaGreatDoorXQ5
import Derived.Test.YtbedigkncjbggaaGreatDoorXQ11
import Derived.Test.YtbedigkncjbggaaGreatDoorXQ9
import Derived.Test.YtbedigkncjbggaaGreatDoorXQ12
import Derived.Test.YtbedigkncjbggaaGreatDoorXQ6
import Derived.Test.YtbedigkncjbggaaGreatDoorXQ1
set_option maxRecDepth 20000
namespace Go.Proofs.YtbedigkncjbggaaGreatDoor
open Go Go.Vc
open Go.Pz
theorem Zk3{e:Ps Ex}(he:Dn e):Dn (keyR e):=by rw[ZfX];exact Z68 he
theorem Rv.cap3{α:Type}{us:List T3}{bad:Bool}(n m k:Nat)(x:α):Rv (if n<=16/\m+1<=4/\k<=16 then some (x,us)else none) us bad (x,us,((bad||decide ((16:Int)<(n:Int)))||decide ((4:Int)<((m+1:Nat):Int)))||decide ((16:Int)<(k:Int))):=by
 by_cases h:n<=16/\m+1<=4/\k<=16
 · rw[if_pos h,decide_eq_false (show ¬(16:Int)<(n:Int) by omega),decide_eq_false (show ¬(4:Int)<((m+1:Nat):Int) by omega),decide_eq_false (show ¬(16:Int)<(k:Int) by omega),Bool.or_false,Bool.or_false,Bool.or_false];exact Rv.pure x
 · rw[if_neg h]
   by_cases h1:n<=16
   · by_cases h2:m+1<=4
     · rw[decide_eq_true (show(16:Int)<(k:Int) by omega),Bool.or_true];exact Rv.none x
     · rw[decide_eq_true (show(4:Int)<((m+1:Nat):Int) by omega),Bool.or_true,Bool.true_or];exact Rv.none x
   · rw[decide_eq_true (show(16:Int)<(n:Int) by omega),Bool.or_true,Bool.true_or,Bool.true_or];exact Rv.none x
attribute [local irreducible] SlE ExsR
set_option maxHeartbeats 2000000 in
theorem Z8e(T:Rk)(b0 o0:Nat)(ha:T.ts.length≠0->T.ad=some ⟨b0,o0,none⟩)(h9:T.ts.length<=2049)(b:Nat)(us:List T3)(hus:us<:+T.ts)(bad:Bool)(hE:E0 T b):CallL Tryz.prog Z8s [RB T b us bad] [T.G] [.is (.pointer (some ⟨b,0,none⟩))] (fun z:Pz.St×List T3×Bool=>Rv (queryR T.e us) us bad z) (fun z=>[RB T b z.2.1 z.2.2]) (fun z=>.rep (StR 0 z.1)):=
CallL.of (fn:=Tryz.f34) Tryz.func34 (n:=123) rfl rfl rfl (fun _ _=>by kernel_rfl) fun E W hb0=>by
 refine vQ ?_;refine JO.alloc Z1Q rfl fun b2=>(vP [0,2] ?_);refine Jq (Zg (cs:=[_,_,_,_,_,_,_,_,_,_,_,_,_,_]) Z38 (.cons rfl (.cons rfl .nil)) rfl rfl) (JO.alloc Z1Q rfl fun b3=>(JO.m (Z4 rfl rfl qU (by exact Zh rfl rfl) (by first|exact Zh rfl rfl|exact ZQ) ZV) (by rfl) ?_));refine vS [0,2,3] ?_;refine J.front b (by repeat(first|exact .here|apply Front.there)) ?_;refine vQ ?_;refine Ja rfl (vS [0,2,3,4] ?_);apply yk
 repeat apply yQ
 refine J.loopH (α:=List (Cel itE)×Option (Nat×List Value)×Nat×List T3×Bool×Bool) (fun x=>[(0,.is (.pointer (some ⟨b,0,none⟩))),(2,.is (.pointer (some ⟨b2,0,none⟩))),(3,.is (.pointer (some ⟨b3,0,none⟩))),(4,.is (.bool x.2.2.2.2.2))]) (fun x=>RB T b x.2.2.2.1 x.2.2.2.2.1::⟨b3,Z3,.is (.agg #[.int .i64 4,.string ⟨#[]⟩,.string ⟨#[]⟩,.slice none 0 0,.slice none 0 0,.slice none 0 0,sliceO x.2.1 x.1.length x.2.2.1,.slice none 0 0,.slice none 0 0,.slice none 0 0,.slice none 0 0,.int .i64 (-1),.slice none 0 0,.bool false])⟩::⟨b2,Z3,zSt⟩::ownO x.2.1 Z4x []) (fun x=>CelF itE x.1) (fun x=>InvW (itemP T.e) us bad (x.1.map Cel.x) x.2.2.2.1 x.2.2.2.2.1 x.2.2.2.2.2/\Grows Cel.cs 9 x.1 x.2.1 x.2.2.1) (fun x=>x.2.2.2.1.length+(if x.2.2.2.2.2 then 1 else 0)) ([],none,0,us,bad,true) [0,2,3,4] (.cons rfl (.cons rfl (.cons rfl (.cons rfl .nil)))) rfl (fun X w hF=>fun w' hk=>CelF.nil w') ⟨InvW.start _ _ _,rfl⟩ fun⟨pi,si,ci,vs,bd,mo⟩ ⟨hI,hGi⟩=>?_;try dsimp only
 try dsimp only at hI
 try dsimp only at hGi
 refine vQ ?_;refine Jm rfl (Jm rfl (JO.tg rfl rfl rfl rfl rfl (fun hg=>Z2 (.inl rfl)) (JO.tg rfl rfl rfl rfl rfl (fun hg=>Z5 (qR rfl)) ?_)));refine JO.tg rfl rfl rfl rfl rfl (fun hg=>Z0 Ze (qR rfl)) ?_;refine JO.tg rfl rfl rfl rfl rfl (fun hg=>Z1 Z1E (qR rfl) rfl) ?_;refine JO.tg rfl rfl rfl rfl rfl (fun hg=>Z2e (qR rfl)) ?_;refine Jq (Zn rfl rfl rfl id) (vS [0,2,3,15] ?_);refine yC rfl (fun ht15=>?_) (fun ht15=>?_);apply yK;refine vN ?_;apply yk;obtain⟨rfl,rfl⟩:mo=true/\bd=false:=by simpa using ht15
 repeat apply yQ
 refine J.regBgm (G:={q:{z:Pz.Itm×List T3×Bool // Rv (itemP T.e vs) vs false z}×Cel itE // q.2.x=q.1.1.1}) 3 5 (fun q=>TC q.1.2) (fun q=>[RB T b q.1.1.1.2.1 q.1.1.1.2.2]++(⟨b3,Z3,.is (.agg #[.int .i64 4,.string ⟨#[]⟩,.string ⟨#[]⟩,.slice none 0 0,.slice none 0 0,.slice none 0 0,sliceO si pi.length ci,.slice none 0 0,.slice none 0 0,.slice none 0 0,.slice none 0 0,.int .i64 (-1),.slice none 0 0,.bool false])⟩::⟨b2,Z3,zSt⟩::ownO si Z4x [])) ([⟨b3,Z3,.is (.agg #[.int .i64 4,.string ⟨#[]⟩,.string ⟨#[]⟩,.slice none 0 0,.slice none 0 0,.slice none 0 0,sliceO si pi.length ci,.slice none 0 0,.slice none 0 0,.slice none 0 0,.slice none 0 0,.int .i64 (-1),.slice none 0 0,.bool false])⟩]) rfl rfl rfl rfl hmx qK rfl qK (fun o ho=>by rw[List.mem_singleton.1 ho];exact List.mem_cons_of_mem _ List.mem_cons_self) (fun g o ho=>by rw[List.mem_singleton.1 ho];exact List.mem_cons_of_mem _ List.mem_cons_self) qK ?_;refine yz (Z0 Z2h rfl) (yz (Z1 Z2v rfl rfl) (yz (Z2 rfl) ?_));refine RT.bigg (Lq:=[⟨b3,Z3,.is (.agg #[.int .i64 4,.string ⟨#[]⟩,.string ⟨#[]⟩,.slice none 0 0,.slice none 0 0,.slice none 0 0,sliceO si pi.length ci,.slice none 0 0,.slice none 0 0,.slice none 0 0,.slice none 0 0,.int .i64 (-1),.slice none 0 0,.bool false])⟩]) (BigOb.pick (f:=fun g:{z:Pz.Itm×List T3×Bool // Rv (itemP T.e vs) vs false z}=>g.1.1) (Z3x (Lr:=⟨b3,Z3,.is (.agg #[.int .i64 4,.string ⟨#[]⟩,.string ⟨#[]⟩,.slice none 0 0,.slice none 0 0,.slice none 0 0,sliceO si pi.length ci,.slice none 0 0,.slice none 0 0,.slice none 0 0,.slice none 0 0,.int .i64 (-1),.slice none 0 0,.bool false])⟩::⟨b2,Z3,zSt⟩::ownO si Z4x []) rfl (Z8H T b0 o0 ha h9 b vs (hI.suf.trans hus) false hE) (.refl _) qF qA)) (fun g=>?_);refine yz (ZdR rfl (by simp[Op.operands]) (fun E v w _ h=>TC.is E v w h) (Z2d (p:=g.1.2) Zft Z9e rfl qD (.inr ⟨rfl,rfl⟩))) ?_;apply yn;obtain⟨⟨⟨z2,hz2⟩,p2⟩,hp2⟩:=g;try dsimp only at hp2 ⊢
 refine JO.tcF (s:=21) (p:=p2) rfl ?_;refine JO.apO (ys:=[p2]) Z8Q Cel.hlen yV hGi rfl rfl (srcE p2 Z36) (by simp) (by have h1:=hI.len;have h2:=hus.length_le;rw[List.length_map]at h1;simp;omega) (by have h1:=hI.len;have h2:=hus.length_le;rw[List.length_map]at h1;simp;omega) rfl (fun st2 cap2 hG2=>?_);refine Jq (Z0 Z2h rfl) (JO.m (Z2Q (cs':=[_,_,_,_,_,_,_,_,_,_,_,_,_,_]) (Z2H _ _ _) (Z2T _ _ _) rfl rfl (Z28 (.there .here)) rfl rfl Z8z) (Upd.same (Z28 (.there .here)) rfl) (JO.subL (L':=RB T b z2.2.1 z2.2.2::⟨b3,Z3,.is (.agg #[.int .i64 4,.string ⟨#[]⟩,.string ⟨#[]⟩,.slice none 0 0,.slice none 0 0,.slice none 0 0,sliceO st2 (pi++[p2]).length cap2,.slice none 0 0,.slice none 0 0,.slice none 0 0,.slice none 0 0,.int .i64 (-1),.slice none 0 0,.bool false])⟩::⟨b2,Z3,zSt⟩::ownO st2 Z4x []) Zaw (vP [0,2,3] ?_)));refine Jm rfl ?_;refine JO.callK (Lr:=_) (Z10 T b0 o0 ha h9 b _ ?hs _ ZU) rfl (.refl _) qF qA ?_
 case hs=>exact hz2.suf.trans (hI.suf.trans hus)
 intro _ _;refine vD ?_;refine Ja rfl ?_;apply yI
 repeat refine JX.normal_block ?_
 refine JX.roundG (x:=(pi,si,ci,vs,false,true)) (pi++[p2],st2,cap2,skRB 5 ZU z2.2.1 z2.2.2,z2.2.2,isRB 5 ZU z2.2.1 z2.2.2) ?_ ?_ [0,2,3,4] ?_ ?_ ?_ ?_
 · exact⟨(by rw[List.map_append,List.map_singleton,hp2];exact hI.step (Z4I T.e_dn) hz2),hG2⟩
 · exact(by show _<vs.length+1;exact InvW.less hz2)
 · exact qS
 · exact qH
 · exact qG
 · exact fun X w hF=>fun w' hk=>CelF.snoc (hF _ qI w' hk) (hF _ qI w' hk)
 repeat apply yQ
 refine J.exit ?_
 repeat first|refine yH ?_|refine yM rfl ?_|refine yE ?_
 repeat first|apply yX|apply yB
 have hFi:=hI.fin (by simpa using ht15);refine J.freezeOMW (N:=0) (e:=Z4x) (sz:=9) (Nat.zero_le _) Cel.hlen hGi yV (fun q hq=>by simp only[List.map_cons,List.map_nil,List.mem_singleton]at hq;exact⟨_,List.mem_cons_self,hq.symm⟩) rfl rfl ?_;rw[hGi.sl.1];refine vQ ?_;refine Jm rfl ?_;refine JO.callK (Lr:=_) (Zl T b0 o0 ha h9 b _ ?hs _ 1 qD Z6E) rfl (.refl _) qF qA ?_
 case hs=>exact hI.suf.trans hus
 intro z4 hz4;have hu4:z4.2.1<:+T.ts:=hz4.suf.trans (hI.suf.trans hus);refine vD ?_;refine vS [0,2,3] ?_;refine J.regBgm (G:={z:Pz.Src×List T3×Bool // Rv (sourceP z4.2.1) z4.2.1 z4.2.2 z}) 3 5 (fun g=>.is (srcV g.1.1)) (fun g=>[RB T b g.1.2.1 g.1.2.2]++[⟨b3,Z3,.is (.agg #[.int .i64 4,.string ⟨#[]⟩,.string ⟨#[]⟩,.slice none 0 0,.slice none 0 0,.slice none 0 0,.slice (adO si) pi.length (capO si ci),.slice none 0 0,.slice none 0 0,.slice none 0 0,.slice none 0 0,.int .i64 (-1),.slice none 0 0,.bool false])⟩,⟨b2,Z3,zSt⟩]) ([⟨b3,Z3,.is (.agg #[.int .i64 4,.string ⟨#[]⟩,.string ⟨#[]⟩,.slice none 0 0,.slice none 0 0,.slice none 0 0,.slice (adO si) pi.length (capO si ci),.slice none 0 0,.slice none 0 0,.slice none 0 0,.slice none 0 0,.int .i64 (-1),.slice none 0 0,.bool false])⟩]) rfl rfl rfl rfl hmx qK rfl qK (fun o ho=>by rw[List.mem_singleton.1 ho];exact List.mem_cons_of_mem _ List.mem_cons_self) (fun g o ho=>by rw[List.mem_singleton.1 ho];exact List.mem_cons_of_mem _ List.mem_cons_self) qK ?_;refine yz (Z0 Z19 rfl) (yz (Z1 Z1b rfl rfl) (yz (Z2 rfl) ?_));refine RT.bigg (Lq:=[⟨b3,Z3,.is (.agg #[.int .i64 4,.string ⟨#[]⟩,.string ⟨#[]⟩,.slice none 0 0,.slice none 0 0,.slice none 0 0,.slice (adO si) pi.length (capO si ci),.slice none 0 0,.slice none 0 0,.slice none 0 0,.slice none 0 0,.int .i64 (-1),.slice none 0 0,.bool false])⟩]) (Z3x (Lr:=[⟨b3,Z3,.is (.agg #[.int .i64 4,.string ⟨#[]⟩,.string ⟨#[]⟩,.slice none 0 0,.slice none 0 0,.slice none 0 0,.slice (adO si) pi.length (capO si ci),.slice none 0 0,.slice none 0 0,.slice none 0 0,.slice none 0 0,.int .i64 (-1),.slice none 0 0,.bool false])⟩,⟨b2,Z3,zSt⟩]) rfl (Z57 T b0 o0 ha h9 b z4.2.1 hu4 z4.2.2) (.refl _) qF qA) (fun g=>?_);refine yz (Z2d (p:=srC ⟨g.1.1.tb,g.1.1.nm,[]⟩) Z9g Z4m rfl qD rfl) ?_;apply yn;obtain⟨z5,hz5⟩:=g;try dsimp only
 refine JO.apO (st:=none) (cap:=0) (xs:=([]:List (Cel srE))) (ys:=[srC ⟨z5.1.tb,z5.1.nm,[]⟩]) Z5w Cel.hlen Tl.zero rfl rfl rfl (srcE (srC ⟨z5.1.tb,z5.1.nm,[]⟩) Z2g) (by simp) (by simp) (by simp) rfl (fun st2 cap2 hG2=>?_);rw[List.nil_append]at hG2 ⊢;refine Jq (Z0 Z19 rfl) (JO.m (Z2Q (cs':=[_,_,_,_,_,_,_,_,_,_,_,_,_,_]) (Z2H _ _ _) (Z2T _ _ _) rfl rfl (Z28 (.there .here)) rfl rfl Z4j) (Upd.same (Z28 (.there .here)) rfl) (JO.subL (L':=RB T b z5.2.1 z5.2.2::⟨b3,Z3,.is (.agg #[.int .i64 4,.string ⟨#[]⟩,.string ⟨#[]⟩,.slice none 0 0,.slice none 0 0,.slice none 0 0,.slice (adO si) pi.length (capO si ci),sliceO st2 [srC ⟨z5.1.tb,z5.1.nm,[]⟩].length cap2,.slice none 0 0,.slice none 0 0,.slice none 0 0,.int .i64 (-1),.slice none 0 0,.bool false])⟩::⟨b2,Z3,zSt⟩::ownO st2 Z3o []) Zaw ?_));have hu5:z5.2.1<:+T.ts:=hz5.suf.trans hu4;refine vS [0,2,3] ?_;refine J.cutZF (fun x:List (Cel srE)×Option (Nat×List Value)×Nat×List T3×Bool=>[(0,.is (.pointer (some ⟨b,0,none⟩))),(2,.is (.pointer (some ⟨b2,0,none⟩))),(3,.is (.pointer (some ⟨b3,0,none⟩)))]) (fun x:List (Cel srE)×Option (Nat×List Value)×Nat×List T3×Bool=>RB T b x.2.2.2.1 x.2.2.2.2::⟨b3,Z3,.is (.agg #[.int .i64 4,.string ⟨#[]⟩,.string ⟨#[]⟩,.slice none 0 0,.slice none 0 0,.slice none 0 0,.slice (adO si) pi.length (capO si ci),sliceO x.2.1 (srC ⟨z5.1.tb,z5.1.nm,[]⟩::x.1).length x.2.2.1,.slice none 0 0,.slice none 0 0,.slice none 0 0,.int .i64 (-1),.slice none 0 0,.bool false])⟩::⟨b2,Z3,zSt⟩::ownO x.2.1 Z3o []) (fun x:List (Cel srE)×Option (Nat×List Value)×Nat×List T3×Bool=>CelF srE (srC ⟨z5.1.tb,z5.1.nm,[]⟩::x.1)) (fun x:List (Cel srE)×Option (Nat×List Value)×Nat×List T3×Bool=>Rv (joinsC T.e z5.2.1) z5.2.1 z5.2.2 (x.1.map Cel.x,x.2.2.2.1,x.2.2.2.2)/\x.2.2.2.1<:+T.ts/\Grows Cel.cs 3 (srC ⟨z5.1.tb,z5.1.nm,[]⟩::x.1) x.2.1 x.2.2.1) ?_ ?_
 · apply yk
   repeat apply yQ
   refine J.loopH (α:=List (Cel srE)×Option (Nat×List Value)×Nat×List T3×Bool) (fun x=>[(0,.is (.pointer (some ⟨b,0,none⟩))),(2,.is (.pointer (some ⟨b2,0,none⟩))),(3,.is (.pointer (some ⟨b3,0,none⟩)))]) (fun x=>RB T b x.2.2.2.1 x.2.2.2.2::⟨b3,Z3,.is (.agg #[.int .i64 4,.string ⟨#[]⟩,.string ⟨#[]⟩,.slice none 0 0,.slice none 0 0,.slice none 0 0,.slice (adO si) pi.length (capO si ci),sliceO x.2.1 (srC ⟨z5.1.tb,z5.1.nm,[]⟩::x.1).length x.2.2.1,.slice none 0 0,.slice none 0 0,.slice none 0 0,.int .i64 (-1),.slice none 0 0,.bool false])⟩::⟨b2,Z3,zSt⟩::ownO x.2.1 Z3o []) (fun x=>CelF srE (srC ⟨z5.1.tb,z5.1.nm,[]⟩::x.1)) (fun x=>InvJ T.e z5.2.1 z5.2.2 (x.1.map Cel.x) x.2.2.2.1 x.2.2.2.2/\Grows Cel.cs 3 (srC ⟨z5.1.tb,z5.1.nm,[]⟩::x.1) x.2.1 x.2.2.1) (fun x=>x.2.2.2.1.length) ([],st2,cap2,z5.2.1,z5.2.2) [0,2,3] (.cons rfl (.cons rfl (.cons rfl .nil))) rfl (fun X w hF=>fun w' hk p hp=>by rw[List.mem_singleton.1 hp];exact ZjR rfl w') ⟨InvJ.start _ _ _,hG2⟩ fun⟨js,sf,cf,vs2,bd2⟩ ⟨hJ,hGf⟩=>?_;try dsimp only
   try dsimp only at hJ
   try dsimp only at hGf
   refine vQ ?_;refine Jm rfl (Jq (Z5 rfl) (Jq (Z0 Ze rfl) (Jq (Z1 Z1E rfl rfl) (Jq (Z2e rfl) (vS [0,2,3,38] ?_)))));refine yC rfl (fun ht38=>?_) (fun ht38=>?_);apply yK;refine vN ?_;apply yk;obtain rfl:bd2=false:=by simpa using ht38
   refine vQ ?_;refine Jm rfl ?_;refine JO.callK (Lr:=_) (Zm T b0 o0 ha h9 b _ ?hs _ ZW) rfl (.refl _) qF qA ?_
   case hs=>exact hJ.suf.trans hu5
   intro _ _;refine vD ?_;refine vS [0,2,3,40] ?_;refine J.cutZN (fun x:Unit×List T3×Bool=>[(0,.is (.pointer (some ⟨b,0,none⟩))),(2,.is (.pointer (some ⟨b2,0,none⟩))),(3,.is (.pointer (some ⟨b3,0,none⟩)))]) (fun x:Unit×List T3×Bool=>RB T b x.2.1 x.2.2::⟨b3,Z3,.is (.agg #[.int .i64 4,.string ⟨#[]⟩,.string ⟨#[]⟩,.slice none 0 0,.slice none 0 0,.slice none 0 0,.slice (adO si) pi.length (capO si ci),sliceO sf (srC ⟨z5.1.tb,z5.1.nm,[]⟩::js).length cf,.slice none 0 0,.slice none 0 0,.slice none 0 0,.int .i64 (-1),.slice none 0 0,.bool false])⟩::⟨b2,Z3,zSt⟩::ownO sf Z3o []) (fun x:Unit×List T3×Bool=>isJ vs2=true/\Rv (wantP 1 Z3c (skT 1 ZW vs2)) (skT 1 ZW vs2) false x/\x.2.1<:+T.ts/\x.2.1.length<vs2.length) ?_ ?_
   · refine yC rfl (fun ht40=>?_) (fun ht40=>?_)
     rw[Z1f ht40];refine vQ ?_;refine Jm rfl ?_;refine JO.callK (Lr:=_) (Zl T b0 o0 ha h9 b _ ?hs _ 1 qD Z3c) rfl (.refl _) qF qA ?_
     case hs=>exact(List.tail_suffix _).trans (hJ.suf.trans hu5)
     intro y1 hy1;refine vD ?_;apply yI;refine JX.midZ (y1) ?_ [0,2,3] ?_ ?_ ?_
     · exact⟨(by unfold isJ;rw[(Z2I ht40).2,Bool.true_or]),(by have hsk:skT 1 ZW vs2=vs2.tail:=Z2C (Z2I ht40).2;rw[hsk];exact hy1),hy1.suf.trans ((List.tail_suffix _).trans (hJ.suf.trans hu5)),Nat.lt_of_le_of_lt hy1.suf.length_le (ZG (Z2I ht40).2).2⟩
     · exact qS
     · exact qH
     · exact qG
     rw[Z16 ht40];refine vQ ?_;refine Jm rfl ?_;refine JO.callK (Lr:=_) (Zm T b0 o0 ha h9 b _ ?hs _ Z3c) rfl (.refl _) qF qA ?_
     case hs=>exact hJ.suf.trans hu5
     intro _ _;refine vD ?_;refine Jq (Z2e rfl) (vS [0,2,3,45] ?_);refine yC rfl (fun ht45=>?_) (fun ht45=>?_)
     repeat apply yQ
     refine J.exit ?_
     repeat first|refine yH ?_|refine yM rfl ?_|refine yE ?_
     repeat first|apply yX|apply yB
     repeat refine JX.normal_block ?_
     have hw:isRB 1 Z3c vs2 false=false:=(by simpa using ht45);have hjn:isJ vs2=false:=(by unfold isJ;rw[show isT 1 ZW vs2=false by simpa [isRB] using ht40,show isT 1 Z3c vs2=false by simpa [isRB] using hw];rfl);rw[Z16 hw];refine JX.midF ((js,sf,cf,vs2,false)) ?_ [0,2,3] ?_ ?_ ?_ ?_
     · exact⟨hJ.stop hjn,hJ.suf.trans hu5,hGf⟩
     · exact qS
     · exact qH
     · exact qG
     · exact fun X w hF=>hF _ qI
     apply yK;have hw:isRB 1 Z3c vs2 false=true:=(by simpa using ht45);rw[Z1f hw];refine JX.midZ (((),vs2.tail,false)) ?_ [0,2,3] ?_ ?_ ?_
     · exact⟨(by unfold isJ;rw[(Z2I hw).2,Bool.or_true]),(by have hin:isT 1 ZW vs2=false:=(by simpa [isRB] using ht40);rw[Z37 hin];have h:=Rv.want (us:=vs2) (bad:=false) (k:=1) (s:=Z3c);rw[Z1f hw,hw]at h;exact h),(List.tail_suffix _).trans (hJ.suf.trans hu5),(ZG (Z2I hw).2).2⟩
     · exact qS
     · exact qH
     · exact qG
   · intro y1 ⟨hjj,hy1,hwS,hlt⟩
     refine vQ ?_;refine Jm rfl ?_;refine JO.callK (Lr:=_) (Z57 T b0 o0 ha h9 b _ ?hs _) rfl (.refl _) qF qA ?_
     case hs=>exact hwS
     intro s6 hs6;refine vD ?_;refine JO.alloc Z2W rfl fun b5=>(JO.m (Z4 rfl rfl qU (by exact Zh rfl rfl) (by first|exact Zh rfl rfl|exact ZQ) Z2s) (by rfl) ?_);refine vP [0,2,3,5] ?_;refine Jm rfl ?_;refine JO.callK (Lr:=_) (Zl T b0 o0 ha h9 b _ ?hs _ 1 qD w_ON) rfl qP qF qA ?_
     case hs=>exact hs6.suf.trans hwS
     intro y3 hy3;refine vD ?_;try dsimp only[List.append]
     refine vP [0,2,3,5] ?_;refine Jm rfl (JO.callK (Lr:=_) (hE y3.2.1 y3.2.2 (hy3.suf.trans (hs6.suf.trans hwS))) rfl (.refl _) qF qA ?_);intro z6 hz6;refine vD ?_;refine Jq (Z2b ZB rfl) (JO.open_ (s:=52) (R:=ExsR [z6.1]) rfl ?_);rintro v52 ⟨w52,h52⟩;obtain⟨a52,l52,q52,rfl⟩:=Z8E h52;refine Jq (Z0 Z2n rfl) (JO.m (Zj (cs':=[_,_,_]) rfl rfl qU rfl rfl rfl rfl Z2k) (by rfl) ?_);refine vP [0,2,3,5] ?_;refine Jq (Z0 Z19 rfl) (Jq (Z1 Z1b rfl rfl) (Jq (ZR (cs:=[_,_,_]) Z27 rfl rfl rfl) (Jq (Z2d (p:=sjC s6.1 z6.1 a52 l52 q52) Z9g Z4m rfl qD rfl) ?_)));refine JO.apO (ys:=[sjC s6.1 z6.1 a52 l52 q52]) Z5w Cel.hlen yV hGf rfl rfl (srcE (sjC s6.1 z6.1 a52 l52 q52) Z2g) (by simp) (by have h1:=hJ.len;have h2:=hu5.length_le;rw[List.length_map]at h1;simp;omega) (by have h1:=hJ.len;have h2:=hu5.length_le;rw[List.length_map]at h1;simp;omega) rfl (fun st3 cap3 hG3=>?_);refine Jq (Z0 Z19 rfl) (JO.m (Z2Q (cs':=[_,_,_,_,_,_,_,_,_,_,_,_,_,_]) (Z2H _ _ _) (Z2T _ _ _) rfl rfl (Z28 (.there (.there .here))) rfl rfl Z4j) (Upd.same (Z28 (.there (.there .here))) rfl) (JO.subL (Z4Q (L:=[_,_,_,_])).symm ?_));apply yI
     repeat refine JX.normal_block ?_
     refine JX.roundG (x:=(js,sf,cf,vs2,false)) (js++[sjC s6.1 z6.1 a52 l52 q52],st3,cap3,z6.2.1,z6.2.2) ?_ ?_ [0,2,3] ?_ ?_ ?_ ?_
     · exact⟨(by rw[List.map_append,List.map_singleton];exact hJ.step T.e_dn hjj hy1 hs6 hy3 hz6),hG3⟩
     · exact(by have h1:=(hz6.suf.trans (hy3.suf.trans hs6.suf)).length_le;show z6.2.1.length<vs2.length;omega)
     · exact qS
     · exact qH
     · exact qG
     · exact fun X w hF=>fun w' hk=>CelF.snoc (hF _ qI w' hk) (ZjU (hF (ExsR [z6.1] (.slice a52 l52 q52)) qI w' hk))
   repeat apply yQ
   refine J.exit ?_
   repeat first|refine yH ?_|refine yM rfl ?_|refine yE ?_
   repeat first|apply yX|apply yB
   repeat refine JX.normal_block ?_
   obtain rfl:bd2=true:=(by simpa using ht38);refine JX.midF ((js,sf,cf,vs2,true)) ?_ [0,2,3] ?_ ?_ ?_ ?_
   · exact⟨hJ.bad,hJ.suf.trans hu5,hGf⟩
   · exact qS
   · exact qH
   · exact qG
   · exact fun X w hF=>hF _ qI
 · intro⟨js,sf,cf,vs2,bd2⟩ ⟨hJF,hvu,hGf⟩
   try dsimp only
   try dsimp only at hJF hvu hGf
   refine J.freezeOMW (N:=0) (e:=Z3o) (sz:=3) (Nat.zero_le _) Cel.hlen hGf yV (fun q hq=>by simp only[List.map_cons,List.map_nil,List.mem_singleton]at hq;exact⟨_,List.mem_cons_self,hq.symm⟩) rfl rfl ?_;rw[hGf.sl.1];refine vQ ?_;refine Jm rfl (JO.callK (Lr:=_) (Z3Z T b0 o0 ha h9 b vs2 hvu _ hE) rfl (.refl _) qF qA ?_);intro w6 hw6;have hu6:w6.2.1<:+T.ts:=hw6.suf.trans hvu;refine vD ?_;refine JO.openEv (s:=61) rfl (fun aw lw cw _ _=>?_);refine Jq (Z0 Z26 rfl) (JO.m (Zj (cs':=[_,_,_,_,_,_,_,_,_,_,_,_,_,_]) rfl rfl qU rfl rfl rfl rfl Z2k) (by rfl) ?_);refine vP [0,2,3] ?_;refine Jm rfl ?_;refine JO.callK (Lr:=_) (Zm T b0 o0 ha h9 b _ ?hs _ Z5C) rfl (.refl _) qF qA ?_
   case hs=>exact hu6
   intro _ _;refine vD ?_;refine vS [0,2,3,64] ?_;refine J.cutZF (fun x:List Ex×(Option Addr×Nat×Nat)×List T3×Bool=>[(0,.is (.pointer (some ⟨b,0,none⟩))),(2,.is (.pointer (some ⟨b2,0,none⟩))),(3,.is (.pointer (some ⟨b3,0,none⟩)))]) (fun x:List Ex×(Option Addr×Nat×Nat)×List T3×Bool=>RB T b x.2.2.1 x.2.2.2::⟨b3,Z3,.is (.agg #[.int .i64 4,.string ⟨#[]⟩,.string ⟨#[]⟩,.slice none 0 0,.slice none 0 0,.slice none 0 0,.slice (adO si) pi.length (capO si ci),.slice (adO sf) (srC ⟨z5.1.tb,z5.1.nm,[]⟩::js).length (capO sf cf),.slice aw lw cw,.slice x.2.1.1 x.2.1.2.1 x.2.1.2.2,.slice none 0 0,.int .i64 (-1),.slice none 0 0,.bool false])⟩::⟨b2,Z3,zSt⟩::[]) (fun x:List Ex×(Option Addr×Nat×Nat)×List T3×Bool=>SlE exE (FX 0) x.1 (.slice x.2.1.1 x.2.1.2.1 x.2.1.2.2)) (fun x:List Ex×(Option Addr×Nat×Nat)×List T3×Bool=>Rv (groupR T.e w6.2.1) w6.2.1 w6.2.2 (x.1,x.2.2.1,x.2.2.2)) ?_ ?_
   · refine yC rfl (fun ht64=>?_) (fun ht64=>?_)
     rw[Z1f ht64];refine vQ ?_;refine Jm rfl ?_;refine JO.callK (Lr:=_) (Zl T b0 o0 ha h9 b _ ?hs _ 1 qD w_BY) rfl (.refl _) qF qA ?_
     case hs=>exact(List.tail_suffix _).trans hu6
     intro y7 hy7;refine vD ?_;refine vP [0,2,3] ?_;refine Jm rfl (JO.callK (Lr:=_) (Z5f T b0 o0 ha h9 b y7.2.1 (hy7.suf.trans ((List.tail_suffix _).trans hu6)) _ hE) rfl (.refl _) qF qA ?_);intro z7 hz7;refine vD ?_;refine JO.openEv (s:=68) rfl (fun ag lg cg _ _=>?_);refine Jq (Z0 Z3p rfl) (JO.m (Zj (cs':=[_,_,_,_,_,_,_,_,_,_,_,_,_,_]) rfl rfl qU rfl rfl rfl rfl Z2k) (by rfl) ?_);apply yI;refine JX.midF ((z7.1,(ag,lg,cg),z7.2.1,z7.2.2)) ?_ [0,2,3] ?_ ?_ ?_ ?_
     · exact(by unfold groupR;exact Rv.ite_t ht64 (hy7.bind hz7))
     · exact qS
     · exact qH
     · exact qG
     · exact fun X w hF=>hF _ qI
     apply yK;rw[Z16 ht64];refine JX.midF ((([]:List Ex),(none,0,0),w6.2.1,w6.2.2)) ?_ [0,2,3] ?_ ?_ ?_ ?_
     · exact(by unfold groupR;exact Rv.ite_f ht64 (Rv.pure _))
     · exact qS
     · exact qH
     · exact qG
     · exact fun X w hF=>fun w' hk=>Zw (FrS.nil _)
   · intro⟨gl,⟨ag,lg,cg⟩,gu,gb⟩ hgr
     try dsimp only
     try dsimp only at hgr
     have hu7:gu<:+T.ts:=hgr.suf.trans hu6;refine vQ ?_;refine Jm rfl ?_;refine JO.callK (Lr:=_) (Zm T b0 o0 ha h9 b _ ?hs _ Z4X) rfl (.refl _) qF qA ?_
     case hs=>exact hu7
     intro _ _;refine vD ?_;refine vS [0,2,3,71] ?_;refine J.cutZF (fun x:List (Cel kyE)×Option (Nat×List Value)×Nat×List T3×Bool=>[(0,.is (.pointer (some ⟨b,0,none⟩))),(2,.is (.pointer (some ⟨b2,0,none⟩))),(3,.is (.pointer (some ⟨b3,0,none⟩)))]) (fun x:List (Cel kyE)×Option (Nat×List Value)×Nat×List T3×Bool=>RB T b x.2.2.2.1 x.2.2.2.2::⟨b3,Z3,.is (.agg #[.int .i64 4,.string ⟨#[]⟩,.string ⟨#[]⟩,.slice none 0 0,.slice none 0 0,.slice none 0 0,.slice (adO si) pi.length (capO si ci),.slice (adO sf) (srC ⟨z5.1.tb,z5.1.nm,[]⟩::js).length (capO sf cf),.slice aw lw cw,.slice ag lg cg,sliceO x.2.1 x.1.length x.2.2.1,.int .i64 (-1),.slice none 0 0,.bool false])⟩::⟨b2,Z3,zSt⟩::ownO x.2.1 Z4g []) (fun x:List (Cel kyE)×Option (Nat×List Value)×Nat×List T3×Bool=>CelF kyE x.1) (fun x:List (Cel kyE)×Option (Nat×List Value)×Nat×List T3×Bool=>Rv (orderR T.e gu) gu gb (x.1.map Cel.x,x.2.2.2.1,x.2.2.2.2)/\Grows Cel.cs 9 x.1 x.2.1 x.2.2.1) ?_ ?_
     · refine yC rfl (fun ht71=>?_) (fun ht71=>?_)
       rw[Z1f ht71];refine vQ ?_;refine Jm rfl ?_;refine JO.callK (Lr:=_) (Zl T b0 o0 ha h9 b _ ?hs _ 1 qD w_BY) rfl (.refl _) qF qA ?_
       case hs=>exact(List.tail_suffix _).trans hu7
       intro y8 hy8;have hu8:y8.2.1<:+T.ts:=hy8.suf.trans ((List.tail_suffix _).trans hu7);refine vD ?_;refine vP [0,2,3] ?_;refine Ja rfl (vS [0,2,3,6] ?_);apply yk
       repeat apply yQ
       refine J.loopH (α:=List (Cel kyE)×Option (Nat×List Value)×Nat×List T3×Bool×Bool) (fun x=>[(0,.is (.pointer (some ⟨b,0,none⟩))),(2,.is (.pointer (some ⟨b2,0,none⟩))),(3,.is (.pointer (some ⟨b3,0,none⟩))),(6,.is (.bool x.2.2.2.2.2))]) (fun x=>RB T b x.2.2.2.1 x.2.2.2.2.1::⟨b3,Z3,.is (.agg #[.int .i64 4,.string ⟨#[]⟩,.string ⟨#[]⟩,.slice none 0 0,.slice none 0 0,.slice none 0 0,.slice (adO si) pi.length (capO si ci),.slice (adO sf) (srC ⟨z5.1.tb,z5.1.nm,[]⟩::js).length (capO sf cf),.slice aw lw cw,.slice ag lg cg,sliceO x.2.1 x.1.length x.2.2.1,.int .i64 (-1),.slice none 0 0,.bool false])⟩::⟨b2,Z3,zSt⟩::ownO x.2.1 Z4g []) (fun x=>CelF kyE x.1) (fun x=>InvW (keyR T.e) y8.2.1 y8.2.2 (x.1.map Cel.x) x.2.2.2.1 x.2.2.2.2.1 x.2.2.2.2.2/\Grows Cel.cs 9 x.1 x.2.1 x.2.2.1) (fun x=>x.2.2.2.1.length+(if x.2.2.2.2.2 then 1 else 0)) ([],none,0,y8.2.1,y8.2.2,true) [0,2,3,6] (.cons rfl (.cons rfl (.cons rfl (.cons rfl .nil)))) rfl (fun X w hF=>fun w' hk=>CelF.nil w') ⟨InvW.start _ _ _,rfl⟩ fun⟨po,so,co,vs3,bd3,mo3⟩ ⟨hO,hGo⟩=>?_;try dsimp only
       try dsimp only at hO
       try dsimp only at hGo
       refine vQ ?_;refine Jm rfl (Jm rfl (JO.tg rfl rfl rfl rfl rfl (fun hg=>Z2 (.inl rfl)) (JO.tg rfl rfl rfl rfl rfl (fun hg=>Z5 (qR rfl)) ?_)));refine JO.tg rfl rfl rfl rfl rfl (fun hg=>Z0 Ze (qR rfl)) ?_;refine JO.tg rfl rfl rfl rfl rfl (fun hg=>Z1 Z1E (qR rfl) rfl) ?_;refine JO.tg rfl rfl rfl rfl rfl (fun hg=>Z2e (qR rfl)) ?_;refine Jq (Zn rfl rfl rfl id) (vS [0,2,3,81] ?_);refine yC rfl (fun ht81=>?_) (fun ht81=>?_);apply yK;refine vN ?_;apply yk;obtain⟨rfl,rfl⟩:mo3=true/\bd3=false:=by simpa using ht81
       repeat apply yQ
       refine J.regBgm (G:={q:{z:Pz.Ky×List T3×Bool // Rv (keyR T.e vs3) vs3 false z}×Cel kyE // q.2.x=q.1.1.1}) 3 5 (fun q=>TC q.1.2) (fun q=>[RB T b q.1.1.1.2.1 q.1.1.1.2.2]++(⟨b3,Z3,.is (.agg #[.int .i64 4,.string ⟨#[]⟩,.string ⟨#[]⟩,.slice none 0 0,.slice none 0 0,.slice none 0 0,.slice (adO si) pi.length (capO si ci),.slice (adO sf) (srC ⟨z5.1.tb,z5.1.nm,[]⟩::js).length (capO sf cf),.slice aw lw cw,.slice ag lg cg,sliceO so po.length co,.int .i64 (-1),.slice none 0 0,.bool false])⟩::⟨b2,Z3,zSt⟩::ownO so Z4g [])) ([⟨b3,Z3,.is (.agg #[.int .i64 4,.string ⟨#[]⟩,.string ⟨#[]⟩,.slice none 0 0,.slice none 0 0,.slice none 0 0,.slice (adO si) pi.length (capO si ci),.slice (adO sf) (srC ⟨z5.1.tb,z5.1.nm,[]⟩::js).length (capO sf cf),.slice aw lw cw,.slice ag lg cg,sliceO so po.length co,.int .i64 (-1),.slice none 0 0,.bool false])⟩]) rfl rfl rfl rfl hmx qK rfl qK (fun o ho=>by rw[List.mem_singleton.1 ho];exact List.mem_cons_of_mem _ List.mem_cons_self) (fun g o ho=>by rw[List.mem_singleton.1 ho];exact List.mem_cons_of_mem _ List.mem_cons_self) qK ?_;refine yz (Z0 Z1W rfl) (yz (Z1 Z2q rfl rfl) (yz (Z2 rfl) ?_));refine RT.bigg (Lq:=[⟨b3,Z3,.is (.agg #[.int .i64 4,.string ⟨#[]⟩,.string ⟨#[]⟩,.slice none 0 0,.slice none 0 0,.slice none 0 0,.slice (adO si) pi.length (capO si ci),.slice (adO sf) (srC ⟨z5.1.tb,z5.1.nm,[]⟩::js).length (capO sf cf),.slice aw lw cw,.slice ag lg cg,sliceO so po.length co,.int .i64 (-1),.slice none 0 0,.bool false])⟩]) (BigOb.pick (f:=fun g:{z:Pz.Ky×List T3×Bool // Rv (keyR T.e vs3) vs3 false z}=>g.1.1) (Z3x (Lr:=⟨b3,Z3,.is (.agg #[.int .i64 4,.string ⟨#[]⟩,.string ⟨#[]⟩,.slice none 0 0,.slice none 0 0,.slice none 0 0,.slice (adO si) pi.length (capO si ci),.slice (adO sf) (srC ⟨z5.1.tb,z5.1.nm,[]⟩::js).length (capO sf cf),.slice aw lw cw,.slice ag lg cg,sliceO so po.length co,.int .i64 (-1),.slice none 0 0,.bool false])⟩::⟨b2,Z3,zSt⟩::ownO so Z4g []) rfl (Z9u T b0 o0 ha h9 b vs3 (hO.suf.trans hu8) false hE) (.refl _) qF qA)) (fun g=>?_);refine yz (ZdR rfl (by simp[Op.operands]) (fun E v w _ h=>TC.is E v w h) (Z2d (p:=g.1.2) Zej Z9W rfl qD (.inr ⟨rfl,rfl⟩))) ?_;apply yn;obtain⟨⟨⟨z9,hz9⟩,p9⟩,hp9⟩:=g;try dsimp only at hp9 ⊢
       refine JO.tcF (s:=87) (p:=p9) rfl ?_;refine JO.apO (ys:=[p9]) Za2 Cel.hlen yV hGo rfl rfl (srcE p9 Z2X) (by simp) (by have h1:=hO.len;have h2:=hu8.length_le;rw[List.length_map]at h1;simp;omega) (by have h1:=hO.len;have h2:=hu8.length_le;rw[List.length_map]at h1;simp;omega) rfl (fun st4 cap4 hG4=>?_);refine Jq (Z0 Z1W rfl) (JO.m (Z2Q (cs':=[_,_,_,_,_,_,_,_,_,_,_,_,_,_]) (Z2H _ _ _) (Z2T _ _ _) rfl rfl (Z28 (.there .here)) rfl rfl Z9V) (Upd.same (Z28 (.there .here)) rfl) (JO.subL (L':=RB T b z9.2.1 z9.2.2::⟨b3,Z3,.is (.agg #[.int .i64 4,.string ⟨#[]⟩,.string ⟨#[]⟩,.slice none 0 0,.slice none 0 0,.slice none 0 0,.slice (adO si) pi.length (capO si ci),.slice (adO sf) (srC ⟨z5.1.tb,z5.1.nm,[]⟩::js).length (capO sf cf),.slice aw lw cw,.slice ag lg cg,sliceO st4 (po++[p9]).length cap4,.int .i64 (-1),.slice none 0 0,.bool false])⟩::⟨b2,Z3,zSt⟩::ownO st4 Z4g []) Zaw (vP [0,2,3] ?_)));refine Jm rfl ?_;refine JO.callK (Lr:=_) (Z10 T b0 o0 ha h9 b _ ?hs _ ZU) rfl (.refl _) qF qA ?_
       case hs=>exact hz9.suf.trans (hO.suf.trans hu8)
       intro _ _;refine vD ?_;refine Ja rfl ?_;apply yI
       repeat refine JX.normal_block ?_
       refine JX.roundG (x:=(po,so,co,vs3,false,true)) (po++[p9],st4,cap4,skRB 5 ZU z9.2.1 z9.2.2,z9.2.2,isRB 5 ZU z9.2.1 z9.2.2) ?_ ?_ [0,2,3,6] ?_ ?_ ?_ ?_
       · exact⟨(by rw[List.map_append,List.map_singleton,hp9];exact hO.step (Zk3 T.e_dn) hz9),hG4⟩
       · exact(by show _<vs3.length+1;exact InvW.less hz9)
       · exact qS
       · exact qH
       · exact qG
       · exact fun X w hF=>fun w' hk=>CelF.snoc (hF _ qI w' hk) (hF _ qI w' hk)
       repeat apply yQ
       refine J.exit ?_
       repeat first|refine yH ?_|refine yM rfl ?_|refine yE ?_
       repeat first|apply yX|apply yB
       have hOF:=hO.fin (by simpa using ht81);refine JX.midF ((po,so,co,vs3,bd3)) ?_ [0,2,3] ?_ ?_ ?_ ?_
       · exact⟨(by unfold orderR;exact Rv.ite_t ht71 (hy8.bind hOF)),hGo⟩
       · exact qS
       · exact qH
       · exact qG
       · exact fun X w hF=>hF _ qI
       apply yK;rw[Z16 ht71];refine JX.midF ((([]:List (Cel kyE)),none,0,gu,gb)) ?_ [0,2,3] ?_ ?_ ?_ ?_
       · exact⟨(by unfold orderR;exact Rv.ite_f ht71 (Rv.pure _)),rfl⟩
       · exact qS
       · exact qH
       · exact qG
       · exact fun X w hF=>fun w' hk=>CelF.nil w'
     · intro⟨po,so,co,ou,ob⟩ ⟨hor,hGo⟩
       try dsimp only
       try dsimp only at hor hGo
       have hu9:ou<:+T.ts:=hor.suf.trans hu7;refine J.freezeOMW (N:=0) (e:=Z4g) (sz:=9) (Nat.zero_le _) Cel.hlen hGo yV (fun q hq=>by simp only[List.map_cons,List.map_nil,List.mem_singleton]at hq;exact⟨_,List.mem_cons_self,hq.symm⟩) rfl rfl ?_;rw[hGo.sl.1];refine vQ ?_;refine Jm rfl ?_;refine JO.callK (Lr:=_) (Zm T b0 o0 ha h9 b _ ?hs _ Z6a) rfl (.refl _) qF qA ?_
       case hs=>exact hu9
       intro _ _;refine vD ?_;refine vS [0,2,3,92] ?_;refine J.cutZN (fun x:Int×List T3×Bool=>[(0,.is (.pointer (some ⟨b,0,none⟩))),(2,.is (.pointer (some ⟨b2,0,none⟩))),(3,.is (.pointer (some ⟨b3,0,none⟩)))]) (fun x:Int×List T3×Bool=>RB T b x.2.1 x.2.2::⟨b3,Z3,.is (.agg #[.int .i64 4,.string ⟨#[]⟩,.string ⟨#[]⟩,.slice none 0 0,.slice none 0 0,.slice none 0 0,.slice (adO si) pi.length (capO si ci),.slice (adO sf) (srC ⟨z5.1.tb,z5.1.nm,[]⟩::js).length (capO sf cf),.slice aw lw cw,.slice ag lg cg,.slice (adO so) po.length (capO so co),.int .i64 (x.1),.slice none 0 0,.bool false])⟩::⟨b2,Z3,zSt⟩::[]) (fun x:Int×List T3×Bool=>Rv (limitP ou) ou ob x) ?_ ?_
       · refine yC rfl (fun ht92=>?_) (fun ht92=>?_)
         rw[Z1f ht92];refine vQ ?_;refine Jm rfl ?_;refine JO.callK (Lr:=_) (Z5P T b0 o0 ha h9 b _ ?hs _ 3 qD) rfl (.refl _) qF qA ?_
         case hs=>exact(List.tail_suffix _).trans hu9
         intro zl hzl;refine vD ?_;refine Jq (Z4S (off:=2) qK rfl rfl) ?_;refine Jq (Z0 Z2O rfl) (JO.m (Zj (cs':=[_,_,_,_,_,_,_,_,_,_,_,_,_,_]) rfl rfl qU rfl rfl rfl rfl Z2x) (by rfl) ?_);apply yI;refine JX.midZ ((zl.1.n,zl.2.1,zl.2.2)) ?_ [0,2,3] ?_ ?_ ?_
         · exact(by unfold limitP;exact Rv.ite_t ht92 (Rv.map (f:=fun z:T3×List T3=>(z.1.n,z.2)) hzl rfl))
         · exact qS
         · exact qH
         · exact qG
         apply yK;rw[Z16 ht92];refine JX.midZ ((-1,ou,ob)) ?_ [0,2,3] ?_ ?_ ?_
         · exact(by unfold limitP;exact Rv.ite_f ht92 (Rv.pure _))
         · exact qS
         · exact qH
         · exact qG
       · intro⟨lv,lu,lb⟩ hlm
         try dsimp only
         refine vQ ?_;refine Jm rfl (Jm rfl (Jq (Z5 rfl) (Jq (Z0 Ze rfl) (Jq (Z1 Z1E rfl rfl) (Jm rfl (JO.tg rfl rfl rfl rfl rfl (fun hg=>Z0 Z2h (.inl rfl)) (JO.tg rfl rfl rfl rfl rfl (fun hg=>Z1 Z2v (qR rfl) rfl) ?_)))))));refine JO.tg rfl rfl rfl rfl rfl (fun hg=>ZE Z36 (qR rfl)) ?_;refine JO.tg rfl rfl rfl rfl rfl (fun hg=>Z13 (qR rfl) (.inl rfl)) ?_;refine Jq (ZF rfl rfl rfl id) (Jm rfl (JO.tg rfl rfl rfl rfl rfl (fun hg=>Z0 Z19 (.inl rfl)) (JO.tg rfl rfl rfl rfl rfl (fun hg=>Z1 Z1b (qR rfl) rfl) ?_)));refine JO.tg rfl rfl rfl rfl rfl (fun hg=>ZE Z2g (qR rfl)) ?_;refine JO.tg rfl rfl rfl rfl rfl (fun hg=>Z13 (qR rfl) (.inl rfl)) ?_;refine Jq (ZF rfl rfl rfl id) (Jm rfl (JO.tg rfl rfl rfl rfl rfl (fun hg=>Z0 Z1W (.inl rfl)) (JO.tg rfl rfl rfl rfl rfl (fun hg=>Z1 Z2q (qR rfl) rfl) ?_)));refine JO.tg rfl rfl rfl rfl rfl (fun hg=>ZE Z2X (qR rfl)) ?_;refine JO.tg rfl rfl rfl rfl rfl (fun hg=>Z13 (qR rfl) (.inl rfl)) ?_;refine Jq (ZF rfl rfl rfl id) (Jq (Z5 rfl) (Jq (Z0 Ze rfl) (JO.m (Zj (cs':=[_,_,_]) rfl rfl qU rfl rfl rfl rfl Z2D) (by rfl) ?_)));refine vP [2,3] ?_;refine Jq (ZR (cs:=[_,_,_,_,_,_,_,_,_,_,_,_,_,_]) ZL rfl rfl rfl) (JO.m (Z4 rfl rfl qU (by exact Zh rfl rfl) (by first|exact Zh rfl rfl|exact ZQ) ZV) (by rfl) ?_);refine vS [2] ?_;refine vR ?_;refine JX.retLCs (Lr:=[_,_]) rfl ({stK 4 with items:=pi.map Cel.x,from_:=(srC ⟨z5.1.tb,z5.1.nm,[]⟩::js).map Cel.x,where_:=w6.1,group:=gl,order:=po.map Cel.x,limit:=lv},lu,((lb||decide ((16:Int)<((pi.length:Nat):Int)))||decide ((4:Int)<(((srC ⟨z5.1.tb,z5.1.nm,[]⟩::js).length:Nat):Int)))||decide ((16:Int)<((po.length:Nat):Int))) ?_ qP rfl rfl hb0 rfl ZL HasOwn.mem (Z1o rfl) (Sub.st rfl fun X w hf w' hk=>⟨Zw (FrS.nil _),Zw (FrS.nil _),Zw trivial,(by have h:=SlE.ofGr0 hGi (hf _ qI w' hk) (hf (CelF itE pi) qI w' hk);rwa [hGi.sl.1]at h),(by have h:=SlE.ofGr0 hGf (hf _ qI w' hk) (hf (CelF srE (srC ⟨z5.1.tb,z5.1.nm,[]⟩::js)) qI w' hk);rwa [hGf.sl.1]at h),hf _ qI w' hk,(SlE.exs (hf (SlE exE (FX 0) gl (.slice ag lg cg)) qI w' hk)),(by have h:=SlE.ofGr0 hGo (hf _ qI w' hk) (hf (CelF kyE po) qI w' hk);rwa [hGo.sl.1]at h),Z23⟩);show Rv (queryR T.e us) us bad _;unfold queryR;refine hFi.bind (hz4.bind ((Rv.src hz5).bind ((show Rv (joinsG T.e z5.2.1.length z5.2.1) _ _ _ from hJF).bind (hw6.bind (hgr.bind (hor.bind (hlm.bind ?_)))))));have hc:=Rv.cap3 (us:=lu) (bad:=lb) (pi.map Cel.x).length (js.map Cel.x).length (po.map Cel.x).length ({stK 4 with items:=pi.map Cel.x,from_:=⟨z5.1.tb,z5.1.nm,[]⟩::js.map Cel.x,where_:=w6.1,group:=gl,order:=po.map Cel.x,limit:=lv}:Pz.St);simp only[List.length_map]at hc ⊢;exact hc
end Go.Proofs.YtbedigkncjbggaaGreatDoor
set_option maxRecDepth 20000
namespace Go.Proofs.YtbedigkncjbggaaGreatDoor
open Go Go.Vc
open Go.Pz
theorem ZiP(ts:List T3)(T:Rk)(b:Nat)(h:T.ts=ts):(⟨b,Z3F,.is (.agg #[.slice T.ad ts.length T.cap,.int .i64 0,.bool false])⟩:Own)=RB T b T.ts false:=by
 subst h;show _=(⟨b,Z3F,.is (.agg #[.slice T.ad T.ts.length T.cap,.int .i64 ((T.ts.length-T.ts.length:Nat):Int),.bool false])⟩:Own);rw[Nat.sub_self];rfl
theorem rd_R{ts:List T3}(ho:okL ts):stmtR (exprP (ts.length+1)) ts=stmtP (exprP (ts.length+1)) ts:=Zjh _ ho
theorem Zmm{l:List T3×Int}(h:l.2=0)(ho:okL l.1){z:Pz.St×List T3×Bool}(hz:Rv (stmtR (exprP (l.1.length+1)) l.1) l.1 false z)(hb:z.2.2=true\/skRB 5 Z5d z.2.1 z.2.2≠[]):readS l=(st0,30):=by
 rw[rd_R ho]at hz;refine ZdP h ?_;rcases hz.2.2 rfl with⟨h1,h2⟩|⟨_,h2⟩
 · rcases hb with hb|hb
   · rw[hb]at h1;cases h1
   · rw[h1]at hb
     refine Zd6 h2 fun e=>hb ?_;have e':=List.length_eq_zero_iff.1 e;unfold skT at e';unfold skRB isRB
     simpa using e'
 · exact Zfr h2
theorem ZkG{l:List T3×Int}(ho:okL l.1){z:Pz.St×List T3×Bool}(hz:Rv (stmtR (exprP (l.1.length+1)) l.1) l.1 false z)(hb:z.2.2=false)(hs:skRB 5 Z5d z.2.1 z.2.2=[]):stmtP (exprP (l.1.length+1)) l.1=some (z.1,z.2.1)/\wholeP l.1=some z.1:=by
 rw[rd_R ho]at hz;have h2:=(hz.ok hb).2;refine⟨h2,Zd4 h2 ?_⟩;rw[hb]at hs;unfold skRB isRB at hs;unfold skT;simp only[Bool.not_false,Bool.true_and]at hs;rw[hs];rfl
theorem k_ne{T:Rk}{us:List T3}(hs:us<:+T.ts):((T.k us:Nat):Int)=(T.ts.length:Int)↔us=[]:=by
 have:=hs.length_le;unfold Rk.k
 constructor
 · intro h;exact List.length_eq_zero_iff.1 qM
 · rintro rfl;simp
attribute [local irreducible] SlE ExsR
set_option maxHeartbeats 2000000 in
theorem Zdz(s:ByteArray):CallL Tryz.prog Z9S (Z:=Unit) [] [] [.is (.string s)] (fun _=>True) (fun _=>[]) (fun _=>.tup2 (.rep (StR 0 (readS (lx s)).1)) (.is (.int .i64 (readS (lx s)).2))):=
CallL.of (fn:=Tryz.f14) Tryz.func14 (n:=102) rfl rfl rfl (fun _ _=>by kernel_rfl) fun E W hb0=>by
 refine vQ ?_;refine JO.alloc Z1Q rfl fun b2=>(Ja rfl (vP [0,2] ?_));refine Jm rfl (Jq (Zo rfl (Zfy s) qA) ?_);refine Jm rfl (Jq (Z39 rfl) (Jq (Z3b rfl) (Ja rfl (Ja rfl (vP [2,4,5] ?_)))));refine Jm rfl (Jq (Z3e rfl rfl) (vS [2,4,5,16] ?_));refine yC rfl (fun ht16=>?_) (fun ht16=>?_);refine vQ ?_;refine Jq (Zg (cs:=[_,_,_,_,_,_,_,_,_,_,_,_,_,_]) Z38 .nil rfl rfl) (Jm rfl (JO.m (Z4 rfl rfl qU (by exact Zh rfl rfl) (by first|exact Zh rfl rfl|exact ZQ) ZV) (by rfl) ?_));refine Ja rfl (vS [2,3] ?_);refine vR ?_;exact JX.retLC1s (Lr:=_) (A:=.rep (StR 0 st0)) (B:=.int .i64 (lx s).2) rfl () trivial (.refl _) rfl hb0 rfl rfl ZL qI (Z1o rfl) rfl SrZero (by show Ty.tup2 (.rep (StR 0 (readS (lx s)).1)) (.is (.int .i64 (readS (lx s)).2))=_;rw[Zmr (l:=lx s) (by simpa using ht16)]);apply yK
 repeat first|apply yX|apply yB
 have hq:(lx s).2=0:=by simpa using ht16
 have hok0:okL (lx s).1:=Zln _;have h90:(lx s).1.length<=2049:=Z9F _;refine J.openSlC (s:=4) rfl (fun a0 len0 cap0 b0 o0 hl0 ha0 hlc0=>?_);subst hl0;obtain⟨T,rfl,rfl,hts⟩: ∃T:Rk,a0=T.ad/\cap0=T.cap/\T.ts=(lx s).1:=⟨⟨(lx s).1,a0,cap0⟩,rfl,rfl,rfl⟩;rw[<-hts]at hok0 h90 ha0 ⊢;have hok:okL T.ts:=hok0;have h9:T.ts.length<=2049:=h90;have ha:T.ts.length≠0->T.ad=some ⟨b0,o0,none⟩:=ha0;refine vQ ?_;refine Jm rfl (Jq (Zg (cs:=[_,_,_]) Z7Q (.cons rfl .nil) rfl rfl) (JO.box rfl rfl fun b21=>(Ja rfl (vS [2,4,6] ?_))));refine J.subP (L':=[RB T b21 T.ts false,_]) (.of_eq (by rw[<-ZiP T.ts T b21 rfl])) ?_;refine vQ ?_;refine Jq (Zg (cs:=[_,_,_,_,_,_,_,_,_,_,_,_,_,_]) Z38 (.cons rfl .nil) rfl rfl) (JO.alloc Z1Q rfl fun b7=>(JO.m (Z4 rfl rfl qU (by exact Zh rfl rfl) (by first|exact Zh rfl rfl|exact ZQ) ZV) (by rfl) ?_));refine vS [2,4,6,7] ?_;refine J.cutZN (fun x:Pz.St×List T3×Bool=>[(2,.is (.pointer (some ⟨b2,0,none⟩))),(4,.is (.slice T.ad T.ts.length T.cap)),(6,.is (.pointer (some ⟨b21,0,none⟩))),(7,.is (.pointer (some ⟨b7,0,none⟩)))]) (fun x:Pz.St×List T3×Bool=>RB T b21 x.2.1 x.2.2::⟨b7,Z3,.rep (StR 0 x.1)⟩::⟨b2,Z3,zSt⟩::[]) (fun x:Pz.St×List T3×Bool=>Rv (stmtR T.e T.ts) T.ts false x) ?_ ?_
 · apply yk
   refine J.front b21 (by repeat(first|exact .here|apply Front.there)) ?_;refine vQ ?_;refine Jm rfl ?_;refine JO.callK (Lr:=_) (Zm T b0 o0 ha h9 b21 _ ?hs _ Z7u) rfl (.refl _) qF qA ?_
   case hs=>exact List.suffix_refl _
   intro _ _;refine vD ?_;refine Ja rfl (vS [2,4,6,7,26] ?_);refine yC rfl (fun ht26=>?_) (fun ht26=>?_);rw[Z1f ht26];refine vQ ?_;refine Jm rfl ?_;refine JO.callK (Lr:=_) (Z7K T b0 o0 ha h9 b21 _ ?hs _) rfl (.refl _) qF qA ?_
   case hs=>exact(List.tail_suffix _)
   intro z8 hz8;refine vD ?_;refine JO.m (Z4 rfl rfl qU (by exact Zh rfl rfl) (by first|exact Zh rfl rfl|exact ZQ) ZV) (by rfl) ?_;apply yI
   repeat refine JX.normal_block ?_
   refine JX.midZ (z8) ?_ [2,4,6,7] ?_ ?_ ?_
   · exact(by show Rv (stmtR T.e T.ts) T.ts false _;unfold stmtR;exact Rv.ite_t ht26 (hz8))
   · exact qS
   · exact qH
   · exact qG
   rw[Z16 ht26];refine vQ ?_;refine Jm rfl ?_;refine JO.callK (Lr:=_) (Zm T b0 o0 ha h9 b21 _ ?hs _ Z7s) rfl (.refl _) qF qA ?_
   case hs=>exact List.suffix_refl _
   intro _ _;refine vD ?_;refine Ja rfl (vS [2,4,6,7,31] ?_);refine yC rfl (fun ht31=>?_) (fun ht31=>?_);rw[Z1f ht31];refine vQ ?_;refine Jm rfl ?_;refine JO.callK (Lr:=_) (Z7C T b0 o0 ha h9 b21 _ ?hs _ (Z9D T b0 o0 ha h9 b21 hok)) rfl (.refl _) qF qA ?_
   case hs=>exact(List.tail_suffix _)
   intro z10 hz10;refine vD ?_;refine JO.m (Z4 rfl rfl qU (by exact Zh rfl rfl) (by first|exact Zh rfl rfl|exact ZQ) ZV) (by rfl) ?_;apply yI
   repeat refine JX.normal_block ?_
   refine JX.midZ (z10) ?_ [2,4,6,7] ?_ ?_ ?_
   · exact(by show Rv (stmtR T.e T.ts) T.ts false _;unfold stmtR;exact Rv.ite_f ht26 (Rv.ite_t ht31 (hz10)))
   · exact qS
   · exact qH
   · exact qG
   rw[Z16 ht31];refine vQ ?_;refine Jm rfl ?_;refine JO.callK (Lr:=_) (Zm T b0 o0 ha h9 b21 _ ?hs _ Z40) rfl (.refl _) qF qA ?_
   case hs=>exact List.suffix_refl _
   intro _ _;refine vD ?_;refine Ja rfl (vS [2,4,6,7,36] ?_);refine yC rfl (fun ht36=>?_) (fun ht36=>?_);rw[Z1f ht36];refine vQ ?_;refine Jm rfl ?_;refine JO.callK (Lr:=_) (Z8e T b0 o0 ha h9 b21 _ ?hs _ (Z9D T b0 o0 ha h9 b21 hok)) rfl (.refl _) qF qA ?_
   case hs=>exact(List.tail_suffix _)
   intro z12 hz12;refine vD ?_;refine JO.m (Z4 rfl rfl qU (by exact Zh rfl rfl) (by first|exact Zh rfl rfl|exact ZQ) ZV) (by rfl) ?_;apply yI
   repeat refine JX.normal_block ?_
   refine JX.midZ (z12) ?_ [2,4,6,7] ?_ ?_ ?_
   · exact(by show Rv (stmtR T.e T.ts) T.ts false _;unfold stmtR;exact Rv.ite_f ht26 (Rv.ite_f ht31 (Rv.ite_t ht36 (hz12))))
   · exact qS
   · exact qH
   · exact qG
   rw[Z16 ht36];refine vQ ?_;refine Jm rfl ?_;refine JO.callK (Lr:=_) (Zm T b0 o0 ha h9 b21 _ ?hs _ Z7A) rfl (.refl _) qF qA ?_
   case hs=>exact List.suffix_refl _
   intro _ _;refine vD ?_;refine Ja rfl (vS [2,4,6,7,41] ?_);refine yC rfl (fun ht41=>?_) (fun ht41=>?_);rw[Z1f ht41];refine vQ ?_;refine Jm rfl ?_;refine JO.callK (Lr:=_) (Z7F T b0 o0 ha h9 b21 _ ?hs _ (Z9D T b0 o0 ha h9 b21 hok)) rfl (.refl _) qF qA ?_
   case hs=>exact(List.tail_suffix _)
   intro z14 hz14;refine vD ?_;refine JO.m (Z4 rfl rfl qU (by exact Zh rfl rfl) (by first|exact Zh rfl rfl|exact ZQ) ZV) (by rfl) ?_;apply yI
   repeat refine JX.normal_block ?_
   refine JX.midZ (z14) ?_ [2,4,6,7] ?_ ?_ ?_
   · exact(by show Rv (stmtR T.e T.ts) T.ts false _;unfold stmtR;exact Rv.ite_f ht26 (Rv.ite_f ht31 (Rv.ite_f ht36 (Rv.ite_t ht41 (hz14)))))
   · exact qS
   · exact qH
   · exact qG
   rw[Z16 ht41];refine vQ ?_;refine Jm rfl ?_;refine JO.callK (Lr:=_) (Zm T b0 o0 ha h9 b21 _ ?hs _ Z7x) rfl (.refl _) qF qA ?_
   case hs=>exact List.suffix_refl _
   intro _ _;refine vD ?_;refine Ja rfl (vS [2,4,6,7,46] ?_);refine yC rfl (fun ht46=>?_) (fun ht46=>?_);rw[Z1f ht46];refine vQ ?_;refine Jm rfl ?_;refine JO.callK (Lr:=_) (Zl T b0 o0 ha h9 b21 _ ?hs _ 1 qD Z6E) rfl (.refl _) qF qA ?_
   case hs=>exact(List.tail_suffix _)
   intro z16 hz16;have hu16:z16.2.1<:+T.ts:=hz16.suf.trans (List.tail_suffix _);refine vD ?_;refine vP [2,4,6,7] ?_;refine Jq (Z0 Z2Y rfl) (JO.m (Zj (cs':=[_,_,_,_,_,_,_,_,_,_,_,_,_,_]) rfl rfl qU rfl rfl rfl rfl Z2x) (by rfl) ?_);refine vP [2,4,6,7] ?_;refine Jm rfl ?_;refine JO.callK (Lr:=_) (ZY T b0 o0 ha h9 b21 _ ?hs _) rfl (.refl _) qF qA ?_
   case hs=>exact hu16
   intro n18 hn18;refine vD ?_;refine Jq (Z0 Z1V rfl) (JO.m (Zj (cs':=[_,_,_,_,_,_,_,_,_,_,_,_,_,_]) rfl rfl qU rfl rfl rfl rfl Z4a) (by rfl) ?_);refine vP [2,4,6,7] ?_;refine Jm rfl (JO.callK (Lr:=_) (Z3Z T b0 o0 ha h9 b21 n18.2.1 (hn18.suf.trans hu16) _ (Z9D T b0 o0 ha h9 b21 hok)) rfl (.refl _) qF qA ?_);intro w19 hw19;refine vD ?_;refine JO.openEv (s:=56) rfl (fun aw lw cw _ _=>?_);refine Jq (Z0 Z26 rfl) (JO.m (Zj (cs':=[_,_,_,_,_,_,_,_,_,_,_,_,_,_]) rfl rfl qU rfl rfl rfl rfl Z2k) (by rfl) ?_);refine JO.coerO (T':=.rep (StR 0 ({stK 6 with tb:=n18.1,where_:=w19.1}))) qU (Sub.st rfl fun X w hf w' hk=>⟨Zw (FrS.nil _),Zw (FrS.nil _),Zw trivial,Zw trivial,Zw trivial,hf _ qI w' hk,Z23,Zw trivial,Z23⟩) ?_;apply yI
   repeat refine JX.normal_block ?_
   refine JX.midZ (({stK 6 with tb:=n18.1,where_:=w19.1},w19.2.1,w19.2.2)) ?_ [2,4,6,7] ?_ ?_ ?_
   · exact(by show Rv (stmtR T.e T.ts) T.ts false _;unfold stmtR;exact Rv.ite_f ht26 (Rv.ite_f ht31 (Rv.ite_f ht36 (Rv.ite_f ht41 (Rv.ite_t ht46 (by unfold removeP;exact hz16.bind (hn18.bind (Rv.map (f:=fun w:List Ex×List T3=>(({stK 6 with tb:=n18.1,where_:=w.1}:Pz.St),w.2)) hw19 rfl))))))))
   · exact qS
   · exact qH
   · exact qG
   rw[Z16 ht46];refine vQ ?_;refine Jm rfl ?_;refine JO.callK (Lr:=_) (Zm T b0 o0 ha h9 b21 _ ?hs _ Z9a) rfl (.refl _) qF qA ?_
   case hs=>exact List.suffix_refl _
   intro _ _;refine vD ?_;refine Ja rfl (vS [2,4,6,7,58] ?_);refine yC rfl (fun ht58=>?_) (fun ht58=>?_);rw[Z1f ht58];refine vQ ?_;refine Jq (Z0 Z2Y rfl) (JO.m (Zj (cs':=[_,_,_,_,_,_,_,_,_,_,_,_,_,_]) rfl rfl qU rfl rfl rfl rfl Z2x) (by rfl) ?_);refine JO.coerO (T':=.rep (StR 0 (stK 7))) qU (Sub.st rfl fun X w hf w' hk=>⟨Zw (FrS.nil _),Zw (FrS.nil _),Zw trivial,Zw trivial,Zw trivial,Zw (FrS.nil _),Z23,Zw trivial,Z23⟩) ?_;apply yI
   repeat refine JX.normal_block ?_
   refine JX.midZ ((stK 7,T.ts.tail,false)) ?_ [2,4,6,7] ?_ ?_ ?_
   · exact(by show Rv (stmtR T.e T.ts) T.ts false _;unfold stmtR;exact Rv.ite_f ht26 (Rv.ite_f ht31 (Rv.ite_f ht36 (Rv.ite_f ht41 (Rv.ite_f ht46 (Rv.ite_t ht58 (Rv.pure _)))))))
   · exact qS
   · exact qH
   · exact qG
   rw[Z16 ht58];refine vQ ?_;refine Jm rfl ?_;refine JO.callK (Lr:=_) (Zm T b0 o0 ha h9 b21 _ ?hs _ Z7y) rfl (.refl _) qF qA ?_
   case hs=>exact List.suffix_refl _
   intro _ _;refine vD ?_;refine Ja rfl (vS [2,4,6,7,62] ?_);refine yC rfl (fun ht62=>?_) (fun ht62=>?_);rw[Z1f ht62];refine vQ ?_;refine Jq (Z0 Z2Y rfl) (JO.m (Zj (cs':=[_,_,_,_,_,_,_,_,_,_,_,_,_,_]) rfl rfl qU rfl rfl rfl rfl Z2x) (by rfl) ?_);refine JO.coerO (T':=.rep (StR 0 (stK 8))) qU (Sub.st rfl fun X w hf w' hk=>⟨Zw (FrS.nil _),Zw (FrS.nil _),Zw trivial,Zw trivial,Zw trivial,Zw (FrS.nil _),Z23,Zw trivial,Z23⟩) ?_;apply yI
   repeat refine JX.normal_block ?_
   refine JX.midZ ((stK 8,T.ts.tail,false)) ?_ [2,4,6,7] ?_ ?_ ?_
   · exact(by show Rv (stmtR T.e T.ts) T.ts false _;unfold stmtR;exact Rv.ite_f ht26 (Rv.ite_f ht31 (Rv.ite_f ht36 (Rv.ite_f ht41 (Rv.ite_f ht46 (Rv.ite_f ht58 (Rv.ite_t ht62 (Rv.pure _))))))))
   · exact qS
   · exact qH
   · exact qG
   rw[Z16 ht62];refine vQ ?_;refine Jm rfl ?_;refine JO.callK (Lr:=_) (Zm T b0 o0 ha h9 b21 _ ?hs _ Z5L) rfl (.refl _) qF qA ?_
   case hs=>exact List.suffix_refl _
   intro _ _;refine vD ?_;refine Ja rfl (vS [2,4,6,7,66] ?_);refine yC rfl (fun ht66=>?_) (fun ht66=>?_);rw[Z1f ht66];refine vQ ?_;refine Jq (Z0 Z2Y rfl) (JO.m (Zj (cs':=[_,_,_,_,_,_,_,_,_,_,_,_,_,_]) rfl rfl qU rfl rfl rfl rfl Z2x) (by rfl) ?_);refine JO.coerO (T':=.rep (StR 0 (stK 9))) qU (Sub.st rfl fun X w hf w' hk=>⟨Zw (FrS.nil _),Zw (FrS.nil _),Zw trivial,Zw trivial,Zw trivial,Zw (FrS.nil _),Z23,Zw trivial,Z23⟩) ?_;apply yI
   repeat refine JX.normal_block ?_
   refine JX.midZ ((stK 9,T.ts.tail,false)) ?_ [2,4,6,7] ?_ ?_ ?_
   · exact(by show Rv (stmtR T.e T.ts) T.ts false _;unfold stmtR;exact Rv.ite_f ht26 (Rv.ite_f ht31 (Rv.ite_f ht36 (Rv.ite_f ht41 (Rv.ite_f ht46 (Rv.ite_f ht58 (Rv.ite_f ht62 (Rv.ite_t ht66 (Rv.pure _)))))))))
   · exact qS
   · exact qH
   · exact qG
   rw[Z16 ht66];refine vQ ?_;refine Jm rfl (Jq (Z5 rfl) (Jq (Z0 Ze rfl) (JO.m (Zj (cs':=[_,_,_]) rfl rfl qU rfl rfl rfl rfl Z2D) (by rfl) ?_)));refine JO.coerO (T':=.rep (StR 0 (stK 0))) qU (Sub.st rfl fun X w hf w' hk=>⟨Zw (FrS.nil _),Zw (FrS.nil _),Zw trivial,Zw trivial,Zw trivial,Zw (FrS.nil _),Z23,Zw trivial,Z23⟩) ?_;apply yI
   repeat refine JX.normal_block ?_
   refine JX.midZ ((stK 0,T.ts,true)) ?_ [2,4,6,7] ?_ ?_ ?_
   · exact(by show Rv (stmtR T.e T.ts) T.ts false _;unfold stmtR;exact Rv.ite_f ht26 (Rv.ite_f ht31 (Rv.ite_f ht36 (Rv.ite_f ht41 (Rv.ite_f ht46 (Rv.ite_f ht58 (Rv.ite_f ht62 (Rv.ite_f ht66 (Rv.none _)))))))))
   · exact qS
   · exact qH
   · exact qG
 · intro⟨st,us,bd⟩ hst
   try dsimp only
   refine vQ ?_;refine Jm rfl ?_;refine JO.callK (Lr:=_) (Z10 T b0 o0 ha h9 b21 _ ?hs _ Z5d) rfl (.refl _) qF qA ?_
   case hs=>exact hst.suf
   intro _ _;refine vD ?_;refine vP [2,4,6,7] ?_;refine Jm rfl (Jq (Z5 rfl) (Jq (Z0 Ze rfl) (Jq (Z1 Z1E rfl rfl) (Jm rfl (JO.tg rfl rfl rfl rfl rfl (fun hg=>Z2 (.inl rfl)) (JO.tg rfl rfl rfl rfl rfl (fun hg=>Z5 (qR rfl)) ?_))))));refine JO.tg rfl rfl rfl rfl rfl (fun hg=>Z0 ZH (qR rfl)) ?_;refine JO.tg rfl rfl rfl rfl rfl (fun hg=>Z1 Zq (qR rfl) rfl) ?_;refine JO.tg rfl rfl rfl rfl rfl (fun hg=>Z2 (.inl rfl)) (JO.tg rfl rfl rfl rfl rfl (fun hg=>ZE Z12 (qR rfl)) ?_);refine JO.tg rfl rfl rfl rfl rfl (fun hg=>Z3e (qR rfl) (qR rfl)) ?_;refine Jq (ZF rfl rfl rfl id) (vS [2,7,84] ?_);refine yC rfl (fun ht84=>?_) (fun ht84=>?_);have hrd:readS (lx s)=(st0,30):=Zmm hq (by rw[<-hts];exact hok) (z:=(st,us,bd)) (by rw[<-hts];exact hst) (by rcases Bool.or_eq_true_iff.1 ht84 with h|h;exact .inl h;exact .inr fun e=>by rw[e]at h;simp[Rk.k]at h);refine vQ ?_;refine Jq (Zg (cs:=[_,_,_,_,_,_,_,_,_,_,_,_,_,_]) Z38 .nil rfl rfl) (JO.m (Z4 rfl rfl qU (by exact Zh rfl rfl) (by first|exact Zh rfl rfl|exact ZQ) ZV) (by rfl) ?_);refine Ja rfl (vS [2,3] ?_);refine vR ?_;exact JX.retLC1s (Lr:=_) (A:=.rep (StR 0 st0)) (B:=.int .i64 30) rfl () trivial (.refl _) rfl hb0 rfl rfl ZL qI (Z1o rfl) rfl SrZero (by show Ty.tup2 (.rep (StR 0 (readS (lx s)).1)) (.is (.int .i64 (readS (lx s)).2))=_;rw[hrd]);apply yK
   repeat first|apply yX|apply yB
   obtain⟨hbd,hke⟩:=Bool.or_eq_false_iff.1 ht84;have hsk:skRB 5 Z5d us bd=[]:=(k_ne (T:=T) (Z4i.trans hst.suf)).1 (by simpa using hke);obtain⟨hsp,hwp⟩:=ZkG (l:=lx s) (z:=(st,us,bd)) (by rw[<-hts];exact hok) (by rw[<-hts];exact hst) hbd hsk;try dsimp only at hsp hwp
   have hsm:SmS st:=Zbv hsp;have hec: ∀x∈exsOf st,ect x<=4096:=fun x hx=>Nat.le_trans (Zcw (Z34 _) (ZaU _) (Nat.le_refl _) hsp x hx) (by have h1:(lx s).1.length<=2049:=Z9F s.data.toList;omega);have hxl:=Zda hsm;refine J.front b7 (by repeat(first|exact .here|apply Front.there)) ?_;refine J.openOwnSt fun vc vn vr vi vf vw vg vo vs h1c=>?_;refine vQ ?_;refine Jq (ZR (cs:=[_,_,_,_,_,_,_,_,_,_,_,_,_,_]) ZL rfl rfl rfl) (Jq (Zo rfl (Zb9 0 st hsm) (.sub rfl (Sub.st rfl fun X w hf w' hk=>⟨hf _ qI w' hk,hf _ qI w' hk,hf _ qI w' hk,hf _ qI w' hk,hf _ qI w' hk,hf _ qI w' hk,hf _ qI w' hk,hf _ qI w' hk,hf _ qI w' hk⟩) .nil)) ?_);refine Ja rfl (vP [2,7,8] ?_);refine Ja rfl (vS [2,7,8,9] ?_);apply yk
   repeat apply yQ
   refine J.openExs (s:=8) rfl (fun al ll cl bl ol hll hal=>?_);refine J.loopF (α:=Nat) (fun k=>[(2,_),(7,_),(8,.is (.slice al ll cl)),(9,.is (.int .i64 (k:Nat)))]) (fun k=>k<=ll/\ ∀j,j<k->¬32<hgt ((exsOf st).getD j ex0)) (fun k=>ll-k) 0 [2,7,8,9] (.cons rfl (.cons rfl (.cons rfl (.cons rfl .nil)))) ⟨Nat.zero_le _,fun j hj=>absurd hj (Nat.not_lt_zero j)⟩ fun i ⟨hi,hih⟩=>?_;refine vQ ?_;refine Jm rfl (Jm rfl (Jq (ZE Zy rfl) (Jq (ZC rfl rfl) (vS [2,7,8,9,91] ?_))));refine yC rfl (fun ht91=>?_) (fun ht91=>?_)
   try simp only[yd,yf]at ht91
   apply yK;refine vN ?_;apply yk;refine vQ ?_;refine Jm rfl (Jm rfl (Jq (Z9 ZO rfl (hal qM) rfl qM qM) ?_));refine Jq (Z1q (i:=i) (kid:=(exsOf st).getD i ex0) Z6 rfl qI (hal qM) (Z1B qM) qM) ?_;refine Jq (Zo rfl (Z8D 4096 ((exsOf st).getD i ex0) (hec _ (Z1l qM)) (hec _ (Z1l qM))) (.one rfl .nil)) ?_;refine Jq (Z13 rfl rfl) (vS [2,7,8,9,99] ?_);refine yC rfl (fun ht99=>?_) (fun ht99=>?_)
   try simp only[yd,yf]at ht99
   refine vQ ?_;refine Jq (Zg (cs:=[_,_,_,_,_,_,_,_,_,_,_,_,_,_]) Z38 .nil rfl rfl) (JO.m (Z4 rfl rfl qU (by exact Zh rfl rfl) (by first|exact Zh rfl rfl|exact ZQ) ZV) (by rfl) ?_);refine Ja rfl (vS [2,3] ?_);refine vR ?_;exact JX.retLC1s (Lr:=_) (A:=.rep (StR 0 st0)) (B:=.int .i64 31) rfl () trivial (.refl _) rfl hb0 rfl rfl ZL qI (Z1o rfl) rfl SrZero (by show Ty.tup2 (.rep (StR 0 (readS (lx s)).1)) (.is (.int .i64 (readS (lx s)).2))=_;rw[ZjH hq hwp (List.any_eq_true.2 ⟨_,Z1l (xs:=exsOf st) (i:=i) qM,by rw[decide_eq_true_eq];omega⟩)])
   try simp only[yd,yf]at ht99
   apply yK;refine vN ?_;apply yN;refine Jm rfl (Jq (Zv (cc:=((i+1:Nat):Int)) rfl rfl qM qM qM) ?_);refine Ja rfl ?_;apply yI
   repeat refine JX.normal_block ?_
   refine JX.roundS (i+1) ?_ ?_ [2,7,8,9] ?_ ?_ ?_
   · exact⟨qM,fun j hj=>by rcases Nat.lt_succ_iff_lt_or_eq.1 hj with h|rfl;exact hih j h;omega⟩
   · exact qM
   · exact qS
   · exact qB
   · exact qB
   try simp only[yd,yf]at ht91
   repeat apply yQ
   refine J.exit ?_
   repeat first|refine yH ?_|refine yM rfl ?_|refine yE ?_
   refine vN ?_;apply yN;refine Jq (ZR (cs:=[_,_,_,_,_,_,_,_,_,_,_,_,_,_]) ZL rfl rfl rfl) (JO.m (Z4 rfl rfl qU (by exact Zh rfl rfl) (by exact ZcB h1c) ZV) (by rfl) ?_);refine Ja rfl (vS [2,3] ?_);refine vR ?_;exact JX.retLC1s (Lr:=_) (A:=.rep (StR 0 st)) (B:=.int .i64 0) rfl () trivial (.refl _) rfl hb0 rfl rfl ZL qI (Z1o rfl) rfl (Sub.st rfl fun X w hf w' hk=>⟨hf _ qI w' hk,hf _ qI w' hk,hf _ qI w' hk,hf _ qI w' hk,hf _ qI w' hk,hf _ qI w' hk,hf _ qI w' hk,hf _ qI w' hk,hf _ qI w' hk⟩) (by show Ty.tup2 (.rep (StR 0 (readS (lx s)).1)) (.is (.int .i64 (readS (lx s)).2))=_;rw[Zin hq hwp (List.any_eq_false.2 fun x hx=>by obtain⟨j,hj,rfl⟩:=List.getElem_of_mem hx;have h:=hih j qM;simpa [List.getD_eq_getElem?_getD,hj] using h)])
end Go.Proofs.YtbedigkncjbggaaGreatDoor
set_option maxRecDepth 20000
namespace Go.Proofs.YtbedigkncjbggaaGreatDoor
open Go Go.Vc
open Go.Pz
attribute [local irreducible] SlE ExsR
theorem Z6G(N:Nat)(T:Tk)(hc:T.ts.length<=T.cap)(h9:T.ts.length<=2049)(b:Nat)(ts:List T3)(hts:ts<:+T.ts)(M:Nat)(hM:ts.length<M)(hsel: ∀z,takeP 1 ts=some z->z.1.t=Z40):CallP Tryz.prog Z6M [PB T b ts] [T.G,AF,NH N] [.is (.pointer (some ⟨b,0,none⟩))] (stmtP (exprP M) ts=none) flt (fun z:Pz.St×List T3=>stmtP (exprP M) ts=some z) (fun z=>[PB T b z.2]) (fun z=>.rep (StR N z.1)):=
CallP.ofN (N:=N) (List.mem_cons_of_mem _ (List.mem_cons_of_mem _ List.mem_cons_self)) (fn:=Tryz.f26) Tryz.func26 (n:=43) rfl rfl rfl (fun _ _=>by kernel_rfl) fun E W hNW hb0=>by
 refine vQ ?_;refine JO.alloc Z1Q rfl fun b2=>(vS [0,2] ?_);refine J.regS 17 hmx qK qK ?_;refine yz (Z2 rfl) (yz (Z2 rfl) (yz (Z5 rfl) (yz (Z0 Zz rfl) (yz (Z1 ZJ rfl rfl) (yz (ZE Z12 rfl) (yz (Z13 rfl rfl) (yz (Z2 rfl) (yg rfl rfl rfl (fun hg=>Z2 (.inl rfl)) (yg rfl rfl rfl (fun hg=>Z5 (qR rfl)) ?_)))))))));refine yg rfl rfl rfl (fun hg=>Z0 Zz (qR rfl)) ?_;refine yg rfl rfl rfl (fun hg=>Z1 ZJ (qR rfl) rfl) ?_;refine yg rfl rfl rfl (fun hg=>Z9 Z1m (qR rfl) rfl (.inl rfl) qM (Z3z (Z43 hg))) ?_;refine yg rfl rfl rfl (fun hg=>Z0 Z1n (qR rfl)) ?_;refine yg rfl rfl rfl (fun hg=>ZK (enc:=T3.cells) (sz:=3) (i:=T.k ts) (j:=0) (y:=ts.headD t3D) (u:=.int .i64 (ts.headD t3D).k) Zq (qR rfl) qI rfl (Tk.head hts (Z43 hg)) (by rw[Tk.j_eq hc hts (Z43 hg)];omega) rfl) ?_;refine yg rfl rfl rfl (fun hg=>Zu (qR rfl) (.inl rfl)) ?_;refine yz (Zn rfl rfl rfl id) ?_;apply yn;refine FinS.tail0 ?_;refine JO.callPK (Lr:=_) (ZP (.pointer (some ⟨b,0,none⟩)) _) rfl (Z3q _) Z3j qA (fun hbad=>?_) ?_
 · exact JX.pnI (by unfold stmtP;rw[Zcn,<-Z79,hbad];rfl)
 intro z hz;have hK:isK 1 ts=true:=by rw[<-Z79];exact hz
 refine vD ?_;refine vP [0,2] ?_;refine JO.mapMkS rfl (fun r24=>?_);refine JO.m (Z2z ZA Zd rfl rfl rfl (by simp[sGet]) .here) (by rfl) ?_;refine JO.m (Z2z ZA Zd rfl rfl rfl (by simp[sGet]) .here) (by rfl) ?_;refine JO.m (Z2z ZA Zd rfl rfl rfl (by simp[sGet]) .here) (by rfl) ?_;refine JO.m (Z2z ZA Zd rfl rfl rfl (by simp[sGet]) .here) (by rfl) ?_;refine JO.m (Z2z ZA Zd rfl rfl rfl (by simp[sGet]) .here) (by rfl) ?_;refine Jq (Zo rfl (Z6Q 7) qA) ?_;refine JO.open_ (s:=25) (R:=PlF 7) rfl ?_;rintro _ ⟨_,b7,rfl,_⟩;refine JO.fact (HeapIs b7 [.int .i64 7] Z6z) (fun X w hf _=>Zbs (hf _ List.mem_cons_self)) (JO.m (Z2z ZA Zd rfl rfl rfl (by simp[sGet]) .here) (by rfl) ?_);refine Jq (Zo rfl (Z6Q 8) qA) ?_;refine JO.open_ (s:=26) (R:=PlF 8) rfl ?_;rintro _ ⟨_,b8,rfl,_⟩;refine JO.fact (HeapIs b8 [.int .i64 8] Z6z) (fun X w hf _=>Zbs (hf _ List.mem_cons_self)) (JO.m (Z2z ZA Zd rfl rfl rfl (by simp[sGet]) .here) (by rfl) ?_);refine Jq (Zo rfl (Z6Q 9) qA) ?_;refine JO.open_ (s:=27) (R:=PlF 9) rfl ?_;rintro _ ⟨_,b9,rfl,_⟩;refine JO.fact (HeapIs b9 [.int .i64 9] Z6z) (fun X w hf _=>Zbs (hf _ List.mem_cons_self)) (JO.m (Z2z ZA Zd rfl rfl rfl (by simp[sGet]) .here) (by rfl) ?_);refine Jm rfl (Ja rfl (vP [0,2,3] ?_));refine Jm rfl (Jm rfl ?_);refine JO.callPK (Lr:=[_,_]) (Z3l T hc b ts hts 1) rfl (List.perm_append_comm (l₁:=[_,_]) (l₂:=[_])) qF qA (fun hbad=>?_) ?_
 · exact JX.pnI (by unfold stmtP;rw[hbad];rfl)
 rintro⟨⟨k1,w,n1⟩,r1⟩ hz1;refine vD ?_;refine Jq (Z4S (off:=1) qK rfl rfl) ?_;refine Jq (Zj5 (l:=stF b7 b8 b9) (V:=(sGet w (stF b7 b8 b9)).getD .nilFunc) (B:=(sGet w (stF b7 b8 b9)).isSome) ZA Zd Z5G rfl rfl (List.mem_cons_of_mem _ List.mem_cons_self) rfl rfl) (Jm rfl (Jq (Zif rfl rfl) (Jq (Zif rfl rfl) (Ja rfl (Ja rfl (vP [0,2,4,5] ?_))))));refine Jm rfl (Jm rfl ?_);refine JO.callPK (Lr:=_) (ZP (.pointer (some ⟨b,0,none⟩)) (sGet w (stF b7 b8 b9)).isSome) rfl (Z3q _) Z3j qA (fun hbad=>?_) ?_
 · exact JX.pnI (by exact Zjt hz1 hbad)
 intro _ hfo;refine vD ?_;refine vS [0,2,4] ?_;have hw:w=Z40:=hsel _ hz1;subst hw;rw[show(sGet Z40 (stF b7 b8 b9)).getD .nilFunc=fv Z42 by simp[stF,sGet]];refine vQ ?_;refine Jm rfl (Jm rfl ?_);refine JO.callPvK (cp:=[]) (Lr:=[_,_]) rfl (Z8o N T hc h9 b r1 (show r1<:+T.ts from(Z1N 1 _ _ hz1).1.trans hts) (exprP M) (Z34 M) (fun us hus hu=>ZhW T hc b M us hus (by have:r1.length<ts.length:=(Z1N 1 _ _ hz1).2;omega))) rfl (.refl _) qF (.one rfl .nil) (fun hbad=>?_) ?_
 · exact JX.pnI (by unfold stmtP;rw[hz1,Option.bind_some,if_neg (by exact Bool.false_ne_true),if_neg (by exact Bool.false_ne_true),if_pos (by rfl),hbad])
 intro z hz;refine vD ?_;refine JO.m (Z4 rfl rfl qU qC (by first|exact Zh rfl rfl|exact Zm4|exact Zjm|exact ZQ) ZV) (by rfl) ?_;refine vS [2] ?_;refine vR ?_;refine JX.toP ?_;exact JX.retLCs (Lr:=[_,_]) rfl z (by unfold stmtP;rw[hz1,Option.bind_some,if_neg (by exact Bool.false_ne_true),if_neg (by exact Bool.false_ne_true),if_pos (by rfl),hz]) (.refl _) rfl rfl hb0 rfl ZL HasOwn.mem Zms (Sub.refl _)
end Go.Proofs.YtbedigkncjbggaaGreatDoor
set_option maxRecDepth 20000
namespace Go.Proofs.YtbedigkncjbggaaGreatDoor
open Go Go.Vc
open Go.Pz
theorem ZcF(N:Nat)(s:ByteArray)(hq:(lx s).2=0)(hsel: ∀z,takeP 1 (lx s).1=some z->z.1.t=Z40)(h0:(readS (lx s)).2=0):CallL Tryz.prog Z6N (Z:=Unit) [] [NH N,GF,AF] [.is (.string s)] (fun _=>True) (fun _=>[]) (fun _=>.tup2 (.rep (StR N (readS (lx s)).1)) (.is (.int .i64 (readS (lx s)).2))):=
CallL.ofD (N:=N) List.mem_cons_self (fn:=Tryz.f13) Tryz.func13 (n:=34) rfl rfl rfl (fun _ _=>by kernel_rfl) fun E W hNW hb0=>by
 refine vQ ?_;refine JO.alloc Z1Q rfl fun b2=>(JO.alloc ZeM rfl fun b3=>(vP [0,2,3] ?_));refine Jm rfl (Jq (ZN rfl (ZhM _) (by simp) (.one rfl .nil)) ?_);refine Jm rfl (Jq (Z39 rfl) (Jq (Z3b rfl) (Ja rfl (JO.m (Z4 rfl rfl qU qC qO Zaj) (by rfl) ?_))));refine vP [2,3,4] ?_;refine Jq (Z1 Zat rfl rfl) (Jq (Z3e rfl rfl) (vS [2,3,4,12] ?_));refine yC rfl (fun ht12=>?_) (fun ht12=>?_)
 try simp only[yd,yf]at ht12
 exfalso
 rw[hq]at ht12;exact absurd ht12 qD
 try simp only[yd,yf]at ht12
 apply yK;refine vN ?_;apply yN;refine Jq (Z4A .nil (.cons rfl (.cons rfl .nil))) (JO.defer rfl (vS [2,3,4] ?_));refine J.openSlC (s:=4) rfl (fun a len cap bb oo hl ha hlc=>?_);have h9:(lx s).1.length<=2049:=Z9F _
 by_cases hn:(lx s).1=[]
 · exact absurd h0 (by rw[ZdP hq (by rw[hn];rfl)];decide)
 have ha2:=ha (by rw[<-hl];exact fun h=>hn (List.length_eq_zero_iff.1 h));subst ha2 hl;rw[ZlK];refine vQ ?_;refine Jm rfl (Jq (Zg (cs:=[_]) ZbJ (.cons rfl .nil) rfl rfl) (JO.box rfl rfl fun b18=>(Ja rfl (vP [2,3,5] ?_))));refine Jm rfl ?_;refine JO.callPK (Lr:=[_,_]) (Z6G N ⟨(lx s).1,bb,oo,cap⟩ hlc h9 b18 (lx s).1 (List.suffix_refl _) ((lx s).1.length+1) (Nat.lt_succ_self _) hsel) rfl (.refl _) qF qA (fun hbad=>?_) ?_
 · exact absurd h0 (by rw[ZdP hq (Zfr hbad)];decide)
 intro z hz;have hzs:z.2<:+(lx s).1:=Zje (Z34 _) hz;refine vD ?_;refine JO.m (Z4 rfl rfl qU (by exact Zh rfl rfl) (by exact ZQ) ZV) (by rfl) ?_;refine vP [2,3,5] ?_;refine Jm rfl (JO.callK (Lr:=[_,_]) (ZX ⟨(lx s).1,bb,oo,cap⟩ hlc b18 z.2 hzs Z5d) rfl (.refl _) qF qA ?_);intro _ _;refine vD ?_;refine vP [2,3,5] ?_;refine Jm rfl (Jm rfl (Jq (Z5 rfl) (Jq (Z0 Zz rfl) (Jq (Z1 ZJ rfl rfl) (Jq (ZE Z12 rfl) (Jq (Zu rfl rfl) ?_))))));refine JO.callPK (Lr:=_) (ZP (.pointer (some ⟨b18,0,none⟩)) _) rfl (Z3q _) qF qA (fun hbad=>?_) ?_
 · exact absurd h0 (by rw[ZdP hq (Zd6 hz (by simpa using hbad))];decide)
 intro _ hw0;refine vD ?_;refine vS [2,3] ?_;refine J.front b2 (by repeat(first|exact .here|apply Front.there)) ?_;refine J.openOwnSt fun vc vn vr vi vf vw vg vo vs h1c=>?_;have hwp:wholeP (lx s).1=some z.1:=Zd4 hz (by simpa using hw0);refine vQ ?_;refine JO.callK (Lr:=[_,_]) (ZdU N b2 z.1 vc vn vr vi vf vw vg vo vs (Zbv hz) (fun x hx=>Nat.le_trans (Zcw (Z34 _) (ZaU _) (Nat.le_refl _) hz x hx) qM)) rfl (.refl _) qF qA ?_;intro _ _;refine vD ?_;refine vS [2,3,31] ?_;refine yC rfl (fun ht31=>?_) (fun ht31=>?_)
 try simp only[yd,yf]at ht31
 exfalso
 exact absurd h0 (by rw[ZjH hq hwp ht31];decide)
 try simp only[yd,yf]at ht31
 apply yK;refine vN ?_;apply yN;refine Jq (ZR (cs:=[_,_,_,_,_,_,_,_,_,_,_,_,_,_]) ZL rfl rfl rfl) (JO.m (Z4 rfl rfl qU (by exact ZcB h1c) (by exact ZcB h1c) ZV) (by rfl) ?_);refine JO.m (Z4 rfl rfl qU qC qO Zaj) (by rfl) ?_;refine vS [2,3] ?_;refine vR ?_;refine JX.retD (f:=Z86) (cap:=[.pointer (some ⟨b2,0,none⟩),.pointer (some ⟨b3,0,none⟩)]) (L0:=[⟨b2,Z3,.is (stV z.1 vc vn vr vi vf vw vg vo vs)⟩,⟨b3,Z7j,.is (.int .i64 0)⟩]) (Lr:=[_]) (ZlH b2 b3 _ rfl _) (.cons _ (.swap _ _ _)) ?_;exact JX.retLCC (Lr:=_) (A:=.rep (StR N z.1)) (B:=.int .i64 0) rfl () trivial (.refl _) rfl hb0 rfl rfl ZL Zat qI qI (Z1o rfl) rfl rfl (Sub.st rfl fun X w hf w' hk=>⟨hf _ qI w' hk,hf _ qI w' hk,hf _ qI w' hk,hf _ qI w' hk,hf _ qI w' hk,hf _ qI w' hk,hf _ qI w' hk,hf _ qI w' hk,hf _ qI w' hk⟩) (by show Ty.tup2 (.rep (StR N (readS (lx s)).1)) (.is (.int .i64 (readS (lx s)).2))=_;rw[Zin hq hwp ht31])
end Go.Proofs.YtbedigkncjbggaaGreatDoor
