/- The document's reader: INSERT. No condition. -/
import Derived.Test.YtbedigkncjbggaaGreatDoorXQ12
import Derived.Test.YtbedigkncjbggaaGreatDoorXQ11
import Derived.Test.YtbedigkncjbggaaGreatDoorXQ5
import Derived.Test.YtbedigkncjbggaaGreatDoorXQ1
set_option maxRecDepth 20000
namespace Go.Proofs.YtbedigkncjbggaaGreatDoor
open Go Go.Vc
open Go.Pz
theorem Z9I{st:Option (Nat×List Value)}{e:TypeId}{a b c:Own}{L:List Own}:(a::b::c::ownO st e L).Perm (ownO st e (a::b::c::L)):=by
 cases st with
 |none=>exact .refl _
 |some p=>exact(List.perm_middle (l₁:=[a,b,c])).symm.symm
theorem Zhi{e:Ps Ex}(he:Dn e):Dn (rowR e):=by rw[Zer];exact Z39 he.le
theorem ZiE{G:GoS}{xs:List Ex}{E:Nat->Prop}{v:Value}{w:World}(h:(Ty.rep (SlE exE G xs)).p E v w):(Ty.rep (rwE.T xs)).p E v w:=fun w' hk=>⟨[v],rfl,v,rfl,SlE.exs (h w' hk)⟩
theorem CallL.weakR{P:Program}{f:FuncId}{Z:Type}{L0:List Own}{Φ0:List (World->Prop)}{As:List Ty}{Zp:Z->Prop}{L1:Z->List Own}{R R':Z->Ty}(h:CallL P f L0 Φ0 As Zp L1 R)(hr: ∀z E v w,(R z).p E v w->(R' z).p E v w):CallL P f L0 Φ0 As Zp L1 R':=
 ⟨h.enter,fun E w vs hw hL hn hΦ ht=>Calls.mono (h.calls E w vs hw hL hn hΦ ht) fun _ _ ⟨v,z,E',he,hE⟩=>⟨v,z,E',he,hE.zp,hE.k,hE.same,hE.wf,hE.l,hE.nd,hE.inn,hr z E' v _ hE.r⟩⟩
theorem ZeC(T:Rk)(b0 o0:Nat)(ha:T.ts.length≠0->T.ad=some ⟨b0,o0,none⟩)(h9:T.ts.length<=2049)(b:Nat)(us:List T3)(hus:us<:+T.ts)(bad:Bool)(hE:E0 T b):CallL Tryz.prog Z4V [RB T b us bad] [T.G] [.is (.pointer (some ⟨b,0,none⟩))] (fun z:List Ex×List T3×Bool=>Rv (exprsR T.e us) us bad z) (fun z=>[RB T b z.2.1 z.2.2]) (fun z=>.rep (rwE.T z.1)):=
 CallL.weakR (Z4S T b0 o0 ha h9 b us hus bad hE) fun z E v w h=>ZiE h
theorem Rv.cap2{α:Type}{us:List T3}{bad:Bool}(n m:Nat)(x:α):Rv (if n<=16/\m<=32 then some (x,us)else none) us bad (x,us,(bad||decide ((16:Int)<(n:Int)))||decide ((32:Int)<(m:Int))):=by
 by_cases h:n<=16/\m<=32
 · rw[if_pos h,decide_eq_false (show ¬(16:Int)<(n:Int) by omega),decide_eq_false (show ¬(32:Int)<(m:Int) by omega),Bool.or_false,Bool.or_false];exact Rv.pure x
 · rw[if_neg h,show((bad||decide ((16:Int)<(n:Int)))||decide ((32:Int)<(m:Int)))=true by
     by_cases h1:n<=16
     · rw[decide_eq_true (show(32:Int)<(m:Int) by omega),Bool.or_true]
     · rw[decide_eq_true (show(16:Int)<(n:Int) by omega),Bool.or_true,Bool.true_or]]
   exact Rv.none x
attribute [local irreducible] SlE ExsR
set_option maxHeartbeats 1000000 in
theorem Z7i(T:Rk)(b0 o0:Nat)(ha:T.ts.length≠0->T.ad=some ⟨b0,o0,none⟩)(h9:T.ts.length<=2049)(b:Nat)(us:List T3)(hus:us<:+T.ts)(bad:Bool)(hE:E0 T b):CallL Tryz.prog Z7j [RB T b us bad] [T.G] [.is (.pointer (some ⟨b,0,none⟩))] (fun z:Pz.St×List T3×Bool=>Rv (insertR T.e us) us bad z) (fun z=>[RB T b z.2.1 z.2.2]) (fun z=>.rep (StR 0 z.1)):=
CallL.of (fn:=Tryz.f33) Tryz.func33 (n:=75) rfl rfl rfl (fun _ _=>by kernel_rfl) fun E W hb0=>by
 refine vQ ?_;refine JO.alloc ZT rfl fun b2=>(vP [0,2] ?_);refine Jm rfl ?_;refine JO.callK (Lr:=[_]) (Zh T b0 o0 ha h9 b _ ?hs _ 1 qD Zaz) rfl qP qF qA ?_
 case hs=>exact qW
 intro z0 hz0;refine vD ?_;refine vP [0,2] ?_;refine Jm rfl ?_;refine JO.callK (Lr:=[_]) (ZY T b0 o0 ha h9 b _ ?hs _) rfl qP qF qA ?_
 case hs=>exact qW
 intro z1 hz1;have hz1s:z1.2.1<:+us:=hz1.suf.trans hz0.suf;refine vD ?_;refine Jq (Zd (cs:=[_,_,_,_,_,_,_,_,_,_,_,_,_,_]) Z1w (.cons rfl (.cons rfl (.cons rfl .nil))) rfl rfl) (JO.alloc ZT rfl fun b3=>(JO.m (Z2 rfl rfl qU (by exact Zb rfl rfl) (by first|exact Zb rfl rfl|exact ZF) Zo) (by rfl) ?_));refine vP [0,2,3] ?_;refine Jm rfl ?_;refine JO.callK (Lr:=[_,_]) (ZZ T b0 o0 ha h9 b _ ?hs _ s_lp) rfl qP qF qA ?_
 case hs=>exact qW
 intro _ _;refine vD ?_;refine vS [0,2,3,12] ?_;refine J.cutZN (fun x:List ByteArray×Option (Nat×List Value)×Nat×List T3×Bool=>[(0,.is (.pointer (some ⟨b,0,none⟩))),(2,.is (.pointer (some ⟨b2,0,none⟩))),(3,.is (.pointer (some ⟨b3,0,none⟩)))]) (fun x:List ByteArray×Option (Nat×List Value)×Nat×List T3×Bool=>RB T b x.2.2.2.1 x.2.2.2.2::⟨b3,Z3,.is (.agg #[.int .i64 3,.string z1.1,.string ⟨#[]⟩,.slice none 0 0,sliceO x.2.1 (x.1.map strE).length x.2.2.1,.slice none 0 0,.slice none 0 0,.slice none 0 0,.slice none 0 0,.slice none 0 0,.slice none 0 0,.int .i64 (-1),.slice none 0 0,.bool false])⟩::⟨b2,Z3,zSt⟩::ownO x.2.1 ZJ []) (fun x:List ByteArray×Option (Nat×List Value)×Nat×List T3×Bool=>Grows Cel.cs 1 (x.1.map strE) x.2.1 x.2.2.1/\x.2.2.2.1<:+us/\ ∀y:Pz.St×List T3×Bool,Rv (insRowsR T.e z1.1 x.1 x.2.2.2.1) x.2.2.2.1 x.2.2.2.2 y->Rv (insertR T.e us) us bad y) ?_ ?_
 · refine yC rfl (fun ht12=>?_) (fun ht12=>?_)
   rw[Z1e ht12];have hu1:z1.2.1.tail<:+T.ts:=(List.tail_suffix _).trans (hz1s.trans hus);refine vQ ?_;refine Ja rfl (vS [0,2,3,4] ?_);apply yk
   repeat apply yQ
   refine J.loopG (α:=List ByteArray×Option (Nat×List Value)×Nat×List T3×Bool×Bool) (fun x=>[(0,.is (.pointer (some ⟨b,0,none⟩))),(2,.is (.pointer (some ⟨b2,0,none⟩))),(3,.is (.pointer (some ⟨b3,0,none⟩))),(4,.is (.bool x.2.2.2.2.2))]) (fun x=>RB T b x.2.2.2.1 x.2.2.2.2.1::⟨b3,Z3,.is (.agg #[.int .i64 3,.string z1.1,.string ⟨#[]⟩,.slice none 0 0,sliceO x.2.1 (x.1.map strE).length x.2.2.1,.slice none 0 0,.slice none 0 0,.slice none 0 0,.slice none 0 0,.slice none 0 0,.slice none 0 0,.int .i64 (-1),.slice none 0 0,.bool false])⟩::⟨b2,Z3,zSt⟩::ownO x.2.1 ZJ []) (fun x=>fun _=>True) (fun x=>InvW nameP z1.2.1.tail z1.2.2 x.1 x.2.2.2.1 x.2.2.2.2.1 x.2.2.2.2.2/\Grows Cel.cs 1 (x.1.map strE) x.2.1 x.2.2.1) (fun x=>x.2.2.2.1.length+(if x.2.2.2.2.2 then 1 else 0)) ([],none,0,z1.2.1.tail,z1.2.2,true) [0,2,3,4] (.cons rfl (.cons rfl (.cons rfl (.cons rfl .nil)))) rfl (fun _=>trivial) ⟨InvW.start _ _ _,rfl⟩ fun⟨acc,st,cap,vs,bd,mo⟩ ⟨hI,hG⟩=>?_;try dsimp only
   try dsimp only at hI
   try dsimp only at hG
   refine vQ ?_;refine Jm rfl (Jm rfl (JO.tg rfl rfl rfl rfl rfl (fun hg=>Z1 (.inl rfl)) (JO.tg rfl rfl rfl rfl rfl (fun hg=>Z4 (qR rfl)) ?_)));refine JO.tg rfl rfl rfl rfl rfl (fun hg=>Z0 Ze (qR rfl)) ?_;refine JO.tg rfl rfl rfl rfl rfl (fun hg=>Z5 Z1O (qR rfl) rfl) ?_;refine JO.tg rfl rfl rfl rfl rfl (fun hg=>Z22 (qR rfl)) ?_;refine Jq (Zl rfl rfl rfl id) (vS [0,2,3,20] ?_);refine yC rfl (fun ht20=>?_) (fun ht20=>?_);apply yK;refine vN ?_;apply yk;obtain⟨rfl,rfl⟩:mo=true/\bd=false:=by simpa using ht20
   repeat apply yQ
   refine J.regBgm (G:={z:ByteArray×List T3×Bool // Rv (nameP vs) vs false z}) 3 5 (fun g=>.is (.string g.1.1)) (fun g=>[RB T b g.1.2.1 g.1.2.2]++(⟨b3,Z3,.is (.agg #[.int .i64 3,.string z1.1,.string ⟨#[]⟩,.slice none 0 0,sliceO st (acc.map strE).length cap,.slice none 0 0,.slice none 0 0,.slice none 0 0,.slice none 0 0,.slice none 0 0,.slice none 0 0,.int .i64 (-1),.slice none 0 0,.bool false])⟩::⟨b2,Z3,zSt⟩::ownO st ZJ [])) ([⟨b3,Z3,.is (.agg #[.int .i64 3,.string z1.1,.string ⟨#[]⟩,.slice none 0 0,sliceO st (acc.map strE).length cap,.slice none 0 0,.slice none 0 0,.slice none 0 0,.slice none 0 0,.slice none 0 0,.slice none 0 0,.int .i64 (-1),.slice none 0 0,.bool false])⟩]) rfl rfl rfl rfl hmx qK rfl qK (fun o ho=>by rw[List.mem_singleton.1 ho];exact List.mem_cons_of_mem _ List.mem_cons_self) (fun g o ho=>by rw[List.mem_singleton.1 ho];exact List.mem_cons_of_mem _ List.mem_cons_self) qK ?_;refine yz (Z0 Z1k rfl) (yz (Z5 Z2n rfl rfl) (yz (Z1 rfl) ?_));refine RT.bigg (Lq:=[⟨b3,Z3,.is (.agg #[.int .i64 3,.string z1.1,.string ⟨#[]⟩,.slice none 0 0,sliceO st (acc.map strE).length cap,.slice none 0 0,.slice none 0 0,.slice none 0 0,.slice none 0 0,.slice none 0 0,.slice none 0 0,.int .i64 (-1),.slice none 0 0,.bool false])⟩]) (Z3d (Lr:=⟨b3,Z3,.is (.agg #[.int .i64 3,.string z1.1,.string ⟨#[]⟩,.slice none 0 0,sliceO st (acc.map strE).length cap,.slice none 0 0,.slice none 0 0,.slice none 0 0,.slice none 0 0,.slice none 0 0,.slice none 0 0,.int .i64 (-1),.slice none 0 0,.bool false])⟩::⟨b2,Z3,zSt⟩::ownO st ZJ []) rfl (ZY T b0 o0 ha h9 b vs (hI.suf.trans hu1) false) (.refl _) qF qA) (fun g=>?_);refine yz (Z1V (p:=strE g.1.1) Z6M Z25 rfl qD rfl) ?_;apply yn;obtain⟨z2,hz2⟩:=g;try dsimp only
   refine JO.apO (ys:=[strE z2.1]) Z5A Cel.hlen yV hG rfl rfl (srcE (strE z2.1) Z1K) (by simp) (by rw[List.length_map];have:=hI.len;have:=(hu1).length_le;(try dsimp only at*);simp;omega) (by rw[List.length_map];have:=hI.len;have:=(hu1).length_le;simp;omega) rfl (fun st2 cap2 hG2=>?_);rw[ZcR]at hG2 ⊢;refine Jq (Z0 Z1k rfl) (JO.m (Z2B (cs':=[_,_,_,_,_,_,_,_,_,_,_,_,_,_]) (Z2m _ _ _) (Z2C _ _ _) rfl rfl (Z1R (.there .here)) rfl rfl Z3P) (Upd.same (Z1R (.there .here)) rfl) (JO.subL (L':=RB T b z2.2.1 z2.2.2::⟨b3,Z3,.is (.agg #[.int .i64 3,.string z1.1,.string ⟨#[]⟩,.slice none 0 0,sliceO st2 ((acc++[z2.1]).map strE).length cap2,.slice none 0 0,.slice none 0 0,.slice none 0 0,.slice none 0 0,.slice none 0 0,.slice none 0 0,.int .i64 (-1),.slice none 0 0,.bool false])⟩::⟨b2,Z3,zSt⟩::ownO st2 ZJ []) (Z4o (L:=[_,_,_])).symm (vP [0,2,3] ?_)));refine Jm rfl ?_;refine JO.callK (Lr:=_) (ZZ T b0 o0 ha h9 b _ ?hs _ ZW) rfl (.refl _) qF qA ?_
   case hs=>exact qW
   intro _ _;refine vD ?_;refine Ja rfl ?_;apply yI
   repeat refine JX.normal_block ?_
   refine JX.roundG (x:=(acc,st,cap,vs,false,true)) (acc++[z2.1],st2,cap2,skRB 5 ZW z2.2.1 z2.2.2,z2.2.2,isRB 5 ZW z2.2.1 z2.2.2) ?_ ?_ [0,2,3,4] ?_ ?_ ?_ ?_
   · exact⟨hI.step ZV hz2,hG2⟩
   · exact(by show _<vs.length+1;exact InvW.less hz2)
   · exact qS
   · exact qH
   · exact qG
   · exact fun _ _ _=>fun _ _=>trivial
   repeat apply yQ
   refine J.exit ?_
   repeat first|refine yH ?_|refine yM rfl ?_|refine yE ?_
   repeat first|apply yX|apply yB
   have hF:=hI.fin (by simpa using ht20);refine vQ ?_;refine Jm rfl ?_;refine JO.callK (Lr:=_) (Zh T b0 o0 ha h9 b _ ?hs _ 5 qD s_rp) rfl (.refl _) qF qA ?_
   case hs=>exact qW
   intro y hy;refine vD ?_;apply yI;refine JX.midZ (acc,st,cap,y.2.1,y.2.2) ?_ [0,2,3] ?_ ?_ ?_
   · exact⟨hG,hy.suf.trans (hI.suf.trans ((List.tail_suffix _).trans hz1s)),fun q hq=>by show Rv (insertR T.e us) us bad q;unfold insertR;exact hz0.bind (hz1.bind (Rv.ite_t ht12 (hF.bind (hy.bind hq))))⟩
   · exact qS
   · exact qH
   · exact qG
   apply yK;rw[Z19 ht12];refine JX.midZ (([]:List ByteArray),none,0,z1.2.1,z1.2.2) ?_ [0,2,3] ?_ ?_ ?_
   · exact⟨rfl,hz1s,fun q hq=>by show Rv (insertR T.e us) us bad q;unfold insertR;exact hz0.bind (hz1.bind (Rv.ite_f ht12 hq))⟩
   · exact qS
   · exact qH
   · exact qG
 · intro⟨ac,sn,cn,vn,bn⟩ ⟨hGn,hvs,hJ⟩
   try dsimp only
   refine vQ ?_;refine Jm rfl ?_;refine JO.callK (Lr:=_) (Zh T b0 o0 ha h9 b _ ?hs _ 1 qD Z5M) rfl (.refl _) qF qA ?_
   case hs=>exact hvs.trans hus
   intro z4 hz4;refine vD ?_;refine vS [0,2,3] ?_;have hu4:z4.2.1<:+T.ts:=hz4.suf.trans (hvs.trans hus);refine vQ ?_;refine Ja rfl (vS [0,2,3,5] ?_);apply yk
   repeat apply yQ
   refine J.loopH (α:=List (Cel rwE)×Option (Nat×List Value)×Nat×List T3×Bool×Bool) (fun x=>[(0,.is (.pointer (some ⟨b,0,none⟩))),(2,.is (.pointer (some ⟨b2,0,none⟩))),(3,.is (.pointer (some ⟨b3,0,none⟩))),(5,.is (.bool x.2.2.2.2.2))]) (fun x=>RB T b x.2.2.2.1 x.2.2.2.2.1::⟨b3,Z3,.is (.agg #[.int .i64 3,.string z1.1,.string ⟨#[]⟩,.slice none 0 0,sliceO sn (ac.map strE).length cn,sliceO x.2.1 x.1.length x.2.2.1,.slice none 0 0,.slice none 0 0,.slice none 0 0,.slice none 0 0,.slice none 0 0,.int .i64 (-1),.slice none 0 0,.bool false])⟩::⟨b2,Z3,zSt⟩::ownO x.2.1 Z2L (ownO sn ZJ [])) (fun x=>CelF rwE x.1) (fun x=>InvW (rowR T.e) z4.2.1 z4.2.2 (x.1.map Cel.x) x.2.2.2.1 x.2.2.2.2.1 x.2.2.2.2.2/\Grows Cel.cs 1 x.1 x.2.1 x.2.2.1) (fun x=>x.2.2.2.1.length+(if x.2.2.2.2.2 then 1 else 0)) ([],none,0,z4.2.1,z4.2.2,true) [0,2,3,5] (.cons rfl (.cons rfl (.cons rfl (.cons rfl .nil)))) rfl (fun X w hF=>fun w' hk=>CelF.nil w') ⟨InvW.start _ _ _,rfl⟩ fun⟨ps,st,cap,vs,bd,mo⟩ ⟨hI,hG⟩=>?_;try dsimp only
   try dsimp only at hI
   try dsimp only at hG
   refine vQ ?_;refine Jm rfl (Jm rfl (JO.tg rfl rfl rfl rfl rfl (fun hg=>Z1 (.inl rfl)) (JO.tg rfl rfl rfl rfl rfl (fun hg=>Z4 (qR rfl)) ?_)));refine JO.tg rfl rfl rfl rfl rfl (fun hg=>Z0 Ze (qR rfl)) ?_;refine JO.tg rfl rfl rfl rfl rfl (fun hg=>Z5 Z1O (qR rfl) rfl) ?_;refine JO.tg rfl rfl rfl rfl rfl (fun hg=>Z22 (qR rfl)) ?_;refine Jq (Zl rfl rfl rfl id) (vS [0,2,3,41] ?_);refine yC rfl (fun ht41=>?_) (fun ht41=>?_);apply yK;refine vN ?_;apply yk;obtain⟨rfl,rfl⟩:mo=true/\bd=false:=by simpa using ht41
   refine vQ ?_;refine Jm rfl ?_;refine JO.callK (Lr:=_) (Zh T b0 o0 ha h9 b _ ?hs _ 5 qD s_lp) rfl (.refl _) qF qA ?_
   case hs=>exact hI.suf.trans hu4
   intro y1 hy1;refine vD ?_;refine vS [0,2,3] ?_;refine J.regBgm (G:={q:{z:List Ex×List T3×Bool // Rv (exprsR T.e y1.2.1) y1.2.1 y1.2.2 z}×Cel rwE // q.2.x=q.1.1.1}) 3 5 (fun q=>TC q.1.2) (fun q=>[RB T b q.1.1.1.2.1 q.1.1.1.2.2]++(⟨b3,Z3,.is (.agg #[.int .i64 3,.string z1.1,.string ⟨#[]⟩,.slice none 0 0,sliceO sn (ac.map strE).length cn,sliceO st ps.length cap,.slice none 0 0,.slice none 0 0,.slice none 0 0,.slice none 0 0,.slice none 0 0,.int .i64 (-1),.slice none 0 0,.bool false])⟩::⟨b2,Z3,zSt⟩::ownO st Z2L (ownO sn ZJ []))) ([⟨b3,Z3,.is (.agg #[.int .i64 3,.string z1.1,.string ⟨#[]⟩,.slice none 0 0,sliceO sn (ac.map strE).length cn,sliceO st ps.length cap,.slice none 0 0,.slice none 0 0,.slice none 0 0,.slice none 0 0,.slice none 0 0,.int .i64 (-1),.slice none 0 0,.bool false])⟩]) rfl rfl rfl rfl hmx qK rfl qK (fun o ho=>by rw[List.mem_singleton.1 ho];exact List.mem_cons_of_mem _ List.mem_cons_self) (fun g o ho=>by rw[List.mem_singleton.1 ho];exact List.mem_cons_of_mem _ List.mem_cons_self) qK ?_;refine yz (Z0 Z1G rfl) (yz (Z5 Z1D rfl rfl) (yz (Z1 rfl) ?_));refine RT.bigg (Lq:=[⟨b3,Z3,.is (.agg #[.int .i64 3,.string z1.1,.string ⟨#[]⟩,.slice none 0 0,sliceO sn (ac.map strE).length cn,sliceO st ps.length cap,.slice none 0 0,.slice none 0 0,.slice none 0 0,.slice none 0 0,.slice none 0 0,.int .i64 (-1),.slice none 0 0,.bool false])⟩]) (BigOb.pick (f:=fun g:{z:List Ex×List T3×Bool // Rv (exprsR T.e y1.2.1) y1.2.1 y1.2.2 z}=>g.1.1) (Z3d (Lr:=⟨b3,Z3,.is (.agg #[.int .i64 3,.string z1.1,.string ⟨#[]⟩,.slice none 0 0,sliceO sn (ac.map strE).length cn,sliceO st ps.length cap,.slice none 0 0,.slice none 0 0,.slice none 0 0,.slice none 0 0,.slice none 0 0,.int .i64 (-1),.slice none 0 0,.bool false])⟩::⟨b2,Z3,zSt⟩::ownO st Z2L (ownO sn ZJ [])) rfl (ZeC T b0 o0 ha h9 b y1.2.1 (hy1.suf.trans (hI.suf.trans hu4)) y1.2.2 hE) (.refl _) qF qA)) (fun g=>?_);refine yz (Zc7 rfl (by simp[Op.operands]) (fun E v w _ h=>TC.is E v w h) (Z1V (p:=g.1.2) Zai Z4N rfl qD (.inr ⟨rfl,rfl⟩))) ?_;apply yn;obtain⟨⟨⟨z2,hz2⟩,p2⟩,hp2⟩:=g;try dsimp only at hp2 ⊢
   refine JO.tcF (s:=49) (p:=p2) rfl ?_;refine JO.apO (ys:=[p2]) Z6w Cel.hlen yV hG rfl rfl (srcE p2 Z1P) (by simp) (by have h1:=hI.len;have h2:=hu4.length_le;rw[List.length_map]at h1;simp;omega) (by have h1:=hI.len;have h2:=hu4.length_le;rw[List.length_map]at h1;simp;omega) rfl (fun st2 cap2 hG2=>?_);refine Jq (Z0 Z1G rfl) (JO.m (Z2B (cs':=[_,_,_,_,_,_,_,_,_,_,_,_,_,_]) (Z2m _ _ _) (Z2C _ _ _) rfl rfl (Z1R (.there .here)) rfl rfl Z4M) (Upd.same (Z1R (.there .here)) rfl) (JO.subL (L':=RB T b z2.2.1 z2.2.2::⟨b3,Z3,.is (.agg #[.int .i64 3,.string z1.1,.string ⟨#[]⟩,.slice none 0 0,sliceO sn (ac.map strE).length cn,sliceO st2 (ps++[p2]).length cap2,.slice none 0 0,.slice none 0 0,.slice none 0 0,.slice none 0 0,.slice none 0 0,.int .i64 (-1),.slice none 0 0,.bool false])⟩::⟨b2,Z3,zSt⟩::ownO st2 Z2L (ownO sn ZJ [])) Z9I (vP [0,2,3] ?_)));refine Jm rfl ?_;refine JO.callK (Lr:=_) (Zh T b0 o0 ha h9 b _ ?hs _ 5 qD s_rp) rfl (.refl _) qF qA ?_
   case hs=>exact hz2.suf.trans (hy1.suf.trans (hI.suf.trans hu4))
   intro y3 hy3;refine vD ?_;refine vP [0,2,3] ?_;refine Jm rfl ?_;refine JO.callK (Lr:=_) (ZZ T b0 o0 ha h9 b _ ?hs _ ZW) rfl (.refl _) qF qA ?_
   case hs=>exact hy3.suf.trans (hz2.suf.trans (hy1.suf.trans (hI.suf.trans hu4)))
   intro _ _;refine vD ?_;refine Ja rfl ?_;apply yI
   repeat refine JX.normal_block ?_
   refine JX.roundG (x:=(ps,st,cap,vs,false,true)) (ps++[p2],st2,cap2,skRB 5 ZW y3.2.1 y3.2.2,y3.2.2,isRB 5 ZW y3.2.1 y3.2.2) ?_ ?_ [0,2,3,5] ?_ ?_ ?_ ?_
   · exact⟨(by rw[List.map_append,List.map_singleton,hp2];exact hI.step (z:=(z2.1,y3.2.1,y3.2.2)) (Zhi T.e_dn) (hy1.bind (hz2.bind (Rv.map hy3 rfl)))),hG2⟩
   · exact(by show _<vs.length+1;exact InvW.less (part:=rowR T.e) (z:=(z2.1,y3.2.1,y3.2.2)) (hy1.bind (hz2.bind (Rv.map hy3 rfl))))
   · exact qS
   · exact qH
   · exact qG
   · exact fun X w hF=>fun w' hk=>CelF.snoc (hF _ qI w' hk) (hF _ qI w' hk)
   repeat apply yQ
   refine J.exit ?_
   repeat first|refine yH ?_|refine yM rfl ?_|refine yE ?_
   repeat first|apply yX|apply yB
   have hF:=hI.fin (by simpa using ht41);refine vQ ?_;refine Jm rfl (Jm rfl (Jq (Z4 rfl) (Jq (Z0 Ze rfl) (Jq (Z5 Z1O rfl rfl) (Jm rfl (JO.tg rfl rfl rfl rfl rfl (fun hg=>Z0 Z1k (.inl rfl)) (JO.tg rfl rfl rfl rfl rfl (fun hg=>Z5 Z2n (qR rfl) rfl) ?_)))))));refine JO.tg rfl rfl rfl rfl rfl (fun hg=>Z5e hGn Z1K (qR rfl)) ?_;refine JO.tg rfl rfl rfl rfl rfl (fun hg=>Z1r (qR rfl) (.inl rfl)) ?_;refine Jq (Zw rfl rfl rfl id) (Jm rfl (JO.tg rfl rfl rfl rfl rfl (fun hg=>Z0 Z1G (.inl rfl)) (JO.tg rfl rfl rfl rfl rfl (fun hg=>Z5 Z1D (qR rfl) rfl) ?_)));refine JO.tg rfl rfl rfl rfl rfl (fun hg=>Z5e hG Z1P (qR rfl)) ?_;refine JO.tg rfl rfl rfl rfl rfl (fun hg=>Z1r (qR rfl) (.inl rfl)) ?_;refine Jq (Zw rfl rfl rfl id) (Jq (Z4 rfl) (Jq (Z0 Ze rfl) (JO.m (Z9 (cs':=[_,_,_]) rfl rfl qU rfl rfl rfl rfl Z1A) (by rfl) ?_)));refine vS [2,3] ?_;refine J.freezeOMW (N:=0) (e:=Z2L) (sz:=1) (Nat.zero_le _) Cel.hlen hG yV (fun q hq=>by simp only[List.map_cons,List.map_nil,List.mem_singleton]at hq;exact⟨_,List.mem_cons_self,hq.symm⟩) rfl (by cases sn<;>rfl) ?_;refine J.freezeOMW (N:=0) (e:=ZJ) (sz:=1) (Nat.zero_le _) Cel.hlen hGn yV (fun q hq=>by simp only[List.map_cons,List.map_nil,List.mem_singleton]at hq;exact⟨_,List.mem_cons_self,hq.symm⟩) rfl rfl ?_;rw[hGn.sl.1,hG.sl.1];refine vQ ?_;refine Jq (ZU (cs:=[_,_,_,_,_,_,_,_,_,_,_,_,_,_]) Zj rfl rfl rfl) (JO.m (Z2 rfl rfl qU (by exact Zb rfl rfl) (by first|exact Zb rfl rfl|exact ZF) Zo) (by rfl) ?_);refine vS [2] ?_;refine vR ?_;refine JX.retLCs (Lr:=[_,_]) rfl ({stK 3 with tb:=z1.1,names:=ac,rows:=ps.map Cel.x},vs,((bd||decide ((16:Int)<(((ac.map strE).length:Nat):Int)))||decide ((32:Int)<((ps.length:Nat):Int)))) ?_ qP rfl rfl hb0 rfl Zj HasOwn.mem (ZQ rfl) (Sub.st rfl fun X w hf w' hk=>⟨Za (FrS.nil _),(by have h:=SlE.ofGr hGn (hf _ qI w' hk) (ZcU ac w') (hf _ qI w' hk);rwa [Zig,hGn.sl.1]at h),(by have h:=SlE.ofGr0 hG (hf _ qI w' hk) (hf (CelF rwE ps) qI w' hk);rwa [hG.sl.1]at h),Za trivial,Za trivial,Za (FrS.nil _),Z16,Za trivial,Z16⟩);show Rv (insertR T.e us) us bad _;refine hJ _ ?_;unfold insRowsR;refine hz4.bind (hF.bind ?_);rw[show(ac.map strE).length=ac.length from List.length_map _];dsimp only;rw[show(ps.map Cel.x).length=ps.length from List.length_map _];exact Rv.cap2 _ _ _
end Go.Proofs.YtbedigkncjbggaaGreatDoor
set_option maxRecDepth 20000
namespace Go.Proofs.YtbedigkncjbggaaGreatDoor
open Go Go.Vc
open Go.Pz
theorem Zha{s t:Option (Nat×List Value)}{e e':TypeId}{a b c:Own}:(a::b::c::ownO s e (ownO t e' [])).Perm (ownO t e' (a::b::c::ownO s e [])):=by
 cases s with
 |none=>
   cases t with
   |none=>exact .refl _
   |some p=>exact List.perm_append_comm (l₁:=[a,b,c]) (l₂:=[_])
 |some q=>
   cases t with
   |none=>exact .refl _
   |some p=>exact List.perm_append_comm (l₁:=[a,b,c,_]) (l₂:=[_])
theorem E0.T{T:Rk}{b:Nat}(hE:E0 T b)(us:List T3)(bad:Bool)(hus:us<:+T.ts):CallL Tryz.prog Z2W [RB T b us bad] [T.G] [.is (.pointer (some ⟨b,0,none⟩)),.is (.int .i64 0)] (fun z:Ex×List T3×Bool=>Rv (T.e us) us bad z) (fun z=>[RB T b z.2.1 z.2.2]) (fun z=>.rep (exE.T z.1)):=
 CallL.weakR (hE us bad hus) fun z E v w h=>by rw[<-Z5Z];exact h
abbrev PcL:=List (ByteArray×Cel exE)
abbrev pcN(l:PcL):List (Cel stE):=l.map fun p=>strE p.1
abbrev pcS(l:PcL):List (Cel exE):=l.map (·.2)
attribute [local irreducible] SlE ExsR
set_option maxHeartbeats 1000000 in
theorem Z79(T:Rk)(b0 o0:Nat)(ha:T.ts.length≠0->T.ad=some ⟨b0,o0,none⟩)(h9:T.ts.length<=2049)(b:Nat)(us:List T3)(hus:us<:+T.ts)(bad:Bool)(hE:E0 T b):CallL Tryz.prog Z7d [RB T b us bad] [T.G] [.is (.pointer (some ⟨b,0,none⟩))] (fun z:Pz.St×List T3×Bool=>Rv (updateR T.e us) us bad z) (fun z=>[RB T b z.2.1 z.2.2]) (fun z=>.rep (StR 0 z.1)):=
CallL.of (fn:=Tryz.f35) Tryz.func35 (n:=53) rfl rfl rfl (fun _ _=>by kernel_rfl) fun E W hb0=>by
 refine vQ ?_;refine JO.alloc ZT rfl fun b2=>(vP [0,2] ?_);refine Jm rfl ?_;refine JO.callK (Lr:=[_]) (ZY T b0 o0 ha h9 b _ ?hs _) rfl qP qF qA ?_
 case hs=>exact qW
 intro z1 hz1;refine vD ?_;refine Jq (Zd (cs:=[_,_,_,_,_,_,_,_,_,_,_,_,_,_]) Z1w (.cons rfl (.cons rfl (.cons rfl .nil))) rfl rfl) (JO.alloc ZT rfl fun b3=>(JO.m (Z2 rfl rfl qU (by exact Zb rfl rfl) (by first|exact Zb rfl rfl|exact ZF) Zo) (by rfl) ?_));refine vP [0,2,3] ?_;refine Jm rfl ?_;refine JO.callK (Lr:=[_,_]) (Zh T b0 o0 ha h9 b _ ?hs _ 1 qD Zc4) rfl qP qF qA ?_
 case hs=>exact qW
 intro z4 hz4;have hu4:z4.2.1<:+T.ts:=hz4.suf.trans (hz1.suf.trans hus);refine vD ?_;refine vP [0,2,3] ?_;refine Ja rfl (vS [0,2,3,4] ?_);apply yk
 repeat apply yQ
 refine J.loopH (α:=PcL×(Option (Nat×List Value)×Nat)×(Option (Nat×List Value)×Nat)×List T3×Bool×Bool) (fun x=>[(0,.is (.pointer (some ⟨b,0,none⟩))),(2,.is (.pointer (some ⟨b2,0,none⟩))),(3,.is (.pointer (some ⟨b3,0,none⟩))),(4,.is (.bool x.2.2.2.2.2))]) (fun x=>RB T b x.2.2.2.1 x.2.2.2.2.1::⟨b3,Z3,.is (.agg #[.int .i64 5,.string z1.1,.string ⟨#[]⟩,.slice none 0 0,sliceO x.2.1.1 (pcN x.1).length x.2.1.2,.slice none 0 0,.slice none 0 0,.slice none 0 0,.slice none 0 0,.slice none 0 0,.slice none 0 0,.int .i64 (-1),sliceO x.2.2.1.1 (pcS x.1).length x.2.2.1.2,.bool false])⟩::⟨b2,Z3,zSt⟩::ownO x.2.1.1 ZJ (ownO x.2.2.1.1 Z7 [])) (fun x=>CelF exE (pcS x.1)) (fun x=>InvW (setP T.e) z4.2.1 z4.2.2 (x.1.map pcX) x.2.2.2.1 x.2.2.2.2.1 x.2.2.2.2.2/\Grows Cel.cs 1 (pcN x.1) x.2.1.1 x.2.1.2/\Grows Cel.cs 8 (pcS x.1) x.2.2.1.1 x.2.2.1.2) (fun x=>x.2.2.2.1.length+(if x.2.2.2.2.2 then 1 else 0)) ([],(none,0),(none,0),z4.2.1,z4.2.2,true) [0,2,3,4] (.cons rfl (.cons rfl (.cons rfl (.cons rfl .nil)))) rfl (fun X w hF=>fun w' hk=>CelF.nil w') ⟨InvW.start _ _ _,rfl,rfl⟩ fun⟨l,⟨sn,cn⟩,⟨sx,cx⟩,vs,bd,mo⟩ ⟨hI,hGn,hGx⟩=>?_;try dsimp only
 try dsimp only at hI
 try dsimp only at hGn
 try dsimp only at hGx
 refine vQ ?_;refine Jm rfl (Jm rfl (JO.tg rfl rfl rfl rfl rfl (fun hg=>Z1 (.inl rfl)) (JO.tg rfl rfl rfl rfl rfl (fun hg=>Z4 (qR rfl)) ?_)));refine JO.tg rfl rfl rfl rfl rfl (fun hg=>Z0 Ze (qR rfl)) ?_;refine JO.tg rfl rfl rfl rfl rfl (fun hg=>Z5 Z1O (qR rfl) rfl) ?_;refine JO.tg rfl rfl rfl rfl rfl (fun hg=>Z22 (qR rfl)) ?_;refine Jq (Zl rfl rfl rfl id) (vS [0,2,3,17] ?_);refine yC rfl (fun ht17=>?_) (fun ht17=>?_);apply yK;refine vN ?_;apply yk;obtain⟨rfl,rfl⟩:mo=true/\bd=false:=by simpa using ht17
 repeat apply yQ
 refine J.regBgm (G:={z:ByteArray×List T3×Bool // Rv (nameP vs) vs false z}) 3 5 (fun g=>.is (.string g.1.1)) (fun g=>[RB T b g.1.2.1 g.1.2.2]++(⟨b3,Z3,.is (.agg #[.int .i64 5,.string z1.1,.string ⟨#[]⟩,.slice none 0 0,sliceO sn (pcN l).length cn,.slice none 0 0,.slice none 0 0,.slice none 0 0,.slice none 0 0,.slice none 0 0,.slice none 0 0,.int .i64 (-1),sliceO sx (pcS l).length cx,.bool false])⟩::⟨b2,Z3,zSt⟩::ownO sn ZJ (ownO sx Z7 []))) ([⟨b3,Z3,.is (.agg #[.int .i64 5,.string z1.1,.string ⟨#[]⟩,.slice none 0 0,sliceO sn (pcN l).length cn,.slice none 0 0,.slice none 0 0,.slice none 0 0,.slice none 0 0,.slice none 0 0,.slice none 0 0,.int .i64 (-1),sliceO sx (pcS l).length cx,.bool false])⟩]) rfl rfl rfl rfl hmx qK rfl qK (fun o ho=>by rw[List.mem_singleton.1 ho];exact List.mem_cons_of_mem _ List.mem_cons_self) (fun g o ho=>by rw[List.mem_singleton.1 ho];exact List.mem_cons_of_mem _ List.mem_cons_self) qK ?_;refine yz (Z0 Z1k rfl) (yz (Z5 Z2n rfl rfl) (yz (Z1 rfl) ?_));refine RT.bigg (Lq:=[⟨b3,Z3,.is (.agg #[.int .i64 5,.string z1.1,.string ⟨#[]⟩,.slice none 0 0,sliceO sn (pcN l).length cn,.slice none 0 0,.slice none 0 0,.slice none 0 0,.slice none 0 0,.slice none 0 0,.slice none 0 0,.int .i64 (-1),sliceO sx (pcS l).length cx,.bool false])⟩]) (Z3d (Lr:=⟨b3,Z3,.is (.agg #[.int .i64 5,.string z1.1,.string ⟨#[]⟩,.slice none 0 0,sliceO sn (pcN l).length cn,.slice none 0 0,.slice none 0 0,.slice none 0 0,.slice none 0 0,.slice none 0 0,.slice none 0 0,.int .i64 (-1),sliceO sx (pcS l).length cx,.bool false])⟩::⟨b2,Z3,zSt⟩::ownO sn ZJ (ownO sx Z7 [])) rfl (ZY T b0 o0 ha h9 b vs (hI.suf.trans hu4) false) (.refl _) qF qA) (fun g=>?_);refine yz (Z1V (p:=strE g.1.1) Z6M Z25 rfl qD rfl) ?_;apply yn;obtain⟨z2,hz2⟩:=g;try dsimp only
 refine JO.apO (ys:=[strE z2.1]) Z5A Cel.hlen yV hGn rfl rfl (srcE (strE z2.1) Z1K) (by simp) (by have h1:=hI.len;have h2:=hu4.length_le;rw[List.length_map]at h1;simp;omega) (by have h1:=hI.len;have h2:=hu4.length_le;rw[List.length_map]at h1;simp;omega) rfl (fun st2 cap2 hG2=>?_);refine Jq (Z0 Z1k rfl) (JO.m (Z2B (cs':=[_,_,_,_,_,_,_,_,_,_,_,_,_,_]) (Z2m _ _ _) (Z2C _ _ _) rfl rfl (Z1R (.there .here)) rfl rfl Z3P) (Upd.same (Z1R (.there .here)) rfl) (JO.subL (L':=RB T b z2.2.1 z2.2.2::⟨b3,Z3,.is (.agg #[.int .i64 5,.string z1.1,.string ⟨#[]⟩,.slice none 0 0,sliceO st2 (pcN l++[strE z2.1]).length cap2,.slice none 0 0,.slice none 0 0,.slice none 0 0,.slice none 0 0,.slice none 0 0,.slice none 0 0,.int .i64 (-1),sliceO sx (pcS l).length cx,.bool false])⟩::⟨b2,Z3,zSt⟩::ownO st2 ZJ (ownO sx Z7 [])) Z9I (vP [0,2,3] ?_)));refine Jm rfl ?_;refine JO.callK (Lr:=_) (Zh T b0 o0 ha h9 b _ ?hs _ 5 qD s_eq) rfl (.refl _) qF qA ?_
 case hs=>exact hz2.suf.trans (hI.suf.trans hu4)
 intro y1 hy1;refine vD ?_;refine vS [0,2,3] ?_;refine J.regBgm (G:={q:{z:Ex×List T3×Bool // Rv (T.e y1.2.1) y1.2.1 y1.2.2 z}×Cel exE // q.2.x=q.1.1.1}) 3 5 (fun q=>TC q.1.2) (fun q=>[RB T b q.1.1.1.2.1 q.1.1.1.2.2]++(⟨b3,Z3,.is (.agg #[.int .i64 5,.string z1.1,.string ⟨#[]⟩,.slice none 0 0,sliceO st2 (pcN l++[strE z2.1]).length cap2,.slice none 0 0,.slice none 0 0,.slice none 0 0,.slice none 0 0,.slice none 0 0,.slice none 0 0,.int .i64 (-1),sliceO sx (pcS l).length cx,.bool false])⟩::⟨b2,Z3,zSt⟩::ownO st2 ZJ (ownO sx Z7 []))) ([⟨b3,Z3,.is (.agg #[.int .i64 5,.string z1.1,.string ⟨#[]⟩,.slice none 0 0,sliceO st2 (pcN l++[strE z2.1]).length cap2,.slice none 0 0,.slice none 0 0,.slice none 0 0,.slice none 0 0,.slice none 0 0,.slice none 0 0,.int .i64 (-1),sliceO sx (pcS l).length cx,.bool false])⟩]) rfl rfl rfl rfl hmx qK rfl qK (fun o ho=>by rw[List.mem_singleton.1 ho];exact List.mem_cons_of_mem _ List.mem_cons_self) (fun g o ho=>by rw[List.mem_singleton.1 ho];exact List.mem_cons_of_mem _ List.mem_cons_self) qK ?_;refine yz (Z0 Z3j rfl) (yz (Z5 ZB rfl rfl) (yz (Z1 rfl) ?_));refine RT.bigg (Lq:=[⟨b3,Z3,.is (.agg #[.int .i64 5,.string z1.1,.string ⟨#[]⟩,.slice none 0 0,sliceO st2 (pcN l++[strE z2.1]).length cap2,.slice none 0 0,.slice none 0 0,.slice none 0 0,.slice none 0 0,.slice none 0 0,.slice none 0 0,.int .i64 (-1),sliceO sx (pcS l).length cx,.bool false])⟩]) (BigOb.pick (f:=fun g:{z:Ex×List T3×Bool // Rv (T.e y1.2.1) y1.2.1 y1.2.2 z}=>g.1.1) (Z3d (Lr:=⟨b3,Z3,.is (.agg #[.int .i64 5,.string z1.1,.string ⟨#[]⟩,.slice none 0 0,sliceO st2 (pcN l++[strE z2.1]).length cap2,.slice none 0 0,.slice none 0 0,.slice none 0 0,.slice none 0 0,.slice none 0 0,.slice none 0 0,.int .i64 (-1),sliceO sx (pcS l).length cx,.bool false])⟩::⟨b2,Z3,zSt⟩::ownO st2 ZJ (ownO sx Z7 [])) rfl (hE.T y1.2.1 y1.2.2 (hy1.suf.trans (hz2.suf.trans (hI.suf.trans hu4)))) (.refl _) qF qA)) (fun g=>?_);refine yz (Zc7 rfl (by simp[Op.operands]) (fun E v w _ h=>TC.is E v w h) (Z1V (p:=g.1.2) Z3F Zy rfl qD (.inr ⟨rfl,rfl⟩))) ?_;apply yn;obtain⟨⟨⟨z5,hz5⟩,p2⟩,hp2⟩:=g;try dsimp only at hp2 ⊢
 refine JO.tcF (s:=32) (p:=p2) rfl ?_;refine JO.apO (ys:=[p2]) Z1j Cel.hlen yV hGx rfl rfl (srcE p2 Zs) (by simp) (by have h1:=hI.len;have h2:=hu4.length_le;rw[List.length_map]at h1;simp;omega) (by have h1:=hI.len;have h2:=hu4.length_le;rw[List.length_map]at h1;simp;omega) rfl (fun st3 cap3 hG3=>?_);refine Jq (Z0 Z3j rfl) (JO.m (Z2B (cs':=[_,_,_,_,_,_,_,_,_,_,_,_,_,_]) (Z2m _ _ _) (Z2C _ _ _) rfl rfl (Z1R (.there .here)) rfl rfl Z1I) (Upd.same (Z1R (.there .here)) rfl) (JO.subL (L':=RB T b z5.2.1 z5.2.2::⟨b3,Z3,.is (.agg #[.int .i64 5,.string z1.1,.string ⟨#[]⟩,.slice none 0 0,sliceO st2 (pcN l++[strE z2.1]).length cap2,.slice none 0 0,.slice none 0 0,.slice none 0 0,.slice none 0 0,.slice none 0 0,.slice none 0 0,.int .i64 (-1),sliceO st3 (pcS l++[p2]).length cap3,.bool false])⟩::⟨b2,Z3,zSt⟩::ownO st2 ZJ (ownO st3 Z7 [])) Zha ?_));have hpn:pcN l++[strE z2.1]=pcN (l++[(z2.1,p2)]):=by simp[pcN]
 have hpx:pcS l++[p2]=pcS (l++[(z2.1,p2)]):=by simp[pcS]
 rw[hpn]at hG2 ⊢;rw[hpx]at hG3 ⊢;refine vP [0,2,3] ?_;refine Jm rfl ?_;refine JO.callK (Lr:=_) (ZZ T b0 o0 ha h9 b _ ?hs _ ZW) rfl (.refl _) qF qA ?_
 case hs=>exact hz5.suf.trans (hy1.suf.trans (hz2.suf.trans (hI.suf.trans hu4)))
 intro _ _;refine vD ?_;refine Ja rfl ?_;apply yI
 repeat refine JX.normal_block ?_
 refine JX.roundG (x:=(l,(sn,cn),(sx,cx),vs,false,true)) (l++[(z2.1,p2)],(st2,cap2),(st3,cap3),skRB 5 ZW z5.2.1 z5.2.2,z5.2.2,isRB 5 ZW z5.2.1 z5.2.2) ?_ ?_ [0,2,3,4] ?_ ?_ ?_ ?_
 · exact⟨(by rw[List.map_append,List.map_singleton,show pcX (z2.1,p2)=(z2.1,z5.1) by rw[<-hp2]];exact hI.step (z:=((z2.1,z5.1),z5.2.1,z5.2.2)) (Z6I T.e_dn) (hz2.bind (hy1.bind (Rv.map hz5 rfl)))),hG2,hG3⟩
 · exact(by show _<vs.length+1;exact InvW.less (part:=setP T.e) (z:=((z2.1,z5.1),z5.2.1,z5.2.2)) (hz2.bind (hy1.bind (Rv.map hz5 rfl))))
 · exact qS
 · exact qH
 · exact qG
 · exact fun X w hF=>fun w' hk=>(by rw[<-hpx];exact CelF.snoc (hF _ qI w' hk) (hF _ qI w' hk))
 repeat apply yQ
 refine J.exit ?_
 repeat first|refine yH ?_|refine yM rfl ?_|refine yE ?_
 repeat first|apply yX|apply yB
 have hF:=hI.fin (by simpa using ht17);refine vQ ?_;refine Jm rfl (JO.callK (Lr:=_) (Z3E T b0 o0 ha h9 b vs (hI.suf.trans hu4) bd hE) rfl (.refl _) qF qA ?_);intro w5 hw5;refine vD ?_;refine JO.openEv (s:=37) rfl (fun aw lw cw _ _=>?_);refine Jq (Z0 Z26 rfl) (JO.m (Z9 (cs':=[_,_,_,_,_,_,_,_,_,_,_,_,_,_]) rfl rfl qU rfl rfl rfl rfl Z1I) (by rfl) ?_);refine vP [0,2,3] ?_;refine Jm rfl (Jm rfl (Jq (Z4 rfl) (Jq (Z0 Ze rfl) (Jq (Z5 Z1O rfl rfl) (Jm rfl (JO.tg rfl rfl rfl rfl rfl (fun hg=>Z0 Z1k (.inl rfl)) (JO.tg rfl rfl rfl rfl rfl (fun hg=>Z5 Z2n (qR rfl) rfl) ?_)))))));refine JO.tg rfl rfl rfl rfl rfl (fun hg=>Z5e hGn Z1K (qR rfl)) ?_;refine JO.tg rfl rfl rfl rfl rfl (fun hg=>Z1r (qR rfl) (.inl rfl)) ?_;refine Jq (Zw rfl rfl rfl id) (Jq (Z4 rfl) (Jq (Z0 Ze rfl) (JO.m (Z9 (cs':=[_,_,_]) rfl rfl qU rfl rfl rfl rfl Z1A) (by rfl) ?_)));refine vS [2,3] ?_;refine J.freezeOMW (N:=0) (e:=ZJ) (sz:=1) (Nat.zero_le _) Cel.hlen hGn yV (fun q hq=>by simp only[List.map_cons,List.map_nil,List.mem_singleton]at hq;exact⟨_,List.mem_cons_self,hq.symm⟩) rfl (by cases sx<;>rfl) ?_;refine J.freezeOMW (N:=0) (e:=Z7) (sz:=8) (Nat.zero_le _) Cel.hlen hGx yV (fun q hq=>by simp only[List.map_cons,List.map_nil,List.mem_singleton]at hq;exact⟨_,List.mem_cons_self,hq.symm⟩) rfl rfl ?_;rw[hGn.sl.1,hGx.sl.1];refine vQ ?_;refine Jq (ZU (cs:=[_,_,_,_,_,_,_,_,_,_,_,_,_,_]) Zj rfl rfl rfl) (JO.m (Z2 rfl rfl qU (by exact Zb rfl rfl) (by first|exact Zb rfl rfl|exact ZF) Zo) (by rfl) ?_);refine vS [2] ?_;refine vR ?_;refine JX.retLCs (Lr:=[_,_]) rfl ({stK 5 with tb:=z1.1,names:=(l.map pcX).map (·.1),sets:=(l.map pcX).map (·.2),where_:=w5.1},w5.2.1,w5.2.2||decide (((16:Nat):Int)<(((pcN l).length:Nat):Int))) ?_ qP rfl rfl hb0 rfl Zj HasOwn.mem (ZQ rfl) (Sub.st rfl fun X w hf w' hk=>⟨Za (FrS.nil _),(by have h:=SlE.ofGr hGn (hf _ qI w' hk) (show CelF stE (pcN l) w' from fun p hp=>by obtain⟨c,_,rfl⟩:=List.mem_map.1 hp;rfl) (hf _ qI w' hk);rw[hGn.sl.1]at h;rwa [show(pcN l).map Cel.x=(l.map pcX).map (·.1) by simp[pcN]]at h),Za trivial,Za trivial,Za trivial,hf _ qI w' hk,Z16,Za trivial,(by have h:=SlE.exs (SlE.ofGr0 hGx (hf _ qI w' hk) (hf (CelF exE (pcS l)) qI w' hk));rw[hGx.sl.1]at h;rwa [show(pcS l).map Cel.x=(l.map pcX).map (·.2) by simp[pcS]]at h)⟩);show Rv (updateR T.e us) us bad _;unfold updateR;refine hz1.bind (hz4.bind (hF.bind (hw5.bind ?_)));rw[show(pcN l).length=(l.map pcX).length by simp[pcN]];exact Rv.cap _ _ _
end Go.Proofs.YtbedigkncjbggaaGreatDoor
namespace Go.Pz
open Go Go.Vc
theorem Zh9{us:List T3}{z:Src×List T3}(h:sourceP us=some z):z.1.on=[]:=by
 unfold sourceP at h;obtain⟨n,_,h⟩:=bnd h;refine Z3C h (fun h=>?_) fun h=>Z3C h (fun h=>?_) fun h=>?_
 · obtain⟨m,_,rfl⟩:=mpd h;rfl
 · obtain⟨m,_,rfl⟩:=mpd h;rfl
 · injection h with h;subst h;rfl
theorem Rv.src{us:List T3}{bad:Bool}{z:Src×List T3×Bool}(h:Rv (sourceP us) us bad z):Rv (sourceP us) us bad ((⟨z.1.tb,z.1.nm,[]⟩:Src),z.2.1,z.2.2):=by
 refine⟨h.1,h.2.1,fun hb=>?_⟩;rcases h.2.2 hb with⟨h1,h2⟩|⟨h1,h2⟩
 · refine .inl ⟨h1,?_⟩
   rw[h2];have h3:=Zh9 h2;obtain⟨⟨tb,nm,on⟩,r,bd⟩:=z;dsimp only at h3 ⊢;rw[h3]
 · exact .inr ⟨h1,h2⟩
structure InvJ (e:Ps Ex) (us0:List T3) (bad0:Bool) (acc:List Src) (us:List T3) (bad:Bool):Prop where
 suf:us<:+us0
 fin': ∀y:List Src×List T3×Bool,Rv (joinsC e us) us bad y->Rv (joinsC e us0) us0 bad0 (acc++y.1,y.2.1,y.2.2)
 cnt:bad=false->acc.length+us.length<=us0.length
 len:acc.length<=us0.length+1
theorem InvJ.start(e:Ps Ex)(us:List T3)(bad:Bool):InvJ e us bad [] us bad:=⟨List.suffix_refl _,fun _ h=>h,fun _=>by simp,by simp⟩
theorem InvJ.step{e:Ps Ex}(he:Dn e){us0 us:List T3}{bad0:Bool}{acc:List Src}(h:InvJ e us0 bad0 acc us false)(hj:isJ us=true){y1:Unit×List T3×Bool}(h1:Rv (wantP 1 Z35 (skT 1 Z15 us)) (skT 1 Z15 us) false y1){s:Src×List T3×Bool}(h2:Rv (sourceP y1.2.1) y1.2.1 y1.2.2 s)
   {y3:Unit×List T3×Bool}(h3:Rv (wantP 1 w_ON s.2.1) s.2.1 s.2.2 y3){z:Ex×List T3×Bool}(h4:Rv (e y3.2.1) y3.2.1 y3.2.2 z):InvJ e us0 bad0 (acc++[{s.1 with on:=[z.1]}]) z.2.1 z.2.2:=by
 have hp:Rv (joinP e (skT 1 Z15 us)) (skT 1 Z15 us) false (({s.1 with on:=[z.1]}:Src),z.2.1,z.2.2):=by
   unfold joinP;exact h1.bind (h2.bind (h3.bind (Rv.map h4 rfl)))
 have hk:skT 1 Z15 us<:+us:=Z2o _ _ _;have hc:=h.cnt rfl;refine⟨(hp.suf.trans hk).trans h.suf,fun y hy=>?_,fun hb=>?_,by rw[List.length_append,List.length_singleton];omega⟩
 · rw[List.append_assoc]
   refine h.fin' (({s.1 with on:=[z.1]}:Src)::y.1,y.2.1,y.2.2) ?_;rw[ZaI he hj];have h5:=hp.bind (f:=fun s=>(joinsC e s.2).map fun y=>(s.1::y.1,y.2)) (y:=(({s.1 with on:=[z.1]}:Src)::y.1,y.2.1,y.2.2)) (Rv.map (f:=fun y=>(({s.1 with on:=[z.1]}:Src)::y.1,y.2)) hy rfl);exact⟨h5.1.trans hk,h5.2.1,h5.2.2⟩
 · have h6:=(Z64 he _ _ (hp.ok hb).2).2
   have h7:=hk.length_le;rw[List.length_append,List.length_singleton];simp only at h6
   omega
theorem InvJ.bad{e:Ps Ex}{us0 us:List T3}{bad0:Bool}{acc:List Src}(h:InvJ e us0 bad0 acc us true):Rv (joinsC e us0) us0 bad0 (acc,us,true):=by
 have:=h.fin' ([],us,true) (Rv.badly (List.suffix_refl _) _)
 rwa [List.append_nil]at this
theorem InvJ.stop{e:Ps Ex}{us0 us:List T3}{bad0:Bool}{acc:List Src}(h:InvJ e us0 bad0 acc us false)(hj:isJ us=false):Rv (joinsC e us0) us0 bad0 (acc,us,false):=by
 have:=h.fin' ([],us,false) (by rw[ZbL hj];exact Rv.pure _)
 rwa [List.append_nil]at this
end Go.Pz
