/- The parser: queries. No condition. -/
import Derived.Test.YtbedigkncjbggaaGreatDoorXQ8
import Derived.Test.YtbedigkncjbggaaGreatDoorXG8
import Derived.Test.YtbedigkncjbggaaGreatDoorXQ5
import Derived.Test.YtbedigkncjbggaaGreatDoorXG7
import Derived.Test.YtbedigkncjbggaaGreatDoorXG6
import Derived.Test.YtbedigkncjbggaaGreatDoorXQ6
import Derived.Test.YtbedigkncjbggaaGreatDoorXQ1
set_option maxRecDepth 20000
namespace Go.Proofs.YtbedigkncjbggaaGreatDoor
open Go Go.Vc
open Go.Pz
abbrev srC(s:Pz.Src):Cel srE:=⟨s,[.string s.tb,.string s.nm,.slice none 0 0],rfl,by
 intro u hu;simp only[List.mem_cons,List.mem_nil_iff,or_false]at hu;rcases hu with rfl|rfl|rfl<;>rfl⟩
theorem ZjR{s:Pz.Src}(h:s.on=[])(w:World):CelR (srC s) w:=⟨_,rfl,by rw[h];exact Z23⟩
abbrev sjC(s:Pz.Src)(x:Ex)(a:Option Addr)(l c:Nat):Cel srE:=⟨{s with on:=[x]},[.string s.tb,.string s.nm,.slice a l c],rfl,by
 intro u hu;simp only[List.mem_cons,List.mem_nil_iff,or_false]at hu;rcases hu with rfl|rfl|rfl<;>rfl⟩
theorem ZjU{s:Pz.Src}{x:Ex}{a:Option Addr}{l c:Nat}{w:World}(h:ExsR [x] (.slice a l c) w):CelR (sjC s x a l c) w:=⟨_,rfl,h⟩
attribute [local irreducible] SlE ExsR
theorem Z8o(N:Nat)(T:Tk)(hc:T.ts.length<=T.cap)(h9:T.ts.length<=2049)(b:Nat)(ts:List T3)(hts:ts<:+T.ts)(e:Ps Ex)(hed:Dn e)(hex: ∀us,us<:+T.ts->us.length<=ts.length->CallP Tryz.prog Z1w [PB T b (us)] [T.G,AF] [.is (.pointer (some ⟨b,0,none⟩))] (e (us)=none) flt (fun z:Ex×List T3=>e (us)=some z) (fun z=>[PB T b z.2]) (fun z=>.rep (ExR z.1))):CallP Tryz.prog Z42 [PB T b ts] [T.G,AF,NH N] [.is (.pointer (some ⟨b,0,none⟩))] (queryP e ts=none) flt (fun z:Pz.St×List T3=>queryP e ts=some z) (fun z=>[PB T b z.2]) (fun z=>.rep (StR N z.1)):=
CallP.ofN (N:=N) (List.mem_cons_of_mem _ (List.mem_cons_of_mem _ List.mem_cons_self)) (fn:=Tryz.f60) Tryz.func60 (n:=95) rfl rfl rfl (fun _ _=>by kernel_rfl) fun E W hNW hb0=>by
 refine vQ ?_;refine JO.alloc Z1Q rfl fun b2=>(vP [0,2] ?_);refine Jq (Zg (cs:=[_,_,_,_,_,_,_,_,_,_,_,_,_,_]) Z38 (.cons rfl (.cons rfl .nil)) rfl rfl) (JO.alloc Z1Q rfl fun b3=>(JO.m (Z4 rfl rfl qU qC qO ZV) (by rfl) ?_));refine vP [0,2,3] ?_;refine Jm rfl ?_;refine JO.callPK (Lr:=[_,_]) (Zfp .it N T hc h9 b ts hts itE Zft rfl (itemP e) (Z4I hed) 16 Z5B (fun us hus hu=>Z97 N T hc h9 b us hus e (fun vs hvs hv=>hex vs hvs qM))) rfl (List.perm_append_comm (l₁:=[_,_]) (l₂:=[_])) qF qA (fun hbad=>?_) ?_
 · exact JX.pnI (by rw[Z2J,hbad];rfl)
 intro zi hzi;have hi:Lt zi.2 ts:=Z5s (Z4I hed) 16 _ _ hzi;refine vD ?_;refine JO.openEv (s:=8) rfl (fun a8 l8 c8 _ _=>?_);refine Jq (Z0 Z2h rfl) (JO.m (Zj (cs':=[_,_,_,_,_,_,_,_,_,_,_,_,_,_]) rfl rfl qU rfl rfl rfl rfl Z8z) (by rfl) ?_);refine vP [0,2,3] ?_;refine Jm rfl ?_;refine JO.callPK (Lr:=[_,_]) (Z21 T hc b (zi.2) (hi.1.trans hts) Z6E (by decide+kernel) (by decide+kernel) (asc (by decide+kernel))) rfl (.refl _) qF qA (fun hbad=>?_) ?_
 · exact JX.pnI (by rw[Z2J,hzi,Option.bind_some,hbad];rfl)
 intro zf hzf;have hf_:Lt zf.2 ts:=Lt.trans (Zi _ _ _ _ hzf) hi.1;refine vD ?_;refine vP [0,2,3] ?_;refine Jm rfl ?_;refine JO.callPK (Lr:=[_,_]) (Z5a T hc b zf.2 (hf_.1.trans hts)) rfl (.refl _) qF qA (fun hbad=>?_) ?_
 · exact JX.pnI (by rw[Z2J,hzi,Option.bind_some,hzf,Option.bind_some,hbad];rfl)
 intro zs hzs;have hs_:Lt zs.2 ts:=Lt.trans (Z3P _ _ hzs) hf_.1;have hon:=Zdr hzs;refine vD ?_;refine JO.buildE (p:=srC zs.1) Z9g Z4m rfl qD rfl rfl (fun b14=>?_);refine Jq (Z0 Z19 rfl) (JO.m (Zj (cs':=[_,_,_,_,_,_,_,_,_,_,_,_,_,_]) rfl rfl qU rfl rfl rfl rfl Z4j) (by rfl) ?_);refine vS [0,2,3] ?_;refine J.has (L':=[PB T b zs.2,⟨b3,_,_⟩,⟨b2,_,_⟩,⟨b14,_,_⟩]) (by repeat(first|exact .all|exact .nil|refine Has.own yV ?_|refine Has.cons (by repeat(first|exact .here|apply Pk.past|apply Pk.there)) ?_)) ?_;refine vQ ?_;refine Jm rfl (JO.callK (Lr:=_) (ZZ T hc b zs.2 (hs_.1.trans hts) ZW) rfl (.refl _) qF qA ?_);intro _ _;refine vD ?_;refine Ja rfl (vS [0,2,3,4] ?_);apply yk
 repeat apply yQ
 refine J.loopH (α:=List (Cel srE)×Option (Nat×List Value)×Nat×List T3) (fun x=>[(0,.is (.pointer (some ⟨b,0,none⟩))),(2,.is (.pointer (some ⟨b2,0,none⟩))),(3,.is (.pointer (some ⟨b3,0,none⟩))),(4,.is (.bool (isT 1 ZW x.2.2.2)))]) (fun x=>PB T b (skT 1 ZW x.2.2.2)::⟨b3,Z3,.is (.agg #[.int .i64 4,.string ⟨#[]⟩,.string ⟨#[]⟩,.slice none 0 0,.slice none 0 0,.slice none 0 0,.slice a8 l8 c8,sliceO x.2.1 x.1.length x.2.2.1,.slice none 0 0,.slice none 0 0,.slice none 0 0,.int .i64 (-1),.slice none 0 0,.bool false])⟩::⟨b2,Z3,.is (.agg #[.int .i64 0,.string ⟨#[]⟩,.string ⟨#[]⟩,.slice none 0 0,.slice none 0 0,.slice none 0 0,.slice none 0 0,.slice none 0 0,.slice none 0 0,.slice none 0 0,.slice none 0 0,.int .i64 0,.slice none 0 0,.bool false])⟩::ownO x.2.1 Z3o []) (fun x=>CelF srE x.1) (fun x=>x.2.2.2<:+ts/\x.1.length+x.2.2.2.length<=ts.length/\Grows Cel.cs 3 x.1 x.2.1 x.2.2.1/\joinI e [zs.1] zs.2=joinI e (x.1.map Cel.x) x.2.2.2) (fun x=>x.2.2.2.length) ([srC zs.1],some (b14,(srC zs.1).cs),1,zs.2) [0,2,3,4] (.cons rfl (.cons rfl (.cons rfl (.cons rfl .nil)))) rfl (fun X w hF=>fun w' hk p hp=>by rw[List.mem_singleton.1 hp];exact ZjR hon w') ⟨hs_.1,(show 1+zs.2.length<=ts.length by have:=hs_.2;omega),growE (srC zs.1),rfl⟩ fun⟨ps,st,cap,us⟩ ⟨hus,hlen,hG,hJ⟩=>?_;try dsimp only
 try dsimp only at st
 try dsimp only at cap
 try dsimp only at us
 try dsimp only at hus
 try dsimp only at hlen
 try dsimp only at hG
 try dsimp only at hJ
 have hut:us<:+T.ts:=hus.trans hts;have hvs:skT 1 ZW us<:+T.ts:=(Z2p _ _ _).trans hut;refine vQ ?_;refine Jm rfl (Jm rfl (JO.tg rfl rfl rfl rfl rfl (fun hg=>Z2 (.inl rfl)) (JO.tg rfl rfl rfl rfl rfl (fun hg=>Z5 (qR rfl)) ?_)));refine JO.tg rfl rfl rfl rfl rfl (fun hg=>Z0 Zz (qR rfl)) ?_;refine JO.tg rfl rfl rfl rfl rfl (fun hg=>Z1 ZJ (qR rfl) rfl) ?_;refine JO.tg rfl rfl rfl rfl rfl (fun hg=>ZE Z12 (qR rfl)) ?_;refine JO.tg rfl rfl rfl rfl rfl (fun hg=>Z13 (qR rfl) (.inl rfl)) ?_;refine JO.tg rfl rfl rfl rfl rfl (fun hg=>Z2 (qR rfl)) ?_;refine JO.tgg rfl rfl rfl rfl rfl (fun hg=>Z2 (.inl rfl)) (JO.tgg rfl rfl rfl rfl rfl (fun hg=>Z5 (qR rfl)) ?_);refine JO.tgg rfl rfl rfl rfl rfl (fun hg=>Z0 Zz (qR rfl)) ?_;refine JO.tgg rfl rfl rfl rfl rfl (fun hg=>Z1 ZJ (qR rfl) rfl) ?_;refine JO.tgg rfl rfl rfl rfl rfl (fun hg=>Z9 Z1m (qR rfl) rfl (.inl rfl) qM (Z3z (Z43 hg.2))) ?_;refine JO.tgg rfl rfl rfl rfl rfl (fun hg=>Z0 Z1K (qR rfl)) ?_;refine JO.tgg rfl rfl rfl rfl rfl (fun hg=>ZK (enc:=T3.cells) (sz:=3) (i:=T.k (skT 1 ZW us)) (j:=1) (y:=(skT 1 ZW us).headD t3D) (u:=.string ((skT 1 ZW us).headD t3D).t) Za (qR rfl) qI rfl (Tk.head hvs (Z43 hg.2)) (by rw[Tk.j_eq hc hvs (Z43 hg.2)];omega) rfl) ?_;refine JO.tgg rfl rfl rfl rfl rfl (fun hg=>Z1L (qR rfl) (.inl rfl)) ?_;refine JO.tg rfl rfl rfl rfl rfl (fun hg=>Zn (qR rfl) (.inl rfl) (.inl rfl) (fun h=>⟨hg,h⟩)) ?_;refine JO.tg rfl rfl rfl rfl rfl (fun hg=>Z2 (qR rfl)) ?_;refine JO.tgg rfl rfl rfl rfl rfl (fun hg=>Z2 (.inl rfl)) (JO.tgg rfl rfl rfl rfl rfl (fun hg=>Z5 (qR rfl)) ?_);refine JO.tgg rfl rfl rfl rfl rfl (fun hg=>Z0 Zz (qR rfl)) ?_;refine JO.tgg rfl rfl rfl rfl rfl (fun hg=>Z1 ZJ (qR rfl) rfl) ?_;refine JO.tgg rfl rfl rfl rfl rfl (fun hg=>Z9 Z1m (qR rfl) rfl (.inl rfl) qM (Z3z (Z43 ((Bool.and_eq_true _ _).mp hg.2).1))) ?_;refine JO.tgg rfl rfl rfl rfl rfl (fun hg=>Z0 Z1n (qR rfl)) ?_;refine JO.tgg rfl rfl rfl rfl rfl (fun hg=>ZK (enc:=T3.cells) (sz:=3) (i:=T.k (skT 1 ZW us)) (j:=0) (y:=(skT 1 ZW us).headD t3D) (u:=.int .i64 ((skT 1 ZW us).headD t3D).k) Zq (qR rfl) qI rfl (Tk.head hvs (Z43 ((Bool.and_eq_true _ _).mp hg.2).1)) (by rw[Tk.j_eq hc hvs (Z43 ((Bool.and_eq_true _ _).mp hg.2).1)];omega) rfl) ?_;refine JO.tgg rfl rfl rfl rfl rfl (fun hg=>Zu (qR rfl) (.inl rfl)) ?_;refine JO.tg rfl rfl rfl rfl rfl (fun hg=>Zn (qR rfl) (.inl rfl) (.inl rfl) (fun h=>⟨hg,h⟩)) ?_;refine Jq (ZF rfl rfl rfl id) (vS [0,2,3,46] ?_);refine yC rfl (fun ht46=>?_) (fun ht46=>?_)
 try simp only[yd,yf]at ht46
 apply yK;refine vN ?_;apply yk;have hyj:isJ us=true:=by rw[<-Ziw];exact ht46
 refine vQ ?_;refine Jm rfl ?_;refine JO.callPK (Lr:=_) (Z21 T hc b (skT 1 ZW us) hvs Z3c (by decide+kernel) (by decide+kernel) (asc (by decide+kernel))) rfl (.refl _) qF qA (fun hbad=>?_) ?_
 · exact JX.pnI (by rw[Z2J,hzi,Option.bind_some,hzf,Option.bind_some,hzs,Option.bind_some,hJ];rw[Z6v hed hyj];unfold joinP;rw[hbad];rfl)
 intro y1 hy1;have g1:Lt y1.2 us:=Lt.trans (Zi _ _ _ _ hy1) (Z2p _ _ _);refine vD ?_;refine vP [0,2,3] ?_;refine Jm rfl ?_;refine JO.callPK (Lr:=_) (Z5a T hc b y1.2 (g1.1.trans hut)) rfl (.refl _) qF qA (fun hbad=>?_) ?_
 · exact JX.pnI (by rw[Z2J,hzi,Option.bind_some,hzf,Option.bind_some,hzs,Option.bind_some,hJ];rw[Z6v hed hyj];unfold joinP;rw[hy1,Option.bind_some,hbad];rfl)
 intro y2 hy2;have g2:Lt y2.2 us:=Lt.trans (Z3P _ _ hy2) g1.1;refine vD ?_;refine JO.alloc Z2W rfl fun b5=>(JO.m (Z4 rfl rfl qU qC qO Z2s) (by rfl) ?_);refine vP [0,2,3,5] ?_;refine Jm rfl ?_;refine JO.callPK (Lr:=_) (Z21 T hc b (y2.2) (g2.1.trans hut) w_ON (by decide+kernel) (by decide+kernel) (asc (by decide+kernel))) rfl (.swap _ _ _) qF qA (fun hbad=>?_) ?_
 · exact JX.pnI (by rw[Z2J,hzi,Option.bind_some,hzf,Option.bind_some,hzs,Option.bind_some,hJ];rw[Z6v hed hyj];unfold joinP;rw[hy1,Option.bind_some,hy2,Option.bind_some,hbad];rfl)
 intro y3 hy3;have g3:Lt y3.2 us:=Lt.trans (Zi _ _ _ _ hy3) g2.1;refine vD ?_;refine vP [0,2,3,5] ?_;refine Jm rfl ?_;refine JO.callPK (Lr:=_) (hex y3.2 (g3.1.trans hut) (by have:=g3.2;omega)) rfl (.refl _) qF qA (fun hbad=>?_) ?_
 · exact JX.pnI (by rw[Z2J,hzi,Option.bind_some,hzf,Option.bind_some,hzs,Option.bind_some,hJ];rw[Z6v hed hyj];unfold joinP;rw[hy1,Option.bind_some,hy2,Option.bind_some,hy3,Option.bind_some,hbad];rfl)
 intro y4 hy4;have g4:Lt y4.2 us:=Lt.trans (hed _ _ hy4) g3.1;refine vD ?_;refine Jq (Z2b ZB rfl) (JO.open_ (s:=57) (R:=ExsR [y4.1]) rfl ?_);rintro v57 ⟨w57,h57⟩;obtain⟨a57,l57,c57,rfl⟩:=Z8E h57;refine Jq (Z0 Z2n rfl) (JO.m (Zj (cs':=[_,_,_]) rfl rfl qU rfl rfl rfl rfl Z2k) (by rfl) ?_);refine vP [0,2,3,5] ?_;refine Jq (Z0 Z19 rfl) (Jq (Z1 Z1b rfl rfl) (Jq (ZR (cs:=[_,_,_]) Z27 rfl rfl rfl) (Jq (Z2d (p:=sjC y2.1 y4.1 a57 l57 c57) Z9g Z4m rfl qD rfl) ?_)));refine JO.apO (ys:=[sjC y2.1 y4.1 a57 l57 c57]) Z5w Cel.hlen (.there (.there (.there (.there .here)))) hG rfl rfl (srcE _ Z2g) (by simp) (by show(ps.length+1)*56<=140737488355328;have:=hts.length_le;omega) (by show ps.length+1<=9223372036854775807;have:=hts.length_le;omega) rfl (fun st2 cap2 hG2=>?_);obtain⟨b63,cs63,rfl⟩:=ZbL hG2 (by simp);refine Jq (Z0 Z19 rfl) (JO.m (Zj (cs':=[_,_,_,_,_,_,_,_,_,_,_,_,_,_]) rfl rfl qU rfl rfl rfl rfl Z4j) (by rfl) ?_);refine vP [0,2,3] ?_;refine Jm rfl (JO.callK (Lr:=[_,_,_,_]) (ZZ T hc b y4.2 (g4.1.trans hut) ZW) rfl (.swap _ _ _) qF qA ?_);intro _ _;refine vD ?_;refine Ja rfl ?_;apply yI
 repeat refine JX.normal_block ?_
 refine JX.roundG (x:=(ps,st,cap,us)) (ps++[sjC y2.1 y4.1 a57 l57 c57],some (b63,cs63),cap2,y4.2) ?_ ?_ [0,2,3,4] ?_ ?_ ?_ ?_
 · exact⟨g4.1.trans hus,(by show(ps++[sjC y2.1 y4.1 a57 l57 c57]).length+y4.2.length<=ts.length;rw[List.length_append];show ps.length+1+y4.2.length<=ts.length;have:=g4.2;omega),hG2,(by rw[hJ,Z6v hed hyj,List.map_append];unfold joinP;rw[hy1,Option.bind_some,hy2,Option.bind_some,hy3,Option.bind_some,hy4];rfl)⟩
 · exact(by show y4.2.length<us.length;exact g4.2)
 · exact qS
 · exact(.cons .here (.cons (.there (.there .here)) (.cons (.there (.there .here)) (.cons .here .nil))))
 · exact qG
 · exact fun X w hF=>fun w' hk=>CelF.snoc (hF _ qI w' hk) (ZjU (hF _ qI w' hk))
 try simp only[yd,yf]at ht46
 repeat apply yQ
 refine J.exit ?_
 repeat first|refine yH ?_|refine yM rfl ?_|refine yE ?_
 repeat first|apply yX|apply yB
 have hno:isJ us=false:=by rw[<-Ziw];exact ht46
 have hni:isT 1 ZW us=false:=(Bool.or_eq_false_iff.1 hno).1;rw[Z37 hni];refine vQ ?_;refine Jm rfl (Jq (Z0 Z19 rfl) (Jq (Z1 Z1b rfl rfl) (Jq (Z6g hG Z2g rfl) (Jq (Z3U rfl rfl) ?_))));refine JO.callPK (Lr:=_) (ZP (.pointer (some ⟨b,0,none⟩)) (decide ((ps.length:Int)<=4))) rfl (Z3q _) Z3j qA (fun hbad=>?_) ?_
 · exact JX.pnI (by rw[Z2J,hzi,Option.bind_some,hzf,Option.bind_some,hzs,Option.bind_some,hJ,Z4U hno,Option.bind_some];unfold qTail;rw[if_neg (by rw[List.length_map];have:=of_decide_eq_false hbad;omega)])
 intro _ hle;refine vD ?_;refine vS [0,2,3] ?_;refine J.freezeOMW (e:=Z3o) (sz:=3) hNW Cel.hlen hG (.there (.there (.there .here))) (fun q hq=>by simp only[List.map_cons,List.map_nil,List.mem_singleton]at hq;exact⟨_,List.mem_cons_self,hq.symm⟩) rfl rfl ?_;rw[hG.sl.1];refine vQ ?_;refine Jm rfl ?_;refine JO.callPK (Lr:=_) (Z7i N T hc h9 b us hut e (fun vs hvs hv=>hex vs hvs qM)) rfl (.refl _) qF qA (fun hbad=>?_) ?_
 · exact JX.pnI (by rw[Z2J,hzi,Option.bind_some,hzf,Option.bind_some,hzs,Option.bind_some,hJ,Z4U hno,Option.bind_some];unfold qTail;rw[if_pos (by rw[List.length_map];have:=of_decide_eq_true hle;omega),hbad];rfl)
 intro zw hzw;have hxw:zw.2<:+ts:=(Z80 hed hzw).trans hus;refine vD ?_;refine JO.openEv (s:=72) rfl (fun a72 l72 c72 _ _=>?_);refine Jq (Z0 Z26 rfl) (JO.m (Zj (cs':=[_,_,_,_,_,_,_,_,_,_,_,_,_,_]) rfl rfl qU rfl rfl rfl rfl Z2k) (by rfl) ?_);refine vP [0,2,3] ?_;refine Jm rfl (JO.callK (Lr:=[_,_]) (ZZ T hc b zw.2 (hxw.trans hts) Z5C) rfl (.refl _) qF qA ?_);intro _ _;refine vD ?_;refine vS [0,2,3,75] ?_;refine J.cutZF (fun x:(List Ex×List T3)×Option Addr×Nat×Nat=>[(0,.is (.pointer (some ⟨b,0,none⟩))),(2,.is (.pointer (some ⟨b2,0,none⟩))),(3,.is (.pointer (some ⟨b3,0,none⟩)))]) (fun x:(List Ex×List T3)×Option Addr×Nat×Nat=>PB T b x.1.2::⟨b3,Z3,.is (.agg #[.int .i64 4,.string ⟨#[]⟩,.string ⟨#[]⟩,.slice none 0 0,.slice none 0 0,.slice none 0 0,.slice a8 l8 c8,.slice (adO st) ps.length (capO st cap),.slice a72 l72 c72,.slice x.2.1 x.2.2.1 x.2.2.2,.slice none 0 0,.int .i64 (-1),.slice none 0 0,.bool false])⟩::⟨b2,Z3,.is (.agg #[.int .i64 0,.string ⟨#[]⟩,.string ⟨#[]⟩,.slice none 0 0,.slice none 0 0,.slice none 0 0,.slice none 0 0,.slice none 0 0,.slice none 0 0,.slice none 0 0,.slice none 0 0,.int .i64 0,.slice none 0 0,.bool false])⟩::[]) (fun x:(List Ex×List T3)×Option Addr×Nat×Nat=>SlE exE noS x.1.1 (.slice x.2.1 x.2.2.1 x.2.2.2)) (fun x:(List Ex×List T3)×Option Addr×Nat×Nat=>groupP e zw.2=some x.1/\x.1.2<:+ts) ?_ ?_
 · refine yC rfl (fun ht75=>?_) (fun ht75=>?_)
   try simp only[yd,yf]at ht75
   have hgy:isT 1 Z5C zw.2=true:=ht75;rw[Z2C hgy];refine vQ ?_;refine Jm rfl ?_;refine JO.callPK (Lr:=[_,_]) (Z21 T hc b _ ((List.tail_suffix _).trans (hxw.trans hts)) w_BY (by decide+kernel) (by decide+kernel) (asc (by decide+kernel))) rfl (.refl _) qF qA (fun hbad=>?_) ?_
   · exact JX.pnI (by rw[Z2J,hzi,Option.bind_some,hzf,Option.bind_some,hzs,Option.bind_some,hJ,Z4U hno,Option.bind_some];unfold qTail;rw[if_pos (by rw[List.length_map];have:=of_decide_eq_true hle;omega),hzw,Option.bind_some,Zce hgy,hbad];rfl)
   intro zb hzb;refine vD ?_;have hxb:zb.2<:+ts:=(Zi _ _ _ _ hzb).1.trans ((List.tail_suffix _).trans hxw);refine vP [0,2,3] ?_;refine Jm rfl ?_;refine JO.callPK (Lr:=[_,_]) (Zfp .ex N T hc h9 b zb.2 (hxb.trans hts) exE Z4l rfl e hed 16 Z1w (fun us hus hu=>by have:=hex us hus (by have:=hxb.length_le;omega);simp only[Z8Z]at this;exact this.weak qF)) rfl (.refl _) qF qA (fun hbad=>?_) ?_
   · exact JX.pnI (by rw[Z2J,hzi,Option.bind_some,hzf,Option.bind_some,hzs,Option.bind_some,hJ,Z4U hno,Option.bind_some];unfold qTail;rw[if_pos (by rw[List.length_map];have:=of_decide_eq_true hle;omega),hzw,Option.bind_some,Zce hgy,hzb,Option.bind_some,hbad];rfl)
   intro zg hzg;have hxg:zg.2<:+ts:=(Z5s hed 16 _ _ hzg).1.trans hxb;refine vD ?_;refine JO.openEv (s:=79) rfl (fun a79 l79 c79 _ _=>?_);refine Jq (Z0 Z3p rfl) (JO.m (Zj (cs':=[_,_,_,_,_,_,_,_,_,_,_,_,_,_]) rfl rfl qU rfl rfl rfl rfl Z2k) (by rfl) ?_);apply yI;refine JX.midF ((zg,a79,l79,c79)) ?_ [0,2,3] ?_ ?_ ?_ ?_
   · exact⟨(by rw[Zce hgy,hzb,Option.bind_some];exact hzg),hxg⟩
   · exact qS
   · exact qH
   · exact qG
   · exact fun X w hF=>fun w' hk=>SlE.weak (hF _ qI w' hk) (fun _ _ _ _=>trivial)
   try simp only[yd,yf]at ht75
   apply yK;have hng:isT 1 Z5C zw.2=false:=ht75;rw[Z37 hng];refine JX.midF ((([],zw.2),none,0,0)) ?_ [0,2,3] ?_ ?_ ?_ ?_
   · exact⟨Zkx hng,hxw⟩
   · exact qS
   · exact qH
   · exact qG
   · exact fun X w hF=>fun w' hk=>Zw trivial
 · intro⟨⟨gl,gu⟩,ag,lg,cg⟩ ⟨hgr,hx18⟩
   try dsimp only
   refine vQ ?_;refine Jm rfl (JO.callK (Lr:=[_,_]) (ZZ T hc b gu (hx18.trans hts) Z4X) rfl (.refl _) qF qA ?_);intro _ _;refine vD ?_;refine vS [0,2,3,82] ?_;refine J.cutZF (fun x:(List Pz.Ky×List T3)×Option Addr×Nat×Nat=>[(0,.is (.pointer (some ⟨b,0,none⟩))),(2,.is (.pointer (some ⟨b2,0,none⟩))),(3,.is (.pointer (some ⟨b3,0,none⟩)))]) (fun x:(List Pz.Ky×List T3)×Option Addr×Nat×Nat=>PB T b x.1.2::⟨b3,Z3,.is (.agg #[.int .i64 4,.string ⟨#[]⟩,.string ⟨#[]⟩,.slice none 0 0,.slice none 0 0,.slice none 0 0,.slice a8 l8 c8,.slice (adO st) ps.length (capO st cap),.slice a72 l72 c72,.slice ag lg cg,.slice x.2.1 x.2.2.1 x.2.2.2,.int .i64 (-1),.slice none 0 0,.bool false])⟩::⟨b2,Z3,.is (.agg #[.int .i64 0,.string ⟨#[]⟩,.string ⟨#[]⟩,.slice none 0 0,.slice none 0 0,.slice none 0 0,.slice none 0 0,.slice none 0 0,.slice none 0 0,.slice none 0 0,.slice none 0 0,.int .i64 0,.slice none 0 0,.bool false])⟩::[]) (fun x:(List Pz.Ky×List T3)×Option Addr×Nat×Nat=>SlE kyE noS x.1.1 (.slice x.2.1 x.2.2.1 x.2.2.2)) (fun x:(List Pz.Ky×List T3)×Option Addr×Nat×Nat=>orderP e gu=some x.1/\x.1.2<:+ts) ?_ ?_
   · refine yC rfl (fun ht82=>?_) (fun ht82=>?_)
     try simp only[yd,yf]at ht82
     have hoy:isT 1 Z4X _=true:=ht82;rw[Z2C hoy];refine vQ ?_;refine Jm rfl ?_;refine JO.callPK (Lr:=[_,_]) (Z21 T hc b _ ((List.tail_suffix _).trans (hx18.trans hts)) w_BY (by decide+kernel) (by decide+kernel) (asc (by decide+kernel))) rfl (.refl _) qF qA (fun hbad=>?_) ?_
     · exact JX.pnI (by rw[Z2J,hzi,Option.bind_some,hzf,Option.bind_some,hzs,Option.bind_some,hJ,Z4U hno,Option.bind_some];unfold qTail;rw[if_pos (by rw[List.length_map];have:=of_decide_eq_true hle;omega),hzw,Option.bind_some,hgr,Option.bind_some,Zcr hoy,hbad];rfl)
     intro zp hzp;refine vD ?_;have hxp:zp.2<:+ts:=(Zi _ _ _ _ hzp).1.trans ((List.tail_suffix _).trans hx18);refine vP [0,2,3] ?_;refine Jm rfl ?_;refine JO.callPK (Lr:=[_,_]) (Zfp .ky N T hc h9 b zp.2 (hxp.trans hts) kyE Zej rfl (keyP e) (Z68 hed) 16 Z5H (fun us hus hu=>Z9m N T hc h9 b us hus e (fun{us z} h=>(hed us z h).1) (fun vs hvs hv=>hex vs hvs (by have:=hxp.length_le;omega)))) rfl (.refl _) qF qA (fun hbad=>?_) ?_
     · exact JX.pnI (by rw[Z2J,hzi,Option.bind_some,hzf,Option.bind_some,hzs,Option.bind_some,hJ,Z4U hno,Option.bind_some];unfold qTail;rw[if_pos (by rw[List.length_map];have:=of_decide_eq_true hle;omega),hzw,Option.bind_some,hgr,Option.bind_some,Zcr hoy,hzp,Option.bind_some,hbad];rfl)
     intro zo hzo;have hxo:zo.2<:+ts:=(Z5s (Z68 hed) 16 _ _ hzo).1.trans hxp;refine vD ?_;refine JO.openEv (s:=86) rfl (fun a86 l86 c86 _ _=>?_);refine Jq (Z0 Z1W rfl) (JO.m (Zj (cs':=[_,_,_,_,_,_,_,_,_,_,_,_,_,_]) rfl rfl qU rfl rfl rfl rfl Z9V) (by rfl) ?_);apply yI;refine JX.midF ((zo,a86,l86,c86)) ?_ [0,2,3] ?_ ?_ ?_ ?_
     · exact⟨(by rw[Zcr hoy,hzp,Option.bind_some];exact hzo),hxo⟩
     · exact qS
     · exact qH
     · exact qG
     · exact fun X w hF=>fun w' hk=>SlE.weak (hF _ qI w' hk) (fun _ _ _ _=>trivial)
     try simp only[yd,yf]at ht82
     apply yK;have hno2:isT 1 Z4X gu=false:=ht82;rw[Z37 hno2];refine JX.midF ((([],gu),none,0,0)) ?_ [0,2,3] ?_ ?_ ?_ ?_
     · exact⟨ZkA hno2,hx18⟩
     · exact qS
     · exact qH
     · exact qG
     · exact fun X w hF=>fun w' hk=>Zw trivial
   · intro⟨⟨ol,ou⟩,ao,lo,co⟩ ⟨hor,hx21⟩
     try dsimp only
     refine vQ ?_;refine Jm rfl (JO.callK (Lr:=[_,_]) (ZZ T hc b ou (hx21.trans hts) Z6a) rfl (.refl _) qF qA ?_);intro _ _;refine vD ?_;refine vS [0,2,3,89] ?_;refine J.cutZN (fun x:Int×List T3=>[(2,.is (.pointer (some ⟨b2,0,none⟩))),(3,.is (.pointer (some ⟨b3,0,none⟩)))]) (fun x:Int×List T3=>PB T b x.2::⟨b3,Z3,.is (.agg #[.int .i64 4,.string ⟨#[]⟩,.string ⟨#[]⟩,.slice none 0 0,.slice none 0 0,.slice none 0 0,.slice a8 l8 c8,.slice (adO st) ps.length (capO st cap),.slice a72 l72 c72,.slice ag lg cg,.slice ao lo co,.int .i64 (x.1),.slice none 0 0,.bool false])⟩::⟨b2,Z3,.is (.agg #[.int .i64 0,.string ⟨#[]⟩,.string ⟨#[]⟩,.slice none 0 0,.slice none 0 0,.slice none 0 0,.slice none 0 0,.slice none 0 0,.slice none 0 0,.slice none 0 0,.slice none 0 0,.int .i64 0,.slice none 0 0,.bool false])⟩::[]) (fun x:Int×List T3=>limitP ou=some x) ?_ ?_
     · refine yC rfl (fun ht89=>?_) (fun ht89=>?_)
       try simp only[yd,yf]at ht89
       have hly:isT 1 Z6a _=true:=ht89;rw[Z2C hly];refine vQ ?_;refine Jm rfl ?_;refine JO.callPK (Lr:=[_,_]) (Z3l T hc b _ ((List.tail_suffix _).trans (hx21.trans hts)) 3) rfl (.refl _) qF qA (fun hbad=>?_) ?_
       · exact JX.pnI (by rw[Z2J,hzi,Option.bind_some,hzf,Option.bind_some,hzs,Option.bind_some,hJ,Z4U hno,Option.bind_some];unfold qTail;rw[if_pos (by rw[List.length_map];have:=of_decide_eq_true hle;omega),hzw,Option.bind_some,hgr,Option.bind_some,hor,Option.bind_some,Zgu hly,hbad];rfl)
       intro zl hzl;refine vD ?_;refine Jq (Z4S (off:=2) qK rfl rfl) ?_;refine Jq (Z0 Z2O rfl) (JO.m (Zj (cs':=[_,_,_,_,_,_,_,_,_,_,_,_,_,_]) rfl rfl qU rfl rfl rfl rfl Z2x) (by rfl) ?_);apply yI;refine JX.midZ ((zl.1.n,zl.2)) ?_ [2,3] ?_ ?_ ?_
       · exact(by rw[Zgu hly,hzl];rfl)
       · exact qS
       · exact qH
       · exact qG
       try simp only[yd,yf]at ht89
       apply yK;have hnl:isT 1 Z6a ou=false:=ht89;rw[Z37 hnl];refine JX.midZ ((-1,ou)) ?_ [2,3] ?_ ?_ ?_
       · exact(Zl7 hnl)
       · exact qS
       · exact qH
       · exact qG
     · intro⟨lv,lu⟩ hlr
       try dsimp only
       refine vQ ?_;refine Jq (ZR (cs:=[_,_,_,_,_,_,_,_,_,_,_,_,_,_]) ZL rfl rfl rfl) (JO.m (Z4 rfl rfl qU qC qO ZV) (by rfl) ?_);refine vS [2] ?_;refine vR ?_;refine JX.toP ?_;exact JX.retLCs (Lr:=[_,_]) rfl ({stK 4 with items:=zi.1,from_:=ps.map Cel.x,where_:=zw.1,group:=gl,order:=ol,limit:=lv},lu) (by rw[Z2J,hzi,Option.bind_some,hzf,Option.bind_some,hzs,Option.bind_some,hJ,Z4U hno,Option.bind_some];unfold qTail;rw[if_pos (by rw[List.length_map];have:=of_decide_eq_true hle;omega),hzw,Option.bind_some,hgr,Option.bind_some,hor,Option.bind_some,hlr];rfl) (.refl _) rfl rfl hb0 rfl ZL HasOwn.mem (Z1o rfl) (Sub.st rfl fun X w hf w' hk=>⟨Zw (FrS.nil _),Zw (FrS.nil _),Zw trivial,SlE.weak (hf _ qI w' hk) (fun _ _ _ _=>trivial),(by show SlE srE noS (ps.map Cel.x) (.slice (adO st) ps.length (capO st cap)) w';rw[<-hG.sl.1];exact SlE.ofGr0 hG (hf _ qI w' hk) (hf _ qI w' hk)),hf _ qI w' hk,SlE.exs (hf (SlE exE noS gl (.slice ag lg cg)) qI w' hk),hf (SlE kyE noS ol (.slice ao lo co)) qI w' hk,Z23⟩)
end Go.Proofs.YtbedigkncjbggaaGreatDoor
set_option maxRecDepth 20000
namespace Go.Proofs.YtbedigkncjbggaaGreatDoor
open Go Go.Vc
open Go.Pz
theorem ZQ{N:Nat}{st:Pz.St}:Cnt (.rep (StR N st)) 14:=fun E v w h=>by
 obtain⟨vc,vn,vr,vi,vf,vw,vg,vo,vs,rfl,h1,h2,h3,h4,h5,h6,h7,h8,h9⟩:=(h:Pers E w (StR N st v)).now;have hs: ∀{α:Type} {En:Enc α} {G:GoS} {xs:List α} {v:Value},SlE En G xs v w->v.oneCell'=true:=fun h=>by
   obtain⟨ps,a,len,cap,_,rfl,_⟩:=h;rfl
 have hx: ∀{xs:List Ex} {v:Value},ExsR xs v w->v.oneCell'=true:=fun h=>by
   obtain⟨a,len,cap,rfl,_⟩:=h;rfl
 refine⟨rfl,fun u hu=>?_⟩;simp only[Value.cells,List.mem_cons,List.mem_nil_iff,or_false]at hu;rcases hu with rfl|rfl|rfl|rfl|rfl|rfl|rfl|rfl|rfl|rfl|rfl|rfl|rfl|rfl<;>first|rfl|exact hs qN|exact hx qN
theorem Zms{N:Nat}{st:Pz.St}: ∀E v w,(Ty.rep (StR N st)).p E v w->∃cs,v= .agg cs/\cs.size=14:=fun E v w h=>by
 obtain⟨vc,vn,vr,vi,vf,vw,vg,vo,vs,rfl,_⟩:=(h:Pers E w (StR N st v)).now;exact⟨_,rfl,rfl⟩
theorem JO.mapMkS{P:Program}{c:Ctx}{K:List (Nat×Ty)}{L:List Own}{Φ:List (World->Prop)}{Q:Exit->Act->World->Prop}{ops:Array Oper}{rest:List Oper}{d:Nat}{t ty:TypeId}{pos:String}{after:Array Edge}(hd:Nat.blt d c.n=true)(hn: ∀r,JO P c ((d,.is (.map (some r)))::K) (⟨r,0,.ob (sObj [] 0)⟩::L) Φ ops rest Q):JO P c K L Φ ops (⟨some d,.makeMap t none,ty,pos,after,none⟩::rest) Q:=JO.mapMk hd hn
theorem Zbs{k:Int}{bx:Nat}{X:Nat->Prop}{w:World}(h:Pers X w (PlF k (.func (.func Z3g) #[] #[.pointer (some ⟨bx,0,none⟩)]))):Pers X w (HeapIs bx [.int .i64 k] Z6z):=fun w' hk=>by
 obtain⟨by_,e,h1⟩:=h w' hk;injection e with _ _ e
 injection e with e
 injection e with e _
 injection e with e
 injection e with e
 injection e with e _
 subst e;exact h1
def stF(b7 b8 b9:Nat):SEs:=[(Z7u,fv Z7I,0),(Z7s,fv Z7U,1),(Z40,fv Z42,2),(Z7A,fv Z7L,3),(Z7x,fv Z7G,4),(Z9a,.func (.func Z3g) #[] #[.pointer (some ⟨b7,0,none⟩)],5),(Z7y,.func (.func Z3g) #[] #[.pointer (some ⟨b8,0,none⟩)],6),(Z5L,.func (.func Z3g) #[] #[.pointer (some ⟨b9,0,none⟩)],7)]
theorem Zjt{b7 b8 b9:Nat}{e:Ps Ex}{ts r1:List T3}{k1 n1:Int}{w:ByteArray}(hz:takeP 1 ts=some (⟨k1,w,n1⟩,r1))(h:(sGet w (stF b7 b8 b9)).isSome=false):stmtP e ts=none:=by
 have hne: ∀s,(s=Z7u\/s=Z7s\/s=Z40\/s=Z7A\/s=Z7x\/s=Z9a\/s=Z7y\/s=Z5L)->¬sq w s=true:=fun s hs hq=>by
  have:=ZaS hq;subst this;rcases hs with rfl|rfl|rfl|rfl|rfl|rfl|rfl|rfl<;>simp[stF,sGet]at h
 unfold stmtP;rw[hz,Option.bind_some];rw[if_neg (hne _ (by simp)),if_neg (hne _ (by simp)),if_neg (hne _ (by simp)),if_neg (hne _ (by simp)),if_neg (hne _ (by simp)),if_neg (hne _ (by simp)),if_neg (hne _ (by simp)),if_neg (hne _ (by simp))]
attribute [local irreducible] SlE ExsR
end Go.Proofs.YtbedigkncjbggaaGreatDoor
namespace Go.Pz
open Go Go.Vc
theorem Zeu{kids:List Ex}{a:Option Addr}{len:Nat}{X:Nat->Prop}{w:World}(h:Pers X w (KidsR kids a len)):
   ∃ps:List (Cel exE),ps.map Cel.x=kids/\Pers X w (RowG Cel.cs 8 ps a len)/\Pers X w (CelF exE ps):=by
 have h0:=h.now
 by_cases hn:len=0
 · have hk:kids=[]:=List.length_eq_zero_iff.1 (by rw[h0.1];exact hn)
   subst hk;exact⟨[],rfl,fun w' _=>⟨hn.symm,fun h=>absurd hn h⟩,fun w' _ p hp=>by cases hp⟩
 obtain⟨b,o,rfl,_⟩:=h0.2 hn;have hall: ∀i:Fin kids.length,∃cs:List Value,cs.length=8/\RowAt cs b (o+8*i.1) w/\Pers X w (ExR kids[i] (.agg cs.toArray)):=fun i=>ZbC h (List.getElem?_eq_getElem i.2)
 let f:Fin kids.length->List Value:=fun i=>Classical.choose (hall i)
 have hf: ∀i,(f i).length=8/\RowAt (f i) b (o+8*i.1) w/\Pers X w (ExR kids[i] (.agg (f i).toArray)):=fun i=>Classical.choose_spec (hall i);have hl:0<kids.length:=by rw[h0.1];omega
 have hX: ¬X b:=Zed (o:=o+8*0) fun w' hk=>by
   obtain⟨hl',hk'⟩:=h w' hk;obtain⟨b',o',e,hK⟩:=hk' hn;injection e with e
   injection e with e1 e2
   subst e1 e2;obtain⟨cs,_,h2,h3⟩:=Z9x kids b o w' 0 kids[0] hK (List.getElem?_eq_getElem hl);obtain⟨k,n,h4⟩:=Z5E h2;exact⟨k,n,h3 0 _ h4⟩
 obtain⟨C,t,fr,hC,_⟩: ∃(cs:Array Value) (t:TypeId) (fr:Nat×Nat),w.heap[b]? =some (.cells cs t fr)/\True:=by
   have h2:=hf ⟨0,hl⟩;obtain⟨k,n,h4⟩:=Z5E h2.2.2.now;obtain⟨cs,t,fr,q1,_⟩:=ZbG (h2.2.1 0 _ h4);exact⟨cs,t,fr,q1,trivial⟩
 refine⟨List.ofFn fun i:Fin kids.length=>⟨kids[i],f i,(hf i).1,ZbH (hf i).2.2.now⟩,?_,fun w' hk=>⟨by rw[List.length_ofFn];exact h0.1,fun _=>⟨b,o,rfl,fun i p hp=>?_⟩⟩,fun w' hk p hp=>?_⟩
 · refine List.ext_getElem (by simp) fun i h1 h2=>?_
   simp
 · rw[List.getElem?_ofFn]at hp
   split at hp
   · rename_i hi
     injection hp with hp
     subst hp;intro j v hj;have:=(hf ⟨i,hi⟩).2.1 j v hj;rw[Z1I hC]at this;rw[Z1I (hk.get hC hX)];exact this
   · cases hp
 · obtain⟨i,rfl⟩:=List.mem_ofFn.1 hp
   exact(hf i).2.2 w' hk
section
variable{P:Program}{c:Ctx}{K:List (Nat×Ty)}{L:List Own}{Φ:List (World->Prop)}{Q:Exit->Act->World->Prop}
theorem SA.more{X:Nat->Prop}{a:Act}{w:World}(hs:SA c K L Φ X a w)(Ψ:List (World->Prop))(hΨ: ∀F∈Ψ,Pers X w F):SA c K L (Ψ++Φ) X a w:=
 ⟨hs.n,hs.d,hs.wf,hs.k,hs.l,hs.ld,fun F hF=>by
  rcases List.mem_append.1 hF with hF|hF
  · exact hΨ F hF
  · exact hs.f F hF,hs.x,hs.xs,hs.keeps,hs.may⟩
theorem J.kidsC{x:Code}{kids:List Ex}{a:Option Addr}{len:Nat}(h:KidsR kids a len∈Φ)(hj: ∀ps:List (Cel exE),ps.map Cel.x=kids->J P c K L (RowG Cel.cs 8 ps a len::CelF exE ps::Φ) x Q):J P c K L Φ x Q:=by
 refine⟨fun X a' w hs=>?_⟩;obtain⟨ps,h1,h2,h3⟩:=Zeu (hs.f _ h);refine(hj ps h1).out X a' w (SA.more hs [_,_] fun F hF=>?_);simp only[List.mem_cons,List.mem_nil_iff,or_false]at hF;rcases hF with rfl|rfl
 · exact h2
 · exact h3
theorem ZkV{xs:List Ex}{v:Value}{X:Nat->Prop}{w:World}(h:Pers X w (ExsR xs v)): ∃(ps:List (Cel exE)) (a:Option Addr) (len cap:Nat),ps.map Cel.x=xs/\v= .slice a len cap/\ps.length=len/\(∃b o,len≠0->a=some ⟨b,o,none⟩)/\Pers X w (RowG Cel.cs 8 ps a len)/\Pers X w (CelF exE ps):=by
 obtain⟨a,len,cap,rfl,hk⟩:=h.now;have hp:Pers X w (KidsR xs a len):=fun w' hk=>by
   obtain⟨a',len',cap',e,h1⟩:=h w' hk;injection e with e1 e2 e3
   subst e1 e2 e3;exact h1
 obtain⟨ps,h1,h2,h3⟩:=Zeu hp;refine⟨ps,a,len,cap,h1,rfl,h2.now.1,?_,h2,h3⟩
 by_cases hn:len=0
 · exact⟨0,0,fun h=>absurd hn h⟩
 · obtain⟨b,o,e,_⟩:=h2.now.2 hn
   exact⟨b,o,fun _=>e⟩
theorem J.shapeX{x:Code}{xs:List Ex}{v:Value}(h:ExsR xs v∈Φ)(hj: ∀(ps:List (Cel exE)) (a:Option Addr) (len cap b o:Nat),ps.map Cel.x=xs->v= .slice a len cap->ps.length=len->(len≠0->a=some ⟨b,o,none⟩)->J P c K L (RowG Cel.cs 8 ps a len::CelF exE ps::Φ) x Q):J P c K L Φ x Q:=by
 refine⟨fun X a' w hs=>?_⟩;obtain⟨ps,a,len,cap,h1,h2,h3,⟨b,o,h4⟩,h5,h6⟩:=ZkV (hs.f _ h);refine(hj ps a len cap b o h1 h2 h3 h4).out X a' w (SA.more hs [_,_] fun F hF=>?_);simp only[List.mem_cons,List.mem_nil_iff,or_false]at hF;rcases hF with rfl|rfl
 · exact h5
 · exact h6
theorem J.shapeE{α:Type}{E:Enc α}{G:GoS}{x:Code}{xs:List α}{v:Value}(h:SlE E G xs v∈Φ)(hj: ∀(ps:List (Cel E)) (a:Option Addr) (len cap b o:Nat),ps.map Cel.x=xs->v= .slice a len cap->ps.length=len->(len≠0->a=some ⟨b,o,none⟩)->J P c K L (RowG Cel.cs E.sz ps a len::CelF E ps::Φ) x Q):J P c K L Φ x Q:=by
 refine⟨fun X a' w hs=>?_⟩;obtain⟨ps,a,len,cap,h1,h2,_,h3,⟨b,o,h4⟩,h5,h6,_⟩:=ZcD (hs.f _ h);refine(hj ps a len cap b o h1 h2 h3 h4).out X a' w (SA.more hs [_,_] fun F hF=>?_);simp only[List.mem_cons,List.mem_nil_iff,or_false]at hF;rcases hF with rfl|rfl
 · exact h5
 · exact h6
theorem JO.apA{α:Type}{en:α->List Value}{sz:Nat}{L':List Own}{d:Nat}{ops:Array Oper}{rest:List Oper}{ty t tx e:TypeId}{pos:String}{after:Array Edge}{s x:Operand}{bytes cap:Nat}{xs:List α}(ys:List α){st:Option (Nat×List Value)}{TX:Ty}{C:Option (Nat×List Value)->List Own}
   (hT:ApTy P t e sz bytes)(hen: ∀x,(en x).length=sz)(hC:Cx e L st C L')(hG:Grows en sz xs st cap)(h0:opTy K s=some (.is (sliceO st xs.length cap)))(hx:opTy K x=some TX)(hS: ∀L,SrcOf P L Φ sz tx TX ys.length (ys.flatMap en))(hfit:(xs.length+ys.length)*bytes<=140737488355328)(h63:xs.length+ys.length<=9223372036854775807)(hd:Nat.blt d c.n=true)
   (hn: ∀(st':Option (Nat×List Value)) (cap':Nat),Grows en sz (xs++ys) st' cap'->JO P c ((d,.is (sliceO st' (xs++ys).length cap'))::K) (C st') Φ ops rest Q):
   JO P c K L Φ ops (⟨some d,.call {callee:=.builtin .append,args:= #[s,x],argTypes:= #[t,tx]},ty,pos,after,none⟩::rest) Q:=by
 cases st with
 |some p=>exact JO.apSL ys hT hC hG h0 hx (hS _) hfit h63 hd fun p' cap' hG'=>hn _ _ hG'
 |none=>
   have hxs:xs=[]:=hG;subst hxs;simp only[List.length_nil,Nat.zero_add,List.nil_append]at hfit h63 hn;refine JO.subL hC.tl.perm (JO.apN ys hT h0 hx (hS _) hfit h63 hd fun st' cap' hG'=>?_);exact JO.subL (hC.back st') (hn _ _ hG')
end
end Go.Pz
set_option maxRecDepth 20000
namespace Go.Proofs.YtbedigkncjbggaaGreatDoor
open Go Go.Vc
open Go.Pz
abbrev hgK(xs:List Ex)(i:Nat):Nat:=hgts (xs.take i)
theorem ZhV(xs:List Ex)(x:Ex):hgts (xs++[x])=max (hgts xs) (hgt x):=by
 induction xs with
 |nil=>simp[hgts]
 |cons y ys ih=>rw[List.cons_append,hgts,hgts,ih];omega
theorem Zfj{xs:List Ex}{i:Nat}(h:i<xs.length):hgK xs (i+1)=max (hgK xs i) (hgt (xs.getD i ex0)):=by
 show hgts (xs.take (i+1))=_;rw[List.take_add_one,List.getElem?_eq_getElem h,Option.toList_some,ZhV,List.getD_eq_getElem?_getD,List.getElem?_eq_getElem h]
 rfl
theorem Z8C(x:Ex):hgt x=hgts x.KS+1:=by cases x;rw[hgt];rfl
theorem Z1l{xs:List Ex}{i:Nat}(h:i<xs.length):xs.getD i ex0∈xs:=by
 rw[List.getD_eq_getElem?_getD,List.getElem?_eq_getElem h];exact List.getElem_mem h
theorem Z1B{xs:List Ex}{i:Nat}(h:i<xs.length):xs[i]? =some (xs.getD i ex0):=by
 rw[List.getD_eq_getElem?_getD,List.getElem?_eq_getElem h];rfl
theorem Zaa(x:Ex)(hx:ect x<=4096)(ih: ∀y∈x.KS,CallTy Tryz.prog Z61 [.rep (ExR y)] (.is (.int .i64 (hgt y:Nat)))):CallTy Tryz.prog Z61 [.rep (ExR x)] (.is (.int .i64 (hgt x:Nat))):=
 CallTy.of (fn:=Tryz.f66) Tryz.func66 (n:=20) rfl rfl rfl (fun _ _=>by kernel_rfl) fun E W=>by
 have hlen:=Zby x.KS;rw[Z2M]at hx;have hhx:=Z89 x.KS;refine J.openA (s:=0) rfl (fun a0 l0 q0 b0 o0 hl0 ha0=>?_);subst hl0;refine vQ ?_;refine JO.box rfl rfl fun b1=>(Ja rfl (vP [1] ?_));refine Ja rfl (vP [1,3] ?_);refine Jq (Z0 Z1p rfl) (Jq (Z1 Zk rfl rfl) (Jq (ZE Zy rfl) (Jm rfl (vS [3,7,8,9] ?_))));apply yk
 repeat apply yQ
 refine J.loopG (α:=Nat) (fun i=>[(3,.is (.int .i64 (hgK x.KS i:Nat))),(7,.is (.slice a0 x.KS.length q0)),(8,.is (.int .i64 (x.KS.length:Nat))),(9,.is (.int .i64 (i:Nat)))]) (fun i=>[⟨b1,Zb,.is (.agg (exCells x.K x.VK x.VN x.VS x.TB x.NM x.SL a0 x.KS.length q0).toArray)⟩]) (fun i=>fun _=>True) (fun i=>i<=x.KS.length) (fun i=>x.KS.length-i) 0 [3,7,8,9] (.cons rfl (.cons rfl (.cons rfl (.cons rfl .nil)))) rfl (fun _=>trivial) qM fun i hi=>?_;refine vQ ?_;refine Jq (ZC rfl rfl) (vS [3,7,8,9,10] ?_);refine yC rfl (fun ht10=>?_) (fun ht10=>?_)
 try simp only[yd,yf]at ht10
 apply yK;refine vN ?_;apply yk;refine vQ ?_;refine Jq (Z9 ZO rfl (ha0 qM) rfl qM qM) ?_;refine Jq (Z1q (kid:=x.KS.getD i ex0) Z6 rfl qI (ha0 qM) (Z1B qM) qM) ?_;refine JO.alloc ZT rfl fun b5=>(JO.m (Z4 rfl rfl qU qC qO Zc) (by rfl) ?_);refine vP [3,5,7,8,9] ?_;refine Jm rfl (Jq (Z1J Z6 rfl) (Jq (Zo rfl (ih _ (Z1l qM)) (.one rfl .nil)) ?_));refine Jq (Zga (cc:=((hgK x.KS (i+1):Nat):Int)) rfl rfl (by rw[Zfj qM];split<;>omega)) ?_;refine Ja rfl (vP [3,7,8,9] ?_);refine Jq (Zv (cc:=((i+1:Nat):Int)) rfl rfl qM qM (by have:=hlen;omega)) ?_;refine Jm rfl ?_;apply yI
 repeat refine JX.normal_block ?_
 refine JX.roundG (x:=i) (i+1) ?_ ?_ [3,7,8,9] ?_ ?_ ?_ ?_
 · exact qM
 · exact qM
 · exact qS
 · exact qH
 · exact qG
 · exact fun _ _ _=>fun _ _=>trivial
 try simp only[yd,yf]at ht10
 repeat apply yQ
 refine J.exit ?_
 repeat first|refine yH ?_|refine yM rfl ?_|refine yE ?_
 refine vN ?_;apply yN;refine Jm rfl (Jq (Zv (cc:=((hgt x:Nat):Int)) rfl rfl (by rw[Z8C,show i=x.KS.length by omega,hgK,List.take_length];omega) (by have:=Z8C x;omega) (by have:=Z8C x;omega)) ?_);refine Ja rfl (vS [2] ?_);refine vR ?_;exact JX.ret1sub rfl rfl rfl (Sub.refl _)
theorem Z8K: ∀(n:Nat) (x:Ex),ect x<=n->ect x<=4096->CallTy Tryz.prog Z61 [.rep (ExR x)] (.is (.int .i64 (hgt x:Nat)))
 |0,x,h,_=>absurd h (by rw[Z2M];omega)
 |n+1,x,h,hx=>Zaa x hx fun y hy=>Z8K n y (by have:=Z3n hy;rw[Z2M]at h;omega) (by have:=Z3n hy;rw[Z2M]at hx;omega)
theorem Za5(x:Ex)(hx:ect x<=4096)(ih: ∀y∈x.KS,CallTy Tryz.prog Z5Y [.rep (ExR y)] (.is (.int .i64 (hgt y:Nat)))):CallTy Tryz.prog Z5Y [.rep (ExR x)] (.is (.int .i64 (hgt x:Nat))):=
 CallTy.of (fn:=Tryz.f16) Tryz.func16 (n:=22) rfl rfl rfl (fun _ _=>by kernel_rfl) fun E W=>by
 have hlen:=Zby x.KS;rw[Z2M]at hx;have hhx:=Z89 x.KS;refine J.openA (s:=0) rfl (fun a0 l0 q0 b0 o0 hl0 ha0=>?_);subst hl0;refine vQ ?_;refine JO.box rfl rfl fun b1=>(Ja rfl (vP [1] ?_));refine Ja rfl (vP [1,3] ?_);refine Ja rfl (vS [1,3,4] ?_);apply yk
 repeat apply yQ
 refine J.loopG (α:=Nat) (fun i=>[(1,.is (.pointer (some ⟨b1,0,none⟩))),(3,.is (.int .i64 (hgK x.KS i:Nat))),(4,.is (.int .i64 (i:Nat)))]) (fun i=>[⟨b1,Zb,.is (.agg (exCells x.K x.VK x.VN x.VS x.TB x.NM x.SL a0 x.KS.length q0).toArray)⟩]) (fun i=>fun _=>True) (fun i=>i<=x.KS.length) (fun i=>x.KS.length-i) 0 [1,3,4] (.cons rfl (.cons rfl (.cons rfl .nil))) rfl (fun _=>trivial) qM fun i hi=>?_;refine vQ ?_;refine Jm rfl (Jq (Z0 Z1p rfl) (Jq (Z1 Zk rfl rfl) (Jq (ZE Zy rfl) (Jq (ZC rfl rfl) (vS [1,3,4,9] ?_)))));refine yC rfl (fun ht9=>?_) (fun ht9=>?_)
 try simp only[yd,yf]at ht9
 apply yK;refine vN ?_;apply yk;refine vQ ?_;refine Jm rfl (Jq (Z0 Z1p rfl) (Jq (Z1 Zk rfl rfl) (Jm rfl (Jq (Z9 ZO rfl (ha0 qM) rfl qM qM) ?_))));refine Jq (Z1q (kid:=x.KS.getD i ex0) Z6 rfl qI (ha0 qM) (Z1B qM) qM) ?_;refine Jq (Zo rfl (ih _ (Z1l qM)) (.one rfl .nil)) ?_;refine Jq (Zga (cc:=((hgK x.KS (i+1):Nat):Int)) rfl rfl (by rw[Zfj qM];split<;>omega)) ?_;refine Ja rfl (vP [1,3,4] ?_);refine Jm rfl (Jq (Zv (cc:=((i+1:Nat):Int)) rfl rfl qM qM (by have:=hlen;omega)) ?_);refine Ja rfl ?_;apply yI
 repeat refine JX.normal_block ?_
 refine JX.roundG (x:=i) (i+1) ?_ ?_ [1,3,4] ?_ ?_ ?_ ?_
 · exact qM
 · exact qM
 · exact qS
 · exact qH
 · exact qG
 · exact fun _ _ _=>fun _ _=>trivial
 try simp only[yd,yf]at ht9
 repeat apply yQ
 refine J.exit ?_
 repeat first|refine yH ?_|refine yM rfl ?_|refine yE ?_
 refine vN ?_;apply yN;refine Jm rfl (Jq (Zv (cc:=((hgt x:Nat):Int)) rfl rfl (by rw[Z8C,show i=x.KS.length by omega,hgK,List.take_length];omega) (by have:=Z8C x;omega) (by have:=Z8C x;omega)) ?_);refine Ja rfl (vS [2] ?_);refine vR ?_;exact JX.ret1sub rfl rfl rfl (Sub.refl _)
theorem Z8D: ∀(n:Nat) (x:Ex),ect x<=n->ect x<=4096->CallTy Tryz.prog Z5Y [.rep (ExR x)] (.is (.int .i64 (hgt x:Nat)))
 |0,x,h,_=>absurd h (by rw[Z2M];omega)
 |n+1,x,h,hx=>Za5 x hx fun y hy=>Z8D n y (by have:=Z3n hy;rw[Z2M]at h;omega) (by have:=Z3n hy;rw[Z2M]at hx;omega)
theorem sz2{a b:ByteArray}(ha:a.data.toList.length<=4000000000000)(hb:b.data.toList.length<=4000000000000):a.size+b.size<=9223372036854775807:=by
 rw[<-Z18,<-Z18];omega
abbrev kT(x:Ex)(i:Nat):List ByteArray:=(x.KS.take i).map fun k=>bl (prO k)
theorem ZfQ{x:Ex}{i:Nat}(h:i<x.KS.length):kT x (i+1)=kT x i++[bl (prO (x.KS.getD i ex0))]:=by
 show((x.KS.take (i+1)).map _)=_;rw[List.take_add_one,List.getElem?_eq_getElem h,Option.toList_some,List.map_append,List.getD_eq_getElem?_getD,List.getElem?_eq_getElem h]
 rfl
theorem Z8y{x:Ex}{i n:Nat}(hn:n=x.KS.length)(hi:i<2):(kT x n++[em,em])[i]? =some (bl (opK x i)):=by
 subst hn;unfold opK kT;rw[List.take_length];cases x.KS with
 |nil=>match i,hi with
   |0,_=>rfl
   |1,_=>rfl
 |cons y l=>cases l with
   |nil=>match i,hi with
     |0,_=>rfl
     |1,_=>rfl
   |cons z l=>match i,hi with
     |0,_=>rfl
     |1,_=>rfl
theorem Zf(l k:List UInt8):bl l++bl k=bl (l++k):=by
 apply ByteArray.ext;apply Array.ext'
 simp
theorem Zmy{q:Int}(h5:5<=q)(h17:q<=17):([.string ⟨#[43]⟩,.string ⟨#[45]⟩,.string ⟨#[42]⟩,.string ⟨#[47]⟩,.string ⟨#[37]⟩,.string ⟨#[61]⟩,.string ⟨#[60,62]⟩,.string ⟨#[60]⟩,.string ⟨#[60,61]⟩,.string ⟨#[62]⟩,.string ⟨#[62,61]⟩,.string ⟨#[65,78,68]⟩,.string ⟨#[79,82]⟩]:List Value).toArray[(q-5).toNat]? =some (.string (bl (opS q))):=by
 have:q=5\/q=6\/q=7\/q=8\/q=9\/q=10\/q=11\/q=12\/q=13\/q=14\/q=15\/q=16\/q=17:=by omega
 rcases this with rfl|rfl|rfl|rfl|rfl|rfl|rfl|rfl|rfl|rfl|rfl|rfl|rfl<;>rfl
theorem ZjK{q:Int}(h0:20<=q)(h1:q<=23):([.string ⟨#[67,79,85,78,84]⟩,.string ⟨#[83,85,77]⟩,.string ⟨#[77,73,78]⟩,.string ⟨#[77,65,88]⟩]:List Value).toArray[(q-20).toNat]? =some (.string (aggW q)):=by
 have:q=20\/q=21\/q=22\/q=23:=by omega
 rcases this with rfl|rfl|rfl|rfl<;>rfl
theorem Zi0(x:Ex):Ex.mk x.K x.VK x.VN x.VS x.TB x.NM x.SL x.KS=x:=by cases x;rfl
def inK(x:Ex):List UInt8:=match x.KS with|[]=>[42]|y::_=>prE y
theorem ZkC{x:Ex}(h:0<x.KS.length):inK x=prE (x.KS.getD 0 ex0):=by
 unfold inK;cases hk:x.KS with
 |nil=>rw[hk]at h;cases h
 |cons y l=>rfl
theorem Zgc{x:Ex}(h:x.KS.length=0):inK x=[42]:=by
 unfold inK;rw[List.length_eq_zero_iff.1 h]
theorem ZkO{x:Ex}(hw:Wf nmOk x)(hx:ect x<=4096):(inK x).length<=20500000:=by
 unfold inK;cases hk:x.KS with
 |nil=>decide
 |cons y l=>
   have hm:y∈x.KS:=by rw[hk];exact List.mem_cons_self
   have h3:=Z3n hm;rw[Z2M]at hx;exact Z72 (Z76 hw y hm) qM
abbrev PX(x:Ex):Prop:=CallF Tryz.prog Z4V [GF,TF] [.rep (ExR x)] (.is (.string (bl (prE x))))
theorem ZjC{x:Ex}(h:0<x.KS.length)(ih: ∀y∈x.KS,PX y):CallF Tryz.prog Z4V [GF,TF] [.rep (ExR (x.KS.getD 0 ex0))] (.is (.string (bl (inK x)))):=by
 rw[ZkC h];exact ih _ (Z1l h)
theorem Zay(x:Ex)(hw:Wf nmOk x)(hx:ect x<=4096)(hP:PX x):CallF Tryz.prog ZbZ [GF,TF] [.rep (ExR x)] (.is (.string (bl (prO x)))):=
CallF.of (fn:=Tryz.f53) Tryz.func53 (n:=18) rfl rfl rfl (fun _ _=>by kernel_rfl) fun E W=>by
 have hpl:=Z72 hw hx;refine J.openA (s:=0) rfl (fun a0 l0 q0 b0 o0 hl0 ha0=>?_);subst hl0;refine vQ ?_;refine JO.box rfl rfl fun b1=>(Ja rfl (vS [1] ?_));refine J.reg0 hmx qK qK ?_;refine yz (Z0 Z1p rfl) (yz (Z1 Zk rfl rfl) (yz (ZE Zy rfl) (yz (Z13 rfl rfl) (yz (Z2 rfl) (yg rfl rfl rfl (fun hg=>Z0 Z1a (.inl rfl)) (yg rfl rfl rfl (fun hg=>Z1 Zq (qR rfl) rfl) ?_))))));refine yg rfl rfl rfl (fun hg=>ZC (qR rfl) (.inl rfl)) ?_;refine yz (Zn rfl rfl rfl id) ?_;apply yn;refine FinS.nil0 ?_;refine vS [1,11] ?_;refine yC rfl (fun ht11=>?_) (fun ht11=>?_)
 try simp only[yd,yf]at ht11
 refine vQ ?_;refine Jq (ZR (cs:=[_,_,_,_,_,_,_,_]) Z6 rfl rfl rfl) (Jq (ZN rfl (hP) qF (.sub rfl (Sub.ex_eq (Sub.exMk qI) (Zi0 x)) .nil)) ?_);refine Jq (Z7 (u:=bl (40::prE x)) rfl rfl (sz2 qZ qZ) (by exact Zf [40] _)) ?_;refine Jq (Z7 (u:=bl (40::prE x++[41])) rfl rfl (sz2 qZ qZ) (by exact Zf _ [41])) ?_;refine Ja rfl (vS [2] ?_);refine vR ?_;exact JX.ret1is rfl rfl (by have hb:big x=true:=(by unfold big;simpa using ht11);unfold prO parS;rw[if_pos hb];rfl)
 try simp only[yd,yf]at ht11
 apply yK;refine vN ?_;apply yN;refine Jq (ZR (cs:=[_,_,_,_,_,_,_,_]) Z6 rfl rfl rfl) (Jq (ZN rfl (hP) qF (.sub rfl (Sub.ex_eq (Sub.exMk qI) (Zi0 x)) .nil)) ?_);refine Ja rfl (vS [2] ?_);refine vR ?_;exact JX.ret1is rfl rfl (by have hb:big x=false:=(by unfold big;simpa using ht11);unfold prO parS;rw[if_neg (by rw[hb];simp)])
set_option maxHeartbeats 2000000 in
theorem Zb3(x:Ex)(hw:Wf nmOk x)(hx:ect x<=4096)(ih: ∀y∈x.KS,PX y):CallF Tryz.prog Z4V [GF,TF] [.rep (ExR x)] (.is (.string (bl (prE x)))):=
CallF.of (fn:=Tryz.f22) Tryz.func22 (n:=113) rfl rfl rfl (fun _ _=>by kernel_rfl) fun E W=>by
 have hlen:=Zby x.KS;have hx0:=hx;rw[Z2M]at hx0;have hl0_:=ZaO hw hx 0;have hl1_:=ZaO hw hx 1;have hpl:=Z72 hw hx;have htb:x.TB.data.toList.length<=2048/\x.NM.data.toList.length<=2048:=ZjL hw;obtain⟨htb1,htb2⟩:=htb;have htb3:(tx x.TB).length<=2048:=htb1;have htb4:(tx x.NM).length<=2048:=htb2;have hvn:=ZjT hw;have h2k:=ZlZ hw;have hpe:=Z4H x;have hop:=Zf4 x.K;have hag:(aggW x.K).data.toList.length<=5:=Zfb x.K;have hag2:(tx (aggW x.K)).length<=5:=hag;have hin:=ZkO hw hx;refine J.openA (s:=0) rfl (fun a0 l0 q0 b0 o0 hl0 ha0=>?_);subst hl0;refine vQ ?_;refine JO.box rfl rfl fun b1=>(Ja rfl (vP [1] ?_));refine Ja rfl (vP [1,3] ?_);refine Jq (Z0 Z1p rfl) (Jq (Z1 Zk rfl rfl) (Jq (ZE Zy rfl) (Jm rfl (vS [1,3,8,9,10] ?_))));apply yk
 repeat apply yQ
 refine J.loopG (α:=Nat×Option (Nat×List Value)×Nat) (fun z=>[(1,.is (.pointer (some ⟨b1,0,none⟩))),(3,.is (sliceO z.2.1 (kT x z.1).length z.2.2)),(8,.is (.slice a0 x.KS.length q0)),(9,.is (.int .i64 (x.KS.length:Nat))),(10,.is (.int .i64 (z.1:Nat)))]) (fun z=>ownO z.2.1 Zs [⟨b1,Zb,.is (.agg (exCells x.K x.VK x.VN x.VS x.TB x.NM x.SL a0 x.KS.length q0).toArray)⟩]) (fun z=>fun _=>True) (fun z=>z.1<=x.KS.length/\Grows strC 1 (kT x z.1) z.2.1 z.2.2) (fun z=>x.KS.length-z.1) (0,none,0) [1,3,8,9,10] (.cons rfl (.cons rfl (.cons rfl (.cons rfl (.cons rfl .nil))))) rfl (fun _=>trivial) ⟨by omega,rfl⟩ fun⟨i,st,cp⟩ ⟨hi,hG⟩=>?_;try dsimp only
 try dsimp only at st
 try dsimp only at cp
 try dsimp only at hi
 try dsimp only at hG
 refine vQ ?_;refine Jq (ZC rfl rfl) (vS [1,3,8,9,10,11] ?_);refine yC rfl (fun ht11=>?_) (fun ht11=>?_)
 try simp only[yd,yf]at ht11
 apply yK;refine vN ?_;apply yk;refine vQ ?_;refine Jq (Z9 ZO rfl (ha0 qM) rfl qM qM) ?_;refine Jq (Z1q (kid:=(x.KS.getD i ex0)) Z6 rfl qI (ha0 qM) (Z1B qM) qM) ?_;refine JO.alloc ZT rfl fun b5=>(JO.m (Z4 rfl rfl qU qC qO Zc) (by rfl) ?_);refine vP [1,3,5,8,9,10] ?_;refine Jm rfl (Jq (Z1J Z6 rfl) (Jq (ZN rfl (Zay (x.KS.getD i ex0) (Z76 hw _ (Z1l qM)) (by have:=Z3n (Z1l (xs:=x.KS) (i:=i) qM);omega) (ih _ (Z1l qM))) qF (.one rfl .nil)) ?_));refine Jq (Zx (cs:=[_]) ZS qM qM (.cons rfl .nil) rfl rfl rfl) ?_;have hkl:(kT x i).length=i:=by simp;omega
 refine JO.apO (ys:=[bl (prO (x.KS.getD i ex0))]) Z1i Z1j yV hG rfl rfl (fun L=>Z1M ZD rfl rfl) (by simp) (by rw[hkl];show(i+1)*16<=_;omega) (by rw[hkl];show i+1<=_;omega) rfl (fun st2 cp2 hG2=>?_);try dsimp only
 rw[<-ZfQ qM];refine Ja rfl (vP [1,3,8,9,10] ?_);refine Jq (Zv (cc:=((i+1:Nat):Int)) rfl rfl qM qM qM) ?_;refine Jm rfl ?_;apply yI
 repeat refine JX.normal_block ?_
 refine JX.roundG (x:=(i,st,cp)) (i+1,st2,cp2) ?_ ?_ [1,3,8,9,10] ?_ ?_ ?_ ?_
 · exact⟨by show i+1<=_;omega,by show Grows strC 1 (kT x (i+1)) _ _;rw[ZfQ qM];exact hG2⟩
 · exact(by show x.KS.length-(i+1)<x.KS.length-i;omega)
 · exact qS
 · exact qH
 · exact qG
 · exact fun _ _ _=>fun _ _=>trivial
 try simp only[yd,yf]at ht11
 repeat apply yQ
 refine J.exit ?_
 repeat first|refine yH ?_|refine yM rfl ?_|refine yE ?_
 refine vN ?_;apply yN;refine Jm rfl (Jq (Zx (cs:=[_,_]) ZS qM qM (.cons rfl (.cons rfl .nil)) rfl rfl rfl) ?_);have hkl:(kT x i).length=i:=by simp;omega
 refine JO.apO (ys:=[em,em]) Z1i Z1j yV hG rfl rfl (fun L=>Z1M ZD rfl rfl) (by simp) (by rw[hkl];show(i+2)*16<=_;omega) (by rw[hkl];show i+2<=_;omega) rfl (fun st3 cp3 hG3=>?_);try dsimp only
 refine Ja rfl (vS [1,3] ?_);have hix:i=x.KS.length:=by omega
 refine J.freezeO Z1j hG3 (e:=Zs) yV (fun _ h=>h) rfl rfl ?_;obtain⟨cap2,hso⟩:=Z88 hG3;obtain⟨b3,cs3,rfl⟩:=ZbL hG3 (by rw[List.length_append];show 0<_+2;omega);rw[hso];refine vQ ?_;refine Jq (Z0 Z1a rfl) (Jq (Z1 Zq rfl rfl) (vS [1,3,24] ?_));apply yk;refine vQ ?_;refine Jq (Zu rfl rfl) (Ja rfl (vS [1,3,24,25] ?_));refine yC rfl (fun ht25=>?_) (fun ht25=>?_)
 try simp only[yd,yf]at ht25
 refine vQ ?_;refine Jq (Z0 Z9U rfl) (Jq (ZR (cs:=[_,_,_]) Z4T rfl rfl rfl) (Jq (ZN rfl (ZeP ⟨x.VK,x.VN,x.VS⟩ hvn.1 hvn.2) qF qA) ?_));refine Ja rfl (vS [2] ?_);refine vR ?_;exact JX.ret1is rfl rfl (by rw[hpe,if_pos ht25];rfl)
 try simp only[yd,yf]at ht25
 refine vQ ?_;refine Jq (Zu rfl rfl) (Ja rfl (vS [1,3,24,30] ?_));refine yC rfl (fun ht30=>?_) (fun ht30=>?_)
 try simp only[yd,yf]at ht30
 refine vQ ?_;refine Jq (Z0 Z4q rfl) (Jq (Z1 Za rfl rfl) (Jq (Z4Z rfl rfl) (vS [1,34] ?_)));refine yC rfl (fun ht34=>?_) (fun ht34=>?_)
 try simp only[yd,yf]at ht34
 refine vQ ?_;refine Jq (Z0 Z4q rfl) (Jq (Z1 Za rfl rfl) (Jq (Z7 (u:=bl (tx x.TB++[46])) rfl rfl (sz2 qZ qZ) (by exact Zf (tx x.TB) [46])) ?_));refine Jq (Z0 Z3H rfl) (Jq (Z1 Za rfl rfl) (Jq (Z7 (u:=bl (tx x.TB++[46]++tx x.NM)) rfl rfl (sz2 qZ qZ) (by exact Zf _ (tx x.NM))) ?_));refine Ja rfl (vS [2] ?_);refine vR ?_;exact JX.ret1is rfl rfl (by rw[hpe,if_neg (by rw[ht25];simp),if_pos ht30,if_neg (by rw[<-Z1G];simpa using ht34)];simp)
 try simp only[yd,yf]at ht34
 apply yK;refine vN ?_;apply yN;refine Jq (Z0 Z3H rfl) (Jq (Z1 Za rfl rfl) (Ja rfl (vS [2] ?_)));refine vR ?_;exact JX.ret1is rfl rfl (by rw[hpe,if_neg (by rw[ht25];simp),if_pos ht30,if_pos (by rw[<-Z1G];simpa using ht34)])
 try simp only[yd,yf]at ht30
 refine vQ ?_;refine Jq (Zu rfl rfl) (Ja rfl (vS [1,3,24,43] ?_));refine yC rfl (fun ht43=>?_) (fun ht43=>?_)
 try simp only[yd,yf]at ht43
 refine vQ ?_;refine Jm rfl (Jq (Z9 Z1Y rfl rfl rfl qM (by rw[List.length_append];show(0:Int)<((_+2:Nat):Int);omega)) ?_);refine Jq (ZK (enc:=strC) (sz:=1) (i:=0) (j:=0) (y:=bl (opK x 0)) (u:=.string (bl (opK x 0))) Za rfl qI rfl (Z8y hix qD) rfl rfl) ?_;refine Jq (Z7 (u:=bl (45::opK x 0)) rfl rfl (sz2 qZ qZ) (by exact Zf [45] _)) ?_;refine Ja rfl (vS [2] ?_);refine vR ?_;exact JX.ret1is rfl rfl (by rw[hpe,if_neg (by rw[ht25];simp),if_neg (by rw[ht30];simp),if_pos ht43])
 try simp only[yd,yf]at ht43
 refine vQ ?_;refine Jq (Zu rfl rfl) (Ja rfl (vS [1,3,24,49] ?_));refine yC rfl (fun ht49=>?_) (fun ht49=>?_)
 try simp only[yd,yf]at ht49
 refine vQ ?_;refine Jm rfl (Jq (Z9 Z1Y rfl rfl rfl qM (by rw[List.length_append];show(0:Int)<((_+2:Nat):Int);omega)) ?_);refine Jq (ZK (enc:=strC) (sz:=1) (i:=0) (j:=0) (y:=bl (opK x 0)) (u:=.string (bl (opK x 0))) Za rfl qI rfl (Z8y hix qD) rfl rfl) ?_;refine Jq (Z7 (u:=bl ([78,79,84]++32::opK x 0)) rfl rfl (sz2 qZ qZ) (by exact Zf [78,79,84,32] _)) ?_;refine Ja rfl (vS [2] ?_);refine vR ?_;exact JX.ret1is rfl rfl (by rw[hpe,if_neg (by rw[ht25];simp),if_neg (by rw[ht30];simp),if_neg (by rw[ht43];simp),if_pos ht49])
 try simp only[yd,yf]at ht49
 refine vQ ?_;refine Jq (Zu rfl rfl) (Ja rfl (vS [1,3,24,55] ?_));refine yC rfl (fun ht55=>?_) (fun ht55=>?_)
 try simp only[yd,yf]at ht55
 refine vQ ?_;refine Jm rfl (Jq (Z9 Z1Y rfl rfl rfl qM (by rw[List.length_append];show(0:Int)<((_+2:Nat):Int);omega)) ?_);refine Jq (ZK (enc:=strC) (sz:=1) (i:=0) (j:=0) (y:=bl (opK x 0)) (u:=.string (bl (opK x 0))) Za rfl qI rfl (Z8y hix qD) rfl rfl) ?_;refine Jq (Z7 (u:=bl (opK x 0++[32,73,83,32,78,85,76,76])) rfl rfl (sz2 qZ qZ) (by exact Zf _ [32,73,83,32,78,85,76,76])) ?_;refine Ja rfl (vS [2] ?_);refine vR ?_;exact JX.ret1is rfl rfl (by rw[hpe,if_neg (by rw[ht25];simp),if_neg (by rw[ht30];simp),if_neg (by rw[ht43];simp),if_neg (by rw[ht49];simp),if_pos ht55])
 try simp only[yd,yf]at ht55
 refine vQ ?_;refine Jq (Zu rfl rfl) (Ja rfl (vS [1,3,24,61] ?_));refine yC rfl (fun ht61=>?_) (fun ht61=>?_)
 try simp only[yd,yf]at ht61
 refine vQ ?_;refine Jm rfl (Jq (Z9 Z1Y rfl rfl rfl qM (by rw[List.length_append];show(0:Int)<((_+2:Nat):Int);omega)) ?_);refine Jq (ZK (enc:=strC) (sz:=1) (i:=0) (j:=0) (y:=bl (opK x 0)) (u:=.string (bl (opK x 0))) Za rfl qI rfl (Z8y hix qD) rfl rfl) ?_;refine Jq (Z7 (u:=bl (opK x 0++[32,73,83,32,78,79,84,32,78,85,76,76])) rfl rfl (sz2 qZ qZ) (by exact Zf _ [32,73,83,32,78,79,84,32,78,85,76,76])) ?_;refine Ja rfl (vS [2] ?_);refine vR ?_;exact JX.ret1is rfl rfl (by rw[hpe,if_neg (by rw[ht25];simp),if_neg (by rw[ht30];simp),if_neg (by rw[ht43];simp),if_neg (by rw[ht49];simp),if_neg (by rw[ht55];simp),if_pos ht61])
 try simp only[yd,yf]at ht61
 refine vQ ?_;refine Jq (Zu rfl rfl) (Ja rfl (vS [1,3,24,67] ?_))
 first|apply J.or [1,3] rfl (.cons rfl (.cons rfl .nil))|apply J.orN [1,3] rfl qS
 · intro ht67
   refine vQ ?_;refine Jq (Zu rfl rfl) (Ja rfl ?_);apply yI;refine JX.next ?_;apply J.orT [1,3] rfl qS
   · intro ht67
     refine vQ ?_;refine Jq (Zu rfl rfl) (Ja rfl ?_);apply yI;refine JX.next ?_;apply J.orT [1,3] rfl qS
     · intro ht67
       refine vQ ?_;refine Jq (Zu rfl rfl) (Ja rfl ?_);apply yI;exact JX.mids [67,1,3] qS
 repeat apply yQ
 refine yC rfl (fun ht67=>?_) (fun ht67=>?_)
 try simp only[yd,yf]at ht67
 refine vQ ?_;refine Ja rfl (vP [1,6] ?_);refine Jq (Z0 Z1p rfl) (Jq (Z1 Zk rfl rfl) (Jq (ZE Zy rfl) (Jq (Z13 rfl rfl) (vS [1,6,75] ?_))));refine yC rfl (fun ht75=>?_) (fun ht75=>?_)
 try simp only[yd,yf]at ht75
 refine vQ ?_;refine Jq (Z0 Z1p rfl) (Jq (Z1 Zk rfl rfl) (Jq (Z9 ZO rfl (ha0 qM) rfl qM qM) ?_));refine Jq (Z1q (i:=0) (kid:=x.KS.getD 0 ex0) Z6 rfl qI (ha0 qM) (Z1B qM) qM) ?_;refine Jq (ZN rfl (ZjC qM ih) qF qA) ?_;refine Ja rfl (vS [1,6] ?_);have hK:20<=x.K/\x.K<=23:=by simp at ht67;omega
 refine vQ ?_;refine Jq (Zg (cs:=[_,_,_,_]) Z5l (.cons rfl (.cons rfl (.cons rfl (.cons rfl .nil)))) rfl rfl) (Jq (Z0 Z1a rfl) (Jq (Z1 Zq rfl rfl) (Jq (Z63 (v:=x.K-20) rfl rfl (Z1H qM qM)) ?_)));refine Jq (Z4w (n:=4) (e:=9) qK Za qK rfl rfl qM qM (ZjK qM qM)) ?_;refine Jq (Z7 (u:=bl (tx (aggW x.K)++[40])) rfl rfl (sz2 qZ qZ) (by exact Zf (tx (aggW x.K)) [40])) ?_;refine Jm rfl (Jq (Z7 (u:=bl (tx (aggW x.K)++[40]++inK x)) rfl rfl (sz2 qZ qZ) (by first|exact Zf _ (inK x)|(rw[Zgc qM];exact Zf _ [42]))) ?_);refine Jq (Z7 (u:=bl (tx (aggW x.K)++[40]++inK x++[41])) rfl rfl (sz2 qZ qZ) (by exact Zf _ [41])) ?_;refine Ja rfl (vS [2] ?_);refine vR ?_;exact JX.ret1is rfl rfl (by rw[hpe,if_neg (by rw[ht25];simp),if_neg (by rw[ht30];simp),if_neg (by rw[ht43];simp),if_neg (by rw[ht49];simp),if_neg (by rw[ht55];simp),if_neg (by rw[ht61];simp),if_pos (by simp;omega)];show Value.string _=Value.string (bl (tx (aggW x.K)++40::(inK x++[41])));simp)
 try simp only[yd,yf]at ht75
 apply yK
 repeat first|apply yX|apply yB
 have hK:20<=x.K/\x.K<=23:=by simp at ht67;omega
 refine vQ ?_;refine Jq (Zg (cs:=[_,_,_,_]) Z5l (.cons rfl (.cons rfl (.cons rfl (.cons rfl .nil)))) rfl rfl) (Jq (Z0 Z1a rfl) (Jq (Z1 Zq rfl rfl) (Jq (Z63 (v:=x.K-20) rfl rfl (Z1H qM qM)) ?_)));refine Jq (Z4w (n:=4) (e:=9) qK Za qK rfl rfl qM qM (ZjK qM qM)) ?_;refine Jq (Z7 (u:=bl (tx (aggW x.K)++[40])) rfl rfl (sz2 qZ qZ) (by exact Zf (tx (aggW x.K)) [40])) ?_;refine Jm rfl (Jq (Z7 (u:=bl (tx (aggW x.K)++[40]++inK x)) rfl rfl (sz2 qZ qZ) (by first|exact Zf _ (inK x)|(rw[Zgc qM];exact Zf _ [42]))) ?_);refine Jq (Z7 (u:=bl (tx (aggW x.K)++[40]++inK x++[41])) rfl rfl (sz2 qZ qZ) (by exact Zf _ [41])) ?_;refine Ja rfl (vS [2] ?_);refine vR ?_;exact JX.ret1is rfl rfl (by rw[hpe,if_neg (by rw[ht25];simp),if_neg (by rw[ht30];simp),if_neg (by rw[ht43];simp),if_neg (by rw[ht49];simp),if_neg (by rw[ht55];simp),if_neg (by rw[ht61];simp),if_pos (by simp;omega)];show Value.string _=Value.string (bl (tx (aggW x.K)++40::(inK x++[41])));simp)
 try simp only[yd,yf]at ht67
 apply yK;refine vN ?_;refine J.reg0 hmx qK qK ?_;refine yz (Z0 Z1a rfl) (yz (Z1 Zq rfl rfl) (yz (ZC rfl rfl) (yz (Z2 rfl) (yg rfl rfl rfl (fun hg=>Z0 Z1a (.inl rfl)) (yg rfl rfl rfl (fun hg=>Z1 Zq (qR rfl) rfl) ?_)))));refine yg rfl rfl rfl (fun hg=>Z13 (qR rfl) (.inl rfl)) ?_;refine yz (ZF rfl rfl rfl id) ?_;apply yn;refine FinS.nil0 ?_;refine vS [1,3,97] ?_;refine yC rfl (fun ht97=>?_) (fun ht97=>?_)
 try simp only[yd,yf]at ht97
 refine vQ ?_;refine Ja rfl (vS [2] ?_);refine vR ?_;exact JX.ret1is rfl rfl (by rw[hpe,if_neg (by rw[ht25];simp),if_neg (by rw[ht30];simp),if_neg (by rw[ht43];simp),if_neg (by rw[ht49];simp),if_neg (by rw[ht55];simp),if_neg (by rw[ht61];simp),if_neg (by simp at ht67 ⊢;omega),if_pos ht97])
 try simp only[yd,yf]at ht97
 apply yK
 repeat first|apply yX|apply yB
 have hK5:5<=x.K/\x.K<=17:=by simp at ht97;omega
 repeat apply yQ
 refine J.reg0 hmx qK qK ?_;refine yz (Z2 rfl) (yz (Z9 Z1Y rfl rfl rfl qM (by rw[List.length_append];show(0:Int)<((_+2:Nat):Int);omega)) ?_);refine yz (ZK (enc:=strC) (sz:=1) (i:=0) (j:=0) (y:=bl (opK x 0)) (u:=.string (bl (opK x 0))) Za rfl qI rfl (Z8y hix qD) rfl rfl) ?_;refine yz (Z7 (u:=bl (opK x 0++[32])) rfl rfl (sz2 qZ qZ) (by exact Zf _ [32])) ?_;refine yz (Zg (cs:=[_,_,_,_,_,_,_,_,_,_,_,_,_]) Z7p (.cons rfl (.cons rfl (.cons rfl (.cons rfl (.cons rfl (.cons rfl (.cons rfl (.cons rfl (.cons rfl (.cons rfl (.cons rfl (.cons rfl (.cons rfl .nil))))))))))))) rfl rfl) (yz (Z0 Z1a rfl) (yz (Z1 Zq rfl rfl) (yz (Z63 (v:=x.K-5) rfl rfl (Z1H qM qM)) ?_)));refine yz (Z4w (n:=13) (e:=9) qK Za qK rfl rfl qM qM (Zmy qM qM)) ?_;refine yz (Z7 (u:=bl (opK x 0++[32]++opS x.K)) rfl rfl (sz2 qZ qZ) (by exact Zf _ _)) ?_;refine yz (Z7 (u:=bl (opK x 0++[32]++opS x.K++[32])) rfl rfl (sz2 qZ qZ) (by exact Zf _ [32])) ?_;refine yz (Z2 rfl) (yz (Z9 Z1Y rfl rfl rfl qM (by rw[List.length_append];show(1:Int)<((_+2:Nat):Int);omega)) ?_);refine yz (ZK (enc:=strC) (sz:=1) (i:=1) (j:=0) (y:=bl (opK x 1)) (u:=.string (bl (opK x 1))) Za rfl qI rfl (Z8y hix qD) rfl rfl) ?_;refine yz (Z7 (u:=bl (opK x 0++[32]++opS x.K++[32]++opK x 1)) rfl rfl (sz2 qZ qZ) (by exact Zf _ _)) ?_;refine yz (Z15 rfl) ?_;apply yn;refine FinS.nil0 ?_;refine vS [2] ?_;refine vR ?_;exact JX.ret1is rfl rfl (by rw[hpe,if_neg (by rw[ht25];simp),if_neg (by rw[ht30];simp),if_neg (by rw[ht43];simp),if_neg (by rw[ht49];simp),if_neg (by rw[ht55];simp),if_neg (by rw[ht61];simp),if_neg (by simp at ht67 ⊢;omega),if_neg (by rw[ht97];simp)];simp)
end Go.Proofs.YtbedigkncjbggaaGreatDoor
