/- The parser: queries. No condition. -/
import Derived.Test.YtbedigkncjbggaaGreatDoorXQ5
import Derived.Test.YtbedigkncjbggaaGreatDoorXG8
import Derived.Test.YtbedigkncjbggaaGreatDoorXQ4
import Derived.Test.YtbedigkncjbggaaGreatDoorXG7
import Derived.Test.YtbedigkncjbggaaGreatDoorXG6
import Derived.Test.YtbedigkncjbggaaGreatDoorXQ1
set_option maxRecDepth 20000
namespace Go.Proofs.YtbedigkncjbggaaGreatDoor
open Go Go.Vc
open Go.Pz
abbrev srC(s:Pz.Src):Cel srE:=⟨s,[.string s.tb,.string s.nm,.slice none 0 0],rfl,by
 intro u hu;simp only[List.mem_cons,List.mem_nil_iff,or_false]at hu;rcases hu with rfl|rfl|rfl<;>rfl⟩
theorem ZgO{s:Pz.Src}(h:s.on=[])(w:World):CelR (srC s) w:=⟨_,rfl,by rw[h];exact Z16⟩
abbrev sjC(s:Pz.Src)(x:Ex)(a:Option Addr)(l c:Nat):Cel srE:=⟨{s with on:=[x]},[.string s.tb,.string s.nm,.slice a l c],rfl,by
 intro u hu;simp only[List.mem_cons,List.mem_nil_iff,or_false]at hu;rcases hu with rfl|rfl|rfl<;>rfl⟩
theorem ZgN{s:Pz.Src}{x:Ex}{a:Option Addr}{l c:Nat}{w:World}(h:ExsR [x] (.slice a l c) w):CelR (sjC s x a l c) w:=⟨_,rfl,h⟩
attribute [local irreducible] SlE ExsR
theorem Z7Q(N:Nat)(T:Tk)(hc:T.ts.length<=T.cap)(h9:T.ts.length<=2049)(b:Nat)(ts:List T3)(hts:ts<:+T.ts)(e:Ps Ex)(hed:Dn e)(hex: ∀us,us<:+T.ts->us.length<=ts.length->CallP Tryz.prog ZO [PB T b (us)] [T.G,AF] [.is (.pointer (some ⟨b,0,none⟩))] (e (us)=none) flt (fun z:Ex×List T3=>e (us)=some z) (fun z=>[PB T b z.2]) (fun z=>.rep (ExR z.1))):CallP Tryz.prog Z3H [PB T b ts] [T.G,AF,NH N] [.is (.pointer (some ⟨b,0,none⟩))] (queryP e ts=none) flt (fun z:Pz.St×List T3=>queryP e ts=some z) (fun z=>[PB T b z.2]) (fun z=>.rep (StR N z.1)):=
CallP.ofN (N:=N) (List.mem_cons_of_mem _ (List.mem_cons_of_mem _ List.mem_cons_self)) (fn:=Tryz.f60) Tryz.func60 (n:=95) rfl rfl rfl (fun _ _=>by kernel_rfl) fun E W hNW hb0=>by
 refine vQ ?_;refine JO.alloc ZT rfl fun b2=>(vP [0,2] ?_);refine Jq (Zd (cs:=[_,_,_,_,_,_,_,_,_,_,_,_,_,_]) Z1w (.cons rfl (.cons rfl .nil)) rfl rfl) (JO.alloc ZT rfl fun b3=>(JO.m (Z2 rfl rfl qU qC qO Zo) (by rfl) ?_));refine vP [0,2,3] ?_;refine Jm rfl ?_;refine JO.callPK (Lr:=[_,_]) (Z8n .it N T hc h9 b ts hts itE ZcW rfl (itemP e) (Z5V hed) 16 Z5j (fun us hus hu=>Z8F N T hc h9 b us hus e (fun vs hvs hv=>hex vs hvs qM))) rfl (List.perm_append_comm (l₁:=[_,_]) (l₂:=[_])) qF qA (fun hbad=>?_) ?_
 · exact JX.pnI (by rw[Z2t,hbad];rfl)
 intro zi hzi;have hi:Lt zi.2 ts:=Z8U (Z5V hed) 16 _ _ hzi;refine vD ?_;refine JO.openEv (s:=8) rfl (fun a8 l8 c8 _ _=>?_);refine Jq (Z0 Z1y rfl) (JO.m (Z9 (cs':=[_,_,_,_,_,_,_,_,_,_,_,_,_,_]) rfl rfl qU rfl rfl rfl rfl Z8d) (by rfl) ?_);refine vP [0,2,3] ?_;refine Jm rfl ?_;refine JO.callPK (Lr:=[_,_]) (ZA T hc b (zi.2) (hi.1.trans hts) Z5G (by decide+kernel) (by decide+kernel) (asc (by decide+kernel))) rfl (.refl _) qF qA (fun hbad=>?_) ?_
 · exact JX.pnI (by rw[Z2t,hzi,Option.bind_some,hbad];rfl)
 intro zf hzf;have hf_:Lt zf.2 ts:=Lt.trans (Zk _ _ _ _ hzf) hi.1;refine vD ?_;refine vP [0,2,3] ?_;refine Jm rfl ?_;refine JO.callPK (Lr:=[_,_]) (Z4J T hc b zf.2 (hf_.1.trans hts)) rfl (.refl _) qF qA (fun hbad=>?_) ?_
 · exact JX.pnI (by rw[Z2t,hzi,Option.bind_some,hzf,Option.bind_some,hbad];rfl)
 intro zs hzs;have hs_:Lt zs.2 ts:=Lt.trans (Z4F _ _ hzs) hf_.1;have hon:=Zby hzs;refine vD ?_;refine JO.buildE (p:=srC zs.1) Z99 Z41 rfl qD rfl rfl (fun b14=>?_);refine Jq (Z0 Z13 rfl) (JO.m (Z9 (cs':=[_,_,_,_,_,_,_,_,_,_,_,_,_,_]) rfl rfl qU rfl rfl rfl rfl Z44) (by rfl) ?_);refine vS [0,2,3] ?_;refine J.has (L':=[PB T b zs.2,⟨b3,_,_⟩,⟨b2,_,_⟩,⟨b14,_,_⟩]) (by repeat(first|exact .all|exact .nil|refine Has.own yV ?_|refine Has.cons (by repeat(first|exact .here|apply Pk.past|apply Pk.there)) ?_)) ?_;refine vQ ?_;refine Jm rfl (JO.callK (Lr:=_) (Zu T hc b zs.2 (hs_.1.trans hts) Z15) rfl (.refl _) qF qA ?_);intro _ _;refine vD ?_;refine Ja rfl (vS [0,2,3,4] ?_);apply yk
 repeat apply yQ
 refine J.loopH (α:=List (Cel srE)×Option (Nat×List Value)×Nat×List T3) (fun x=>[(0,.is (.pointer (some ⟨b,0,none⟩))),(2,.is (.pointer (some ⟨b2,0,none⟩))),(3,.is (.pointer (some ⟨b3,0,none⟩))),(4,.is (.bool (isT 1 Z15 x.2.2.2)))]) (fun x=>PB T b (skT 1 Z15 x.2.2.2)::⟨b3,Z3,.is (.agg #[.int .i64 4,.string ⟨#[]⟩,.string ⟨#[]⟩,.slice none 0 0,.slice none 0 0,.slice none 0 0,.slice a8 l8 c8,sliceO x.2.1 x.1.length x.2.2.1,.slice none 0 0,.slice none 0 0,.slice none 0 0,.int .i64 (-1),.slice none 0 0,.bool false])⟩::⟨b2,Z3,.is (.agg #[.int .i64 0,.string ⟨#[]⟩,.string ⟨#[]⟩,.slice none 0 0,.slice none 0 0,.slice none 0 0,.slice none 0 0,.slice none 0 0,.slice none 0 0,.slice none 0 0,.slice none 0 0,.int .i64 0,.slice none 0 0,.bool false])⟩::ownO x.2.1 Z31 []) (fun x=>CelF srE x.1) (fun x=>x.2.2.2<:+ts/\x.1.length+x.2.2.2.length<=ts.length/\Grows Cel.cs 3 x.1 x.2.1 x.2.2.1/\joinI e [zs.1] zs.2=joinI e (x.1.map Cel.x) x.2.2.2) (fun x=>x.2.2.2.length) ([srC zs.1],some (b14,(srC zs.1).cs),1,zs.2) [0,2,3,4] (.cons rfl (.cons rfl (.cons rfl (.cons rfl .nil)))) rfl (fun X w hF=>fun w' hk p hp=>by rw[List.mem_singleton.1 hp];exact ZgO hon w') ⟨hs_.1,(show 1+zs.2.length<=ts.length by have:=hs_.2;omega),growE (srC zs.1),rfl⟩ fun⟨ps,st,cap,us⟩ ⟨hus,hlen,hG,hJ⟩=>?_;try dsimp only
 try dsimp only at st
 try dsimp only at cap
 try dsimp only at us
 try dsimp only at hus
 try dsimp only at hlen
 try dsimp only at hG
 try dsimp only at hJ
 have hut:us<:+T.ts:=hus.trans hts;have hvs:skT 1 Z15 us<:+T.ts:=(Z2o _ _ _).trans hut;refine vQ ?_;refine Jm rfl (Jm rfl (JO.tg rfl rfl rfl rfl rfl (fun hg=>Z1 (.inl rfl)) (JO.tg rfl rfl rfl rfl rfl (fun hg=>Z4 (qR rfl)) ?_)));refine JO.tg rfl rfl rfl rfl rfl (fun hg=>Z0 Zq (qR rfl)) ?_;refine JO.tg rfl rfl rfl rfl rfl (fun hg=>Z5 ZC (qR rfl) rfl) ?_;refine JO.tg rfl rfl rfl rfl rfl (fun hg=>ZD ZR (qR rfl)) ?_;refine JO.tg rfl rfl rfl rfl rfl (fun hg=>Z1r (qR rfl) (.inl rfl)) ?_;refine JO.tg rfl rfl rfl rfl rfl (fun hg=>Z1 (qR rfl)) ?_;refine JO.tgg rfl rfl rfl rfl rfl (fun hg=>Z1 (.inl rfl)) (JO.tgg rfl rfl rfl rfl rfl (fun hg=>Z4 (qR rfl)) ?_);refine JO.tgg rfl rfl rfl rfl rfl (fun hg=>Z0 Zq (qR rfl)) ?_;refine JO.tgg rfl rfl rfl rfl rfl (fun hg=>Z5 ZC (qR rfl) rfl) ?_;refine JO.tgg rfl rfl rfl rfl rfl (fun hg=>Zi Z1f (qR rfl) rfl (.inl rfl) qM (Z2T (Z3b hg.2))) ?_;refine JO.tgg rfl rfl rfl rfl rfl (fun hg=>Z0 Z1x (qR rfl)) ?_;refine JO.tgg rfl rfl rfl rfl rfl (fun hg=>Z17 (enc:=T3.cells) (sz:=3) (i:=T.k (skT 1 Z15 us)) (j:=1) (y:=(skT 1 Z15 us).headD t3D) (u:=.string ((skT 1 Z15 us).headD t3D).t) Zr (qR rfl) qI rfl (Tk.head hvs (Z3b hg.2)) (by rw[Tk.j_eq hc hvs (Z3b hg.2)];omega) rfl) ?_;refine JO.tgg rfl rfl rfl rfl rfl (fun hg=>Z2g (qR rfl) (.inl rfl)) ?_;refine JO.tg rfl rfl rfl rfl rfl (fun hg=>Zl (qR rfl) (.inl rfl) (.inl rfl) (fun h=>⟨hg,h⟩)) ?_;refine JO.tg rfl rfl rfl rfl rfl (fun hg=>Z1 (qR rfl)) ?_;refine JO.tgg rfl rfl rfl rfl rfl (fun hg=>Z1 (.inl rfl)) (JO.tgg rfl rfl rfl rfl rfl (fun hg=>Z4 (qR rfl)) ?_);refine JO.tgg rfl rfl rfl rfl rfl (fun hg=>Z0 Zq (qR rfl)) ?_;refine JO.tgg rfl rfl rfl rfl rfl (fun hg=>Z5 ZC (qR rfl) rfl) ?_;refine JO.tgg rfl rfl rfl rfl rfl (fun hg=>Zi Z1f (qR rfl) rfl (.inl rfl) qM (Z2T (Z3b ((Bool.and_eq_true _ _).mp hg.2).1))) ?_;refine JO.tgg rfl rfl rfl rfl rfl (fun hg=>Z0 Z1i (qR rfl)) ?_;refine JO.tgg rfl rfl rfl rfl rfl (fun hg=>Z17 (enc:=T3.cells) (sz:=3) (i:=T.k (skT 1 Z15 us)) (j:=0) (y:=(skT 1 Z15 us).headD t3D) (u:=.int .i64 ((skT 1 Z15 us).headD t3D).k) Zx (qR rfl) qI rfl (Tk.head hvs (Z3b ((Bool.and_eq_true _ _).mp hg.2).1)) (by rw[Tk.j_eq hc hvs (Z3b ((Bool.and_eq_true _ _).mp hg.2).1)];omega) rfl) ?_;refine JO.tgg rfl rfl rfl rfl rfl (fun hg=>ZP (qR rfl) (.inl rfl)) ?_;refine JO.tg rfl rfl rfl rfl rfl (fun hg=>Zl (qR rfl) (.inl rfl) (.inl rfl) (fun h=>⟨hg,h⟩)) ?_;refine Jq (Zw rfl rfl rfl id) (vS [0,2,3,46] ?_);refine yC rfl (fun ht46=>?_) (fun ht46=>?_)
 try simp only[yd,yf]at ht46
 apply yK;refine vN ?_;apply yk;have hyj:isJ us=true:=by rw[<-ZfA];exact ht46
 refine vQ ?_;refine Jm rfl ?_;refine JO.callPK (Lr:=_) (ZA T hc b (skT 1 Z15 us) hvs Z35 (by decide+kernel) (by decide+kernel) (asc (by decide+kernel))) rfl (.refl _) qF qA (fun hbad=>?_) ?_
 · exact JX.pnI (by rw[Z2t,hzi,Option.bind_some,hzf,Option.bind_some,hzs,Option.bind_some,hJ];rw[Z6e hed hyj];unfold joinP;rw[hbad];rfl)
 intro y1 hy1;have g1:Lt y1.2 us:=Lt.trans (Zk _ _ _ _ hy1) (Z2o _ _ _);refine vD ?_;refine vP [0,2,3] ?_;refine Jm rfl ?_;refine JO.callPK (Lr:=_) (Z4J T hc b y1.2 (g1.1.trans hut)) rfl (.refl _) qF qA (fun hbad=>?_) ?_
 · exact JX.pnI (by rw[Z2t,hzi,Option.bind_some,hzf,Option.bind_some,hzs,Option.bind_some,hJ];rw[Z6e hed hyj];unfold joinP;rw[hy1,Option.bind_some,hbad];rfl)
 intro y2 hy2;have g2:Lt y2.2 us:=Lt.trans (Z4F _ _ hy2) g1.1;refine vD ?_;refine JO.alloc Z30 rfl fun b5=>(JO.m (Z2 rfl rfl qU qC qO Z2q) (by rfl) ?_);refine vP [0,2,3,5] ?_;refine Jm rfl ?_;refine JO.callPK (Lr:=_) (ZA T hc b (y2.2) (g2.1.trans hut) w_ON (by decide+kernel) (by decide+kernel) (asc (by decide+kernel))) rfl (.swap _ _ _) qF qA (fun hbad=>?_) ?_
 · exact JX.pnI (by rw[Z2t,hzi,Option.bind_some,hzf,Option.bind_some,hzs,Option.bind_some,hJ];rw[Z6e hed hyj];unfold joinP;rw[hy1,Option.bind_some,hy2,Option.bind_some,hbad];rfl)
 intro y3 hy3;have g3:Lt y3.2 us:=Lt.trans (Zk _ _ _ _ hy3) g2.1;refine vD ?_;refine vP [0,2,3,5] ?_;refine Jm rfl ?_;refine JO.callPK (Lr:=_) (hex y3.2 (g3.1.trans hut) (by have:=g3.2;omega)) rfl (.refl _) qF qA (fun hbad=>?_) ?_
 · exact JX.pnI (by rw[Z2t,hzi,Option.bind_some,hzf,Option.bind_some,hzs,Option.bind_some,hJ];rw[Z6e hed hyj];unfold joinP;rw[hy1,Option.bind_some,hy2,Option.bind_some,hy3,Option.bind_some,hbad];rfl)
 intro y4 hy4;have g4:Lt y4.2 us:=Lt.trans (hed _ _ hy4) g3.1;refine vD ?_;refine Jq (Z1T Zy rfl) (JO.open_ (s:=57) (R:=ExsR [y4.1]) rfl ?_);rintro v57 ⟨w57,h57⟩;obtain⟨a57,l57,c57,rfl⟩:=Z8f h57;refine Jq (Z0 Z2V rfl) (JO.m (Z9 (cs':=[_,_,_]) rfl rfl qU rfl rfl rfl rfl Z1I) (by rfl) ?_);refine vP [0,2,3,5] ?_;refine Jq (Z0 Z13 rfl) (Jq (Z5 Z11 rfl rfl) (Jq (ZU (cs:=[_,_,_]) Z24 rfl rfl rfl) (Jq (Z1V (p:=sjC y2.1 y4.1 a57 l57 c57) Z99 Z41 rfl qD rfl) ?_)));refine JO.apO (ys:=[sjC y2.1 y4.1 a57 l57 c57]) Z5b Cel.hlen (.there (.there (.there (.there .here)))) hG rfl rfl (srcE _ Z1N) (by simp) (by show(ps.length+1)*56<=140737488355328;have:=hts.length_le;omega) (by show ps.length+1<=9223372036854775807;have:=hts.length_le;omega) rfl (fun st2 cap2 hG2=>?_);obtain⟨b63,cs63,rfl⟩:=Z5F hG2 (by simp);refine Jq (Z0 Z13 rfl) (JO.m (Z9 (cs':=[_,_,_,_,_,_,_,_,_,_,_,_,_,_]) rfl rfl qU rfl rfl rfl rfl Z44) (by rfl) ?_);refine vP [0,2,3] ?_;refine Jm rfl (JO.callK (Lr:=[_,_,_,_]) (Zu T hc b y4.2 (g4.1.trans hut) Z15) rfl (.swap _ _ _) qF qA ?_);intro _ _;refine vD ?_;refine Ja rfl ?_;apply yI
 repeat refine JX.normal_block ?_
 refine JX.roundG (x:=(ps,st,cap,us)) (ps++[sjC y2.1 y4.1 a57 l57 c57],some (b63,cs63),cap2,y4.2) ?_ ?_ [0,2,3,4] ?_ ?_ ?_ ?_
 · exact⟨g4.1.trans hus,(by show(ps++[sjC y2.1 y4.1 a57 l57 c57]).length+y4.2.length<=ts.length;rw[List.length_append];show ps.length+1+y4.2.length<=ts.length;have:=g4.2;omega),hG2,(by rw[hJ,Z6e hed hyj,List.map_append];unfold joinP;rw[hy1,Option.bind_some,hy2,Option.bind_some,hy3,Option.bind_some,hy4];rfl)⟩
 · exact(by show y4.2.length<us.length;exact g4.2)
 · exact qS
 · exact(.cons .here (.cons (.there (.there .here)) (.cons (.there (.there .here)) (.cons .here .nil))))
 · exact qG
 · exact fun X w hF=>fun w' hk=>CelF.snoc (hF _ qI w' hk) (ZgN (hF _ qI w' hk))
 try simp only[yd,yf]at ht46
 repeat apply yQ
 refine J.exit ?_
 repeat first|refine yH ?_|refine yM rfl ?_|refine yE ?_
 repeat first|apply yX|apply yB
 have hno:isJ us=false:=by rw[<-ZfA];exact ht46
 have hni:isT 1 Z15 us=false:=(Bool.or_eq_false_iff.1 hno).1;rw[Z21 hni];refine vQ ?_;refine Jm rfl (Jq (Z0 Z13 rfl) (Jq (Z5 Z11 rfl rfl) (Jq (Z5e hG Z1N rfl) (Jq (Z4s rfl rfl) ?_))));refine JO.callPK (Lr:=_) (Zt (.pointer (some ⟨b,0,none⟩)) (decide ((ps.length:Int)<=4))) rfl (Z2a _) Z1Z qA (fun hbad=>?_) ?_
 · exact JX.pnI (by rw[Z2t,hzi,Option.bind_some,hzf,Option.bind_some,hzs,Option.bind_some,hJ,Z4w hno,Option.bind_some];unfold qTail;rw[if_neg (by rw[List.length_map];have:=of_decide_eq_false hbad;omega)])
 intro _ hle;refine vD ?_;refine vS [0,2,3] ?_;refine J.freezeOMW (e:=Z31) (sz:=3) hNW Cel.hlen hG (.there (.there (.there .here))) (fun q hq=>by simp only[List.map_cons,List.map_nil,List.mem_singleton]at hq;exact⟨_,List.mem_cons_self,hq.symm⟩) rfl rfl ?_;rw[hG.sl.1];refine vQ ?_;refine Jm rfl ?_;refine JO.callPK (Lr:=_) (Z3n N T hc h9 b us hut e (fun vs hvs hv=>hex vs hvs qM)) rfl (.refl _) qF qA (fun hbad=>?_) ?_
 · exact JX.pnI (by rw[Z2t,hzi,Option.bind_some,hzf,Option.bind_some,hzs,Option.bind_some,hJ,Z4w hno,Option.bind_some];unfold qTail;rw[if_pos (by rw[List.length_map];have:=of_decide_eq_true hle;omega),hbad];rfl)
 intro zw hzw;have hxw:zw.2<:+ts:=(Z7w hed hzw).trans hus;refine vD ?_;refine JO.openEv (s:=72) rfl (fun a72 l72 c72 _ _=>?_);refine Jq (Z0 Z26 rfl) (JO.m (Z9 (cs':=[_,_,_,_,_,_,_,_,_,_,_,_,_,_]) rfl rfl qU rfl rfl rfl rfl Z1I) (by rfl) ?_);refine vP [0,2,3] ?_;refine Jm rfl (JO.callK (Lr:=[_,_]) (Zu T hc b zw.2 (hxw.trans hts) Z5p) rfl (.refl _) qF qA ?_);intro _ _;refine vD ?_;refine vS [0,2,3,75] ?_;refine J.cutZF (fun x:(List Ex×List T3)×Option Addr×Nat×Nat=>[(0,.is (.pointer (some ⟨b,0,none⟩))),(2,.is (.pointer (some ⟨b2,0,none⟩))),(3,.is (.pointer (some ⟨b3,0,none⟩)))]) (fun x:(List Ex×List T3)×Option Addr×Nat×Nat=>PB T b x.1.2::⟨b3,Z3,.is (.agg #[.int .i64 4,.string ⟨#[]⟩,.string ⟨#[]⟩,.slice none 0 0,.slice none 0 0,.slice none 0 0,.slice a8 l8 c8,.slice (adO st) ps.length (capO st cap),.slice a72 l72 c72,.slice x.2.1 x.2.2.1 x.2.2.2,.slice none 0 0,.int .i64 (-1),.slice none 0 0,.bool false])⟩::⟨b2,Z3,.is (.agg #[.int .i64 0,.string ⟨#[]⟩,.string ⟨#[]⟩,.slice none 0 0,.slice none 0 0,.slice none 0 0,.slice none 0 0,.slice none 0 0,.slice none 0 0,.slice none 0 0,.slice none 0 0,.int .i64 0,.slice none 0 0,.bool false])⟩::[]) (fun x:(List Ex×List T3)×Option Addr×Nat×Nat=>SlE exE noS x.1.1 (.slice x.2.1 x.2.2.1 x.2.2.2)) (fun x:(List Ex×List T3)×Option Addr×Nat×Nat=>groupP e zw.2=some x.1/\x.1.2<:+ts) ?_ ?_
 · refine yC rfl (fun ht75=>?_) (fun ht75=>?_)
   try simp only[yd,yf]at ht75
   have hgy:isT 1 Z5p zw.2=true:=ht75;rw[Z1z hgy];refine vQ ?_;refine Jm rfl ?_;refine JO.callPK (Lr:=[_,_]) (ZA T hc b _ ((List.tail_suffix _).trans (hxw.trans hts)) w_BY (by decide+kernel) (by decide+kernel) (asc (by decide+kernel))) rfl (.refl _) qF qA (fun hbad=>?_) ?_
   · exact JX.pnI (by rw[Z2t,hzi,Option.bind_some,hzf,Option.bind_some,hzs,Option.bind_some,hJ,Z4w hno,Option.bind_some];unfold qTail;rw[if_pos (by rw[List.length_map];have:=of_decide_eq_true hle;omega),hzw,Option.bind_some,ZaY hgy,hbad];rfl)
   intro zb hzb;refine vD ?_;have hxb:zb.2<:+ts:=(Zk _ _ _ _ hzb).1.trans ((List.tail_suffix _).trans hxw);refine vP [0,2,3] ?_;refine Jm rfl ?_;refine JO.callPK (Lr:=[_,_]) (Z8n .ex N T hc h9 b zb.2 (hxb.trans hts) exE Z3F rfl e hed 16 ZO (fun us hus hu=>by have:=hex us hus (by have:=hxb.length_le;omega);simp only[Z5Z]at this;exact this.weak qF)) rfl (.refl _) qF qA (fun hbad=>?_) ?_
   · exact JX.pnI (by rw[Z2t,hzi,Option.bind_some,hzf,Option.bind_some,hzs,Option.bind_some,hJ,Z4w hno,Option.bind_some];unfold qTail;rw[if_pos (by rw[List.length_map];have:=of_decide_eq_true hle;omega),hzw,Option.bind_some,ZaY hgy,hzb,Option.bind_some,hbad];rfl)
   intro zg hzg;have hxg:zg.2<:+ts:=(Z8U hed 16 _ _ hzg).1.trans hxb;refine vD ?_;refine JO.openEv (s:=79) rfl (fun a79 l79 c79 _ _=>?_);refine Jq (Z0 Z3w rfl) (JO.m (Z9 (cs':=[_,_,_,_,_,_,_,_,_,_,_,_,_,_]) rfl rfl qU rfl rfl rfl rfl Z1I) (by rfl) ?_);apply yI;refine JX.midF ((zg,a79,l79,c79)) ?_ [0,2,3] ?_ ?_ ?_ ?_
   · exact⟨(by rw[ZaY hgy,hzb,Option.bind_some];exact hzg),hxg⟩
   · exact qS
   · exact qH
   · exact qG
   · exact fun X w hF=>fun w' hk=>SlE.weak (hF _ qI w' hk) (fun _ _ _ _=>trivial)
   try simp only[yd,yf]at ht75
   apply yK;have hng:isT 1 Z5p zw.2=false:=ht75;rw[Z21 hng];refine JX.midF ((([],zw.2),none,0,0)) ?_ [0,2,3] ?_ ?_ ?_ ?_
   · exact⟨Zhm hng,hxw⟩
   · exact qS
   · exact qH
   · exact qG
   · exact fun X w hF=>fun w' hk=>Za trivial
 · intro⟨⟨gl,gu⟩,ag,lg,cg⟩ ⟨hgr,hx18⟩
   try dsimp only
   refine vQ ?_;refine Jm rfl (JO.callK (Lr:=[_,_]) (Zu T hc b gu (hx18.trans hts) Z4y) rfl (.refl _) qF qA ?_);intro _ _;refine vD ?_;refine vS [0,2,3,82] ?_;refine J.cutZF (fun x:(List Pz.Ky×List T3)×Option Addr×Nat×Nat=>[(0,.is (.pointer (some ⟨b,0,none⟩))),(2,.is (.pointer (some ⟨b2,0,none⟩))),(3,.is (.pointer (some ⟨b3,0,none⟩)))]) (fun x:(List Pz.Ky×List T3)×Option Addr×Nat×Nat=>PB T b x.1.2::⟨b3,Z3,.is (.agg #[.int .i64 4,.string ⟨#[]⟩,.string ⟨#[]⟩,.slice none 0 0,.slice none 0 0,.slice none 0 0,.slice a8 l8 c8,.slice (adO st) ps.length (capO st cap),.slice a72 l72 c72,.slice ag lg cg,.slice x.2.1 x.2.2.1 x.2.2.2,.int .i64 (-1),.slice none 0 0,.bool false])⟩::⟨b2,Z3,.is (.agg #[.int .i64 0,.string ⟨#[]⟩,.string ⟨#[]⟩,.slice none 0 0,.slice none 0 0,.slice none 0 0,.slice none 0 0,.slice none 0 0,.slice none 0 0,.slice none 0 0,.slice none 0 0,.int .i64 0,.slice none 0 0,.bool false])⟩::[]) (fun x:(List Pz.Ky×List T3)×Option Addr×Nat×Nat=>SlE kyE noS x.1.1 (.slice x.2.1 x.2.2.1 x.2.2.2)) (fun x:(List Pz.Ky×List T3)×Option Addr×Nat×Nat=>orderP e gu=some x.1/\x.1.2<:+ts) ?_ ?_
   · refine yC rfl (fun ht82=>?_) (fun ht82=>?_)
     try simp only[yd,yf]at ht82
     have hoy:isT 1 Z4y _=true:=ht82;rw[Z1z hoy];refine vQ ?_;refine Jm rfl ?_;refine JO.callPK (Lr:=[_,_]) (ZA T hc b _ ((List.tail_suffix _).trans (hx18.trans hts)) w_BY (by decide+kernel) (by decide+kernel) (asc (by decide+kernel))) rfl (.refl _) qF qA (fun hbad=>?_) ?_
     · exact JX.pnI (by rw[Z2t,hzi,Option.bind_some,hzf,Option.bind_some,hzs,Option.bind_some,hJ,Z4w hno,Option.bind_some];unfold qTail;rw[if_pos (by rw[List.length_map];have:=of_decide_eq_true hle;omega),hzw,Option.bind_some,hgr,Option.bind_some,Zba hoy,hbad];rfl)
     intro zp hzp;refine vD ?_;have hxp:zp.2<:+ts:=(Zk _ _ _ _ hzp).1.trans ((List.tail_suffix _).trans hx18);refine vP [0,2,3] ?_;refine Jm rfl ?_;refine JO.callPK (Lr:=[_,_]) (Z8n .ky N T hc h9 b zp.2 (hxp.trans hts) kyE ZcS rfl (keyP e) (Z8c hed) 16 Z5y (fun us hus hu=>Z97 N T hc h9 b us hus e (fun{us z} h=>(hed us z h).1) (fun vs hvs hv=>hex vs hvs (by have:=hxp.length_le;omega)))) rfl (.refl _) qF qA (fun hbad=>?_) ?_
     · exact JX.pnI (by rw[Z2t,hzi,Option.bind_some,hzf,Option.bind_some,hzs,Option.bind_some,hJ,Z4w hno,Option.bind_some];unfold qTail;rw[if_pos (by rw[List.length_map];have:=of_decide_eq_true hle;omega),hzw,Option.bind_some,hgr,Option.bind_some,Zba hoy,hzp,Option.bind_some,hbad];rfl)
     intro zo hzo;have hxo:zo.2<:+ts:=(Z8U (Z8c hed) 16 _ _ hzo).1.trans hxp;refine vD ?_;refine JO.openEv (s:=86) rfl (fun a86 l86 c86 _ _=>?_);refine Jq (Z0 Z1F rfl) (JO.m (Z9 (cs':=[_,_,_,_,_,_,_,_,_,_,_,_,_,_]) rfl rfl qU rfl rfl rfl rfl Z9f) (by rfl) ?_);apply yI;refine JX.midF ((zo,a86,l86,c86)) ?_ [0,2,3] ?_ ?_ ?_ ?_
     · exact⟨(by rw[Zba hoy,hzp,Option.bind_some];exact hzo),hxo⟩
     · exact qS
     · exact qH
     · exact qG
     · exact fun X w hF=>fun w' hk=>SlE.weak (hF _ qI w' hk) (fun _ _ _ _=>trivial)
     try simp only[yd,yf]at ht82
     apply yK;have hno2:isT 1 Z4y gu=false:=ht82;rw[Z21 hno2];refine JX.midF ((([],gu),none,0,0)) ?_ [0,2,3] ?_ ?_ ?_ ?_
     · exact⟨ZhU hno2,hx18⟩
     · exact qS
     · exact qH
     · exact qG
     · exact fun X w hF=>fun w' hk=>Za trivial
   · intro⟨⟨ol,ou⟩,ao,lo,co⟩ ⟨hor,hx21⟩
     try dsimp only
     refine vQ ?_;refine Jm rfl (JO.callK (Lr:=[_,_]) (Zu T hc b ou (hx21.trans hts) Z5Y) rfl (.refl _) qF qA ?_);intro _ _;refine vD ?_;refine vS [0,2,3,89] ?_;refine J.cutZN (fun x:Int×List T3=>[(2,.is (.pointer (some ⟨b2,0,none⟩))),(3,.is (.pointer (some ⟨b3,0,none⟩)))]) (fun x:Int×List T3=>PB T b x.2::⟨b3,Z3,.is (.agg #[.int .i64 4,.string ⟨#[]⟩,.string ⟨#[]⟩,.slice none 0 0,.slice none 0 0,.slice none 0 0,.slice a8 l8 c8,.slice (adO st) ps.length (capO st cap),.slice a72 l72 c72,.slice ag lg cg,.slice ao lo co,.int .i64 (x.1),.slice none 0 0,.bool false])⟩::⟨b2,Z3,.is (.agg #[.int .i64 0,.string ⟨#[]⟩,.string ⟨#[]⟩,.slice none 0 0,.slice none 0 0,.slice none 0 0,.slice none 0 0,.slice none 0 0,.slice none 0 0,.slice none 0 0,.slice none 0 0,.int .i64 0,.slice none 0 0,.bool false])⟩::[]) (fun x:Int×List T3=>limitP ou=some x) ?_ ?_
     · refine yC rfl (fun ht89=>?_) (fun ht89=>?_)
       try simp only[yd,yf]at ht89
       have hly:isT 1 Z5Y _=true:=ht89;rw[Z1z hly];refine vQ ?_;refine Jm rfl ?_;refine JO.callPK (Lr:=[_,_]) (Z2Z T hc b _ ((List.tail_suffix _).trans (hx21.trans hts)) 3) rfl (.refl _) qF qA (fun hbad=>?_) ?_
       · exact JX.pnI (by rw[Z2t,hzi,Option.bind_some,hzf,Option.bind_some,hzs,Option.bind_some,hJ,Z4w hno,Option.bind_some];unfold qTail;rw[if_pos (by rw[List.length_map];have:=of_decide_eq_true hle;omega),hzw,Option.bind_some,hgr,Option.bind_some,hor,Option.bind_some,Zec hly,hbad];rfl)
       intro zl hzl;refine vD ?_;refine Jq (Z4l (off:=2) qK rfl rfl) ?_;refine Jq (Z0 Z3O rfl) (JO.m (Z9 (cs':=[_,_,_,_,_,_,_,_,_,_,_,_,_,_]) rfl rfl qU rfl rfl rfl rfl Z29) (by rfl) ?_);apply yI;refine JX.midZ ((zl.1.n,zl.2)) ?_ [2,3] ?_ ?_ ?_
       · exact(by rw[Zec hly,hzl];rfl)
       · exact qS
       · exact qH
       · exact qG
       try simp only[yd,yf]at ht89
       apply yK;have hnl:isT 1 Z5Y ou=false:=ht89;rw[Z21 hnl];refine JX.midZ ((-1,ou)) ?_ [2,3] ?_ ?_ ?_
       · exact(Zhu hnl)
       · exact qS
       · exact qH
       · exact qG
     · intro⟨lv,lu⟩ hlr
       try dsimp only
       refine vQ ?_;refine Jq (ZU (cs:=[_,_,_,_,_,_,_,_,_,_,_,_,_,_]) Zj rfl rfl rfl) (JO.m (Z2 rfl rfl qU qC qO Zo) (by rfl) ?_);refine vS [2] ?_;refine vR ?_;refine JX.toP ?_;exact JX.retLCs (Lr:=[_,_]) rfl ({stK 4 with items:=zi.1,from_:=ps.map Cel.x,where_:=zw.1,group:=gl,order:=ol,limit:=lv},lu) (by rw[Z2t,hzi,Option.bind_some,hzf,Option.bind_some,hzs,Option.bind_some,hJ,Z4w hno,Option.bind_some];unfold qTail;rw[if_pos (by rw[List.length_map];have:=of_decide_eq_true hle;omega),hzw,Option.bind_some,hgr,Option.bind_some,hor,Option.bind_some,hlr];rfl) (.refl _) rfl rfl hb0 rfl Zj HasOwn.mem (ZQ rfl) (Sub.st rfl fun X w hf w' hk=>⟨Za (FrS.nil _),Za (FrS.nil _),Za trivial,SlE.weak (hf _ qI w' hk) (fun _ _ _ _=>trivial),(by show SlE srE noS (ps.map Cel.x) (.slice (adO st) ps.length (capO st cap)) w';rw[<-hG.sl.1];exact SlE.ofGr0 hG (hf _ qI w' hk) (hf _ qI w' hk)),hf _ qI w' hk,SlE.exs (hf (SlE exE noS gl (.slice ag lg cg)) qI w' hk),hf (SlE kyE noS ol (.slice ao lo co)) qI w' hk,Z16⟩)
end Go.Proofs.YtbedigkncjbggaaGreatDoor
set_option maxRecDepth 20000
namespace Go.Proofs.YtbedigkncjbggaaGreatDoor
open Go Go.Vc
open Go.Pz
theorem ZF{N:Nat}{st:Pz.St}:Cnt (.rep (StR N st)) 14:=fun E v w h=>by
 obtain⟨vc,vn,vr,vi,vf,vw,vg,vo,vs,rfl,h1,h2,h3,h4,h5,h6,h7,h8,h9⟩:=(h:Pers E w (StR N st v)).now;have hs: ∀{α:Type} {En:Enc α} {G:GoS} {xs:List α} {v:Value},SlE En G xs v w->v.oneCell'=true:=fun h=>by
   obtain⟨ps,a,len,cap,_,rfl,_⟩:=h;rfl
 have hx: ∀{xs:List Ex} {v:Value},ExsR xs v w->v.oneCell'=true:=fun h=>by
   obtain⟨a,len,cap,rfl,_⟩:=h;rfl
 refine⟨rfl,fun u hu=>?_⟩;simp only[Value.cells,List.mem_cons,List.mem_nil_iff,or_false]at hu;rcases hu with rfl|rfl|rfl|rfl|rfl|rfl|rfl|rfl|rfl|rfl|rfl|rfl|rfl|rfl<;>first|rfl|exact hs qN|exact hx qN
theorem Z6l{N:Nat}{st:Pz.St}: ∀E v w,(Ty.rep (StR N st)).p E v w->∃cs,v= .agg cs/\cs.size=14:=fun E v w h=>by
 obtain⟨vc,vn,vr,vi,vf,vw,vg,vo,vs,rfl,_⟩:=(h:Pers E w (StR N st v)).now;exact⟨_,rfl,rfl⟩
theorem JO.mapMkS{P:Program}{c:Ctx}{K:List (Nat×Ty)}{L:List Own}{Φ:List (World->Prop)}{Q:Exit->Act->World->Prop}{ops:Array Oper}{rest:List Oper}{d:Nat}{t ty:TypeId}{pos:String}{after:Array Edge}(hd:Nat.blt d c.n=true)(hn: ∀r,JO P c ((d,.is (.map (some r)))::K) (⟨r,0,.ob (sObj [] 0)⟩::L) Φ ops rest Q):JO P c K L Φ ops (⟨some d,.makeMap t none,ty,pos,after,none⟩::rest) Q:=JO.mapMk hd hn
theorem Zag{k:Int}{bx:Nat}{X:Nat->Prop}{w:World}(h:Pers X w (PlF k (.func (.func Z1S) #[] #[.pointer (some ⟨bx,0,none⟩)]))):Pers X w (HeapIs bx [.int .i64 k] Z48):=fun w' hk=>by
 obtain⟨by_,e,h1⟩:=h w' hk;injection e with _ _ e
 injection e with e
 injection e with e _
 injection e with e
 injection e with e
 injection e with e _
 subst e;exact h1
def stF(b7 b8 b9:Nat):SEs:=[(Z5c,fv Z3q,0),(Z57,fv Z3s,1),(Z58,fv Z3H,2),(Z5h,fv Z3p,3),(Z5f,fv Z3r,4),(Z5X,.func (.func Z1S) #[] #[.pointer (some ⟨b7,0,none⟩)],5),(Z59,.func (.func Z1S) #[] #[.pointer (some ⟨b8,0,none⟩)],6),(Z3V,.func (.func Z1S) #[] #[.pointer (some ⟨b9,0,none⟩)],7)]
theorem Zg4{b7 b8 b9:Nat}{w:ByteArray}(h:(sGet w (stF b7 b8 b9)).isSome=true):w=Z5c\/w=Z57\/w=Z58\/w=Z5h\/w=Z5f\/w=Z5X\/w=Z59\/w=Z3V:=by
 simp only[stF,sGet]at h
 repeat' split at h
 all_goals first|(cases h;done)|simp[*]
theorem Zgu{b7 b8 b9:Nat}{e:Ps Ex}{ts r1:List T3}{k1 n1:Int}{w:ByteArray}(hz:takeP 1 ts=some (⟨k1,w,n1⟩,r1))(h:(sGet w (stF b7 b8 b9)).isSome=false):stmtP e ts=none:=by
 have hne: ∀s,(s=Z5c\/s=Z57\/s=Z58\/s=Z5h\/s=Z5f\/s=Z5X\/s=Z59\/s=Z3V)->¬sq w s=true:=fun s hs hq=>by
  have:=ZaW hq;subst this;rcases hs with rfl|rfl|rfl|rfl|rfl|rfl|rfl|rfl<;>simp[stF,sGet]at h
 unfold stmtP;rw[hz,Option.bind_some];rw[if_neg (hne _ (by simp)),if_neg (hne _ (by simp)),if_neg (hne _ (by simp)),if_neg (hne _ (by simp)),if_neg (hne _ (by simp)),if_neg (hne _ (by simp)),if_neg (hne _ (by simp)),if_neg (hne _ (by simp))]
attribute [local irreducible] SlE ExsR
theorem Z6q(N:Nat)(T:Tk)(hc:T.ts.length<=T.cap)(h9:T.ts.length<=2049)(b:Nat)(ts:List T3)(hts:ts<:+T.ts)(M:Nat)(hM:ts.length<M):CallP Tryz.prog Z46 [PB T b ts] [T.G,AF,NH N] [.is (.pointer (some ⟨b,0,none⟩))] (stmtP (exprP M) ts=none) flt (fun z:Pz.St×List T3=>stmtP (exprP M) ts=some z) (fun z=>[PB T b z.2]) (fun z=>.rep (StR N z.1)):=
CallP.ofN (N:=N) (List.mem_cons_of_mem _ (List.mem_cons_of_mem _ List.mem_cons_self)) (fn:=Tryz.f26) Tryz.func26 (n:=43) rfl rfl rfl (fun _ _=>by kernel_rfl) fun E W hNW hb0=>by
 refine vQ ?_;refine JO.alloc ZT rfl fun b2=>(vS [0,2] ?_);refine J.regS 17 hmx qK qK ?_;refine yz (Z1 rfl) (yz (Z1 rfl) (yz (Z4 rfl) (yz (Z0 Zq rfl) (yz (Z5 ZC rfl rfl) (yz (ZD ZR rfl) (yz (Z1r rfl rfl) (yz (Z1 rfl) (yg rfl rfl rfl (fun hg=>Z1 (.inl rfl)) (yg rfl rfl rfl (fun hg=>Z4 (qR rfl)) ?_)))))))));refine yg rfl rfl rfl (fun hg=>Z0 Zq (qR rfl)) ?_;refine yg rfl rfl rfl (fun hg=>Z5 ZC (qR rfl) rfl) ?_;refine yg rfl rfl rfl (fun hg=>Zi Z1f (qR rfl) rfl (.inl rfl) qM (Z2T (Z3b hg))) ?_;refine yg rfl rfl rfl (fun hg=>Z0 Z1i (qR rfl)) ?_;refine yg rfl rfl rfl (fun hg=>Z17 (enc:=T3.cells) (sz:=3) (i:=T.k ts) (j:=0) (y:=ts.headD t3D) (u:=.int .i64 (ts.headD t3D).k) Zx (qR rfl) qI rfl (Tk.head hts (Z3b hg)) (by rw[Tk.j_eq hc hts (Z3b hg)];omega) rfl) ?_;refine yg rfl rfl rfl (fun hg=>ZP (qR rfl) (.inl rfl)) ?_;refine yz (Zl rfl rfl rfl id) ?_;apply yn;refine FinS.tail0 ?_;refine JO.callPK (Lr:=_) (Zt (.pointer (some ⟨b,0,none⟩)) _) rfl (Z2a _) Z1Z qA (fun hbad=>?_) ?_
 · exact JX.pnI (by unfold stmtP;rw[Zb0,<-Z6L,hbad];rfl)
 intro z hz;have hK:isK 1 ts=true:=by rw[<-Z6L];exact hz
 refine vD ?_;refine vP [0,2] ?_;refine JO.mapMkS rfl (fun r24=>?_);refine JO.m (Z2k Zz Zf rfl rfl rfl (by simp[sGet]) .here) (by rfl) ?_;refine JO.m (Z2k Zz Zf rfl rfl rfl (by simp[sGet]) .here) (by rfl) ?_;refine JO.m (Z2k Zz Zf rfl rfl rfl (by simp[sGet]) .here) (by rfl) ?_;refine JO.m (Z2k Zz Zf rfl rfl rfl (by simp[sGet]) .here) (by rfl) ?_;refine JO.m (Z2k Zz Zf rfl rfl rfl (by simp[sGet]) .here) (by rfl) ?_;refine Jq (ZN rfl (Z6r 7) qA) ?_;refine JO.open_ (s:=25) (R:=PlF 7) rfl ?_;rintro _ ⟨_,b7,rfl,_⟩;refine JO.fact (HeapIs b7 [.int .i64 7] Z48) (fun X w hf _=>Zag (hf _ List.mem_cons_self)) (JO.m (Z2k Zz Zf rfl rfl rfl (by simp[sGet]) .here) (by rfl) ?_);refine Jq (ZN rfl (Z6r 8) qA) ?_;refine JO.open_ (s:=26) (R:=PlF 8) rfl ?_;rintro _ ⟨_,b8,rfl,_⟩;refine JO.fact (HeapIs b8 [.int .i64 8] Z48) (fun X w hf _=>Zag (hf _ List.mem_cons_self)) (JO.m (Z2k Zz Zf rfl rfl rfl (by simp[sGet]) .here) (by rfl) ?_);refine Jq (ZN rfl (Z6r 9) qA) ?_;refine JO.open_ (s:=27) (R:=PlF 9) rfl ?_;rintro _ ⟨_,b9,rfl,_⟩;refine JO.fact (HeapIs b9 [.int .i64 9] Z48) (fun X w hf _=>Zag (hf _ List.mem_cons_self)) (JO.m (Z2k Zz Zf rfl rfl rfl (by simp[sGet]) .here) (by rfl) ?_);refine Jm rfl (Ja rfl (vP [0,2,3] ?_));refine Jm rfl (Jm rfl ?_);refine JO.callPK (Lr:=[_,_]) (Z2Z T hc b ts hts 1) rfl (List.perm_append_comm (l₁:=[_,_]) (l₂:=[_])) qF qA (fun hbad=>?_) ?_
 · exact JX.pnI (by unfold stmtP;rw[hbad];rfl)
 rintro⟨⟨k1,w,n1⟩,r1⟩ hz1;refine vD ?_;refine Jq (Z4l (off:=1) qK rfl rfl) ?_;refine Jq (ZgH (l:=stF b7 b8 b9) (V:=(sGet w (stF b7 b8 b9)).getD .nilFunc) (B:=(sGet w (stF b7 b8 b9)).isSome) Zz Zf Z5q rfl rfl (List.mem_cons_of_mem _ List.mem_cons_self) rfl rfl) (Jm rfl (Jq (Zfv rfl rfl) (Jq (Zfv rfl rfl) (Ja rfl (Ja rfl (vP [0,2,4,5] ?_))))));refine Jm rfl (Jm rfl ?_);refine JO.callPK (Lr:=_) (Zt (.pointer (some ⟨b,0,none⟩)) (sGet w (stF b7 b8 b9)).isSome) rfl (Z2a _) Z1Z qA (fun hbad=>?_) ?_
 · exact JX.pnI (by exact Zgu hz1 hbad)
 intro _ hfo;refine vD ?_;refine vS [0,2,4] ?_;rcases Zg4 hfo with hw|hw|hw|hw|hw|hw|hw|hw
 subst hw;rw[show(sGet Z5c (stF b7 b8 b9)).getD .nilFunc=fv Z3q by simp[stF,sGet]];refine vQ ?_;refine Jm rfl (Jm rfl ?_);refine JO.callPvK (cp:=[]) (Lr:=[_,_]) rfl (Z7a N T hc h9 b r1 (show r1<:+T.ts from(Z1c 1 _ _ hz1).1.trans hts)) rfl (.refl _) qF (.one rfl .nil) (fun hbad=>?_) ?_
 · exact JX.pnI (by unfold stmtP;rw[hz1,Option.bind_some,if_pos (by rfl),hbad])
 intro z hz;refine vD ?_;refine JO.m (Z2 rfl rfl qU qC (by first|exact Zb rfl rfl|exact Z6n|exact Z4r|exact ZF) Zo) (by rfl) ?_;refine vS [2] ?_;refine vR ?_;refine JX.toP ?_;exact JX.retLCs (Lr:=[_,_]) rfl z (by unfold stmtP;rw[hz1,Option.bind_some,if_pos (by rfl),hz]) (.refl _) rfl rfl hb0 rfl Zj HasOwn.mem Z6l (Sub.refl _);subst hw;rw[show(sGet Z57 (stF b7 b8 b9)).getD .nilFunc=fv Z3s by simp[stF,sGet]];refine vQ ?_;refine Jm rfl (Jm rfl ?_);refine JO.callPvK (cp:=[]) (Lr:=[_,_]) rfl (Z76 N T hc h9 b r1 (show r1<:+T.ts from(Z1c 1 _ _ hz1).1.trans hts) (exprP M) (Z2K M) (fun us hus hu=>Z9F T hc b M us hus (by have:r1.length<ts.length:=(Z1c 1 _ _ hz1).2;omega))) rfl (.refl _) qF (.one rfl .nil) (fun hbad=>?_) ?_
 · exact JX.pnI (by unfold stmtP;rw[hz1,Option.bind_some,if_neg (by exact Bool.false_ne_true),if_pos (by rfl),hbad])
 intro z hz;refine vD ?_;refine JO.m (Z2 rfl rfl qU qC (by first|exact Zb rfl rfl|exact Z6n|exact Z4r|exact ZF) Zo) (by rfl) ?_;refine vS [2] ?_;refine vR ?_;refine JX.toP ?_;exact JX.retLCs (Lr:=[_,_]) rfl z (by unfold stmtP;rw[hz1,Option.bind_some,if_neg (by exact Bool.false_ne_true),if_pos (by rfl),hz]) (.refl _) rfl rfl hb0 rfl Zj HasOwn.mem Z6l (Sub.refl _);subst hw;rw[show(sGet Z58 (stF b7 b8 b9)).getD .nilFunc=fv Z3H by simp[stF,sGet]];refine vQ ?_;refine Jm rfl (Jm rfl ?_);refine JO.callPvK (cp:=[]) (Lr:=[_,_]) rfl (Z7Q N T hc h9 b r1 (show r1<:+T.ts from(Z1c 1 _ _ hz1).1.trans hts) (exprP M) (Z2K M) (fun us hus hu=>Z9F T hc b M us hus (by have:r1.length<ts.length:=(Z1c 1 _ _ hz1).2;omega))) rfl (.refl _) qF (.one rfl .nil) (fun hbad=>?_) ?_
 · exact JX.pnI (by unfold stmtP;rw[hz1,Option.bind_some,if_neg (by exact Bool.false_ne_true),if_neg (by exact Bool.false_ne_true),if_pos (by rfl),hbad])
 intro z hz;refine vD ?_;refine JO.m (Z2 rfl rfl qU qC (by first|exact Zb rfl rfl|exact Z6n|exact Z4r|exact ZF) Zo) (by rfl) ?_;refine vS [2] ?_;refine vR ?_;refine JX.toP ?_;exact JX.retLCs (Lr:=[_,_]) rfl z (by unfold stmtP;rw[hz1,Option.bind_some,if_neg (by exact Bool.false_ne_true),if_neg (by exact Bool.false_ne_true),if_pos (by rfl),hz]) (.refl _) rfl rfl hb0 rfl Zj HasOwn.mem Z6l (Sub.refl _);subst hw;rw[show(sGet Z5h (stF b7 b8 b9)).getD .nilFunc=fv Z3p by simp[stF,sGet]];refine vQ ?_;refine Jm rfl (Jm rfl ?_);refine JO.callPvK (cp:=[]) (Lr:=[_,_]) rfl (Z7g N T hc h9 b r1 (show r1<:+T.ts from(Z1c 1 _ _ hz1).1.trans hts) (exprP M) (Z2K M) (fun us hus hu=>Z9F T hc b M us hus (by have:r1.length<ts.length:=(Z1c 1 _ _ hz1).2;omega))) rfl (.refl _) qF (.one rfl .nil) (fun hbad=>?_) ?_
 · exact JX.pnI (by unfold stmtP;rw[hz1,Option.bind_some,if_neg (by exact Bool.false_ne_true),if_neg (by exact Bool.false_ne_true),if_neg (by exact Bool.false_ne_true),if_pos (by rfl),hbad])
 intro z hz;refine vD ?_;refine JO.m (Z2 rfl rfl qU qC (by first|exact Zb rfl rfl|exact Z6n|exact Z4r|exact ZF) Zo) (by rfl) ?_;refine vS [2] ?_;refine vR ?_;refine JX.toP ?_;exact JX.retLCs (Lr:=[_,_]) rfl z (by unfold stmtP;rw[hz1,Option.bind_some,if_neg (by exact Bool.false_ne_true),if_neg (by exact Bool.false_ne_true),if_neg (by exact Bool.false_ne_true),if_pos (by rfl),hz]) (.refl _) rfl rfl hb0 rfl Zj HasOwn.mem Z6l (Sub.refl _);subst hw;rw[show(sGet Z5f (stF b7 b8 b9)).getD .nilFunc=fv Z3r by simp[stF,sGet]];refine vQ ?_;refine Jm rfl (Jm rfl ?_);refine JO.callPvK (cp:=[]) (Lr:=[_,_]) rfl (Z78 N T hc h9 b r1 (show r1<:+T.ts from(Z1c 1 _ _ hz1).1.trans hts) (exprP M) (fun us hus hu=>Z9F T hc b M us hus (by have:r1.length<ts.length:=(Z1c 1 _ _ hz1).2;omega))) rfl (.refl _) qF (.one rfl .nil) (fun hbad=>?_) ?_
 · exact JX.pnI (by unfold stmtP;rw[hz1,Option.bind_some,if_neg (by exact Bool.false_ne_true),if_neg (by exact Bool.false_ne_true),if_neg (by exact Bool.false_ne_true),if_neg (by exact Bool.false_ne_true),if_pos (by rfl),hbad])
 intro z hz;refine vD ?_;refine JO.m (Z2 rfl rfl qU qC (by first|exact Zb rfl rfl|exact Z6n|exact Z4r|exact ZF) Zo) (by rfl) ?_;refine vS [2] ?_;refine vR ?_;refine JX.toP ?_;exact JX.retLCs (Lr:=[_,_]) rfl z (by unfold stmtP;rw[hz1,Option.bind_some,if_neg (by exact Bool.false_ne_true),if_neg (by exact Bool.false_ne_true),if_neg (by exact Bool.false_ne_true),if_neg (by exact Bool.false_ne_true),if_pos (by rfl),hz]) (.refl _) rfl rfl hb0 rfl Zj HasOwn.mem Z6l (Sub.refl _);subst hw;rw[show(sGet Z5X (stF b7 b8 b9)).getD .nilFunc= .func (.func Z1S) #[] #[.pointer (some ⟨b7,0,none⟩)] by simp[stF,sGet]];refine vQ ?_;refine Jm rfl (Jm rfl ?_);refine JO.callPvK (cp:=[.pointer (some ⟨b7,0,none⟩)]) (Lr:=[_,_]) rfl (Z5z N T hc h9 b r1 (show r1<:+T.ts from(Z1c 1 _ _ hz1).1.trans hts) b7 7) rfl (.refl _) qF (.one rfl .nil) (fun hbad=>?_) ?_
 · exact JX.pnI (by exact hbad.elim)
 intro z hz;refine vD ?_;refine JO.m (Z2 rfl rfl qU qC (by first|exact Zb rfl rfl|exact Z6n|exact Z4r|exact ZF) Zo) (by rfl) ?_;refine vS [2] ?_;refine vR ?_;refine JX.toP ?_;exact JX.retLCs (Lr:=[_,_]) rfl z (by unfold stmtP;rw[hz1,Option.bind_some,if_neg (by exact Bool.false_ne_true),if_neg (by exact Bool.false_ne_true),if_neg (by exact Bool.false_ne_true),if_neg (by exact Bool.false_ne_true),if_neg (by exact Bool.false_ne_true),if_pos (by rfl),hz]) (.refl _) rfl rfl hb0 rfl Zj HasOwn.mem Z6l (Sub.refl _);subst hw;rw[show(sGet Z59 (stF b7 b8 b9)).getD .nilFunc= .func (.func Z1S) #[] #[.pointer (some ⟨b8,0,none⟩)] by simp[stF,sGet]];refine vQ ?_;refine Jm rfl (Jm rfl ?_);refine JO.callPvK (cp:=[.pointer (some ⟨b8,0,none⟩)]) (Lr:=[_,_]) rfl (Z5z N T hc h9 b r1 (show r1<:+T.ts from(Z1c 1 _ _ hz1).1.trans hts) b8 8) rfl (.refl _) qF (.one rfl .nil) (fun hbad=>?_) ?_
 · exact JX.pnI (by exact hbad.elim)
 intro z hz;refine vD ?_;refine JO.m (Z2 rfl rfl qU qC (by first|exact Zb rfl rfl|exact Z6n|exact Z4r|exact ZF) Zo) (by rfl) ?_;refine vS [2] ?_;refine vR ?_;refine JX.toP ?_;exact JX.retLCs (Lr:=[_,_]) rfl z (by unfold stmtP;rw[hz1,Option.bind_some,if_neg (by exact Bool.false_ne_true),if_neg (by exact Bool.false_ne_true),if_neg (by exact Bool.false_ne_true),if_neg (by exact Bool.false_ne_true),if_neg (by exact Bool.false_ne_true),if_neg (by exact Bool.false_ne_true),if_pos (by rfl),hz]) (.refl _) rfl rfl hb0 rfl Zj HasOwn.mem Z6l (Sub.refl _);subst hw;rw[show(sGet Z3V (stF b7 b8 b9)).getD .nilFunc= .func (.func Z1S) #[] #[.pointer (some ⟨b9,0,none⟩)] by simp[stF,sGet]];refine vQ ?_;refine Jm rfl (Jm rfl ?_);refine JO.callPvK (cp:=[.pointer (some ⟨b9,0,none⟩)]) (Lr:=[_,_]) rfl (Z5z N T hc h9 b r1 (show r1<:+T.ts from(Z1c 1 _ _ hz1).1.trans hts) b9 9) rfl (.refl _) qF (.one rfl .nil) (fun hbad=>?_) ?_
 · exact JX.pnI (by exact hbad.elim)
 intro z hz;refine vD ?_;refine JO.m (Z2 rfl rfl qU qC (by first|exact Zb rfl rfl|exact Z6n|exact Z4r|exact ZF) Zo) (by rfl) ?_;refine vS [2] ?_;refine vR ?_;refine JX.toP ?_;exact JX.retLCs (Lr:=[_,_]) rfl z (by unfold stmtP;rw[hz1,Option.bind_some,if_neg (by exact Bool.false_ne_true),if_neg (by exact Bool.false_ne_true),if_neg (by exact Bool.false_ne_true),if_neg (by exact Bool.false_ne_true),if_neg (by exact Bool.false_ne_true),if_neg (by exact Bool.false_ne_true),if_neg (by exact Bool.false_ne_true),if_pos (by rfl),hz]) (.refl _) rfl rfl hb0 rfl Zj HasOwn.mem Z6l (Sub.refl _)
end Go.Proofs.YtbedigkncjbggaaGreatDoor
namespace Go.Pz
open Go Go.Vc
theorem ZcC{kids:List Ex}{a:Option Addr}{len:Nat}{X:Nat->Prop}{w:World}(h:Pers X w (KidsR kids a len)):
   ∃ps:List (Cel exE),ps.map Cel.x=kids/\Pers X w (RowG Cel.cs 8 ps a len)/\Pers X w (CelF exE ps):=by
 have h0:=h.now
 by_cases hn:len=0
 · have hk:kids=[]:=List.length_eq_zero_iff.1 (by rw[h0.1];exact hn)
   subst hk;exact⟨[],rfl,fun w' _=>⟨hn.symm,fun h=>absurd hn h⟩,fun w' _ p hp=>by cases hp⟩
 obtain⟨b,o,rfl,_⟩:=h0.2 hn;have hall: ∀i:Fin kids.length,∃cs:List Value,cs.length=8/\RowAt cs b (o+8*i.1) w/\Pers X w (ExR kids[i] (.agg cs.toArray)):=fun i=>Zct h (List.getElem?_eq_getElem i.2)
 let f:Fin kids.length->List Value:=fun i=>Classical.choose (hall i)
 have hf: ∀i,(f i).length=8/\RowAt (f i) b (o+8*i.1) w/\Pers X w (ExR kids[i] (.agg (f i).toArray)):=fun i=>Classical.choose_spec (hall i);have hl:0<kids.length:=by rw[h0.1];omega
 have hX: ¬X b:=ZcM (o:=o+8*0) fun w' hk=>by
   obtain⟨hl',hk'⟩:=h w' hk;obtain⟨b',o',e,hK⟩:=hk' hn;injection e with e
   injection e with e1 e2
   subst e1 e2;obtain⟨cs,_,h2,h3⟩:=Z8O kids b o w' 0 kids[0] hK (List.getElem?_eq_getElem hl);obtain⟨k,n,h4⟩:=Z5k h2;exact⟨k,n,h3 0 _ h4⟩
 obtain⟨C,t,fr,hC,_⟩: ∃(cs:Array Value) (t:TypeId) (fr:Nat×Nat),w.heap[b]? =some (.cells cs t fr)/\True:=by
   have h2:=hf ⟨0,hl⟩;obtain⟨k,n,h4⟩:=Z5k h2.2.2.now;obtain⟨cs,t,fr,q1,_⟩:=Zak (h2.2.1 0 _ h4);exact⟨cs,t,fr,q1,trivial⟩
 refine⟨List.ofFn fun i:Fin kids.length=>⟨kids[i],f i,(hf i).1,ZaE (hf i).2.2.now⟩,?_,fun w' hk=>⟨by rw[List.length_ofFn];exact h0.1,fun _=>⟨b,o,rfl,fun i p hp=>?_⟩⟩,fun w' hk p hp=>?_⟩
 · refine List.ext_getElem (by simp) fun i h1 h2=>?_
   simp
 · rw[List.getElem?_ofFn]at hp
   split at hp
   · rename_i hi
     injection hp with hp
     subst hp;intro j v hj;have:=(hf ⟨i,hi⟩).2.1 j v hj;rw[Z1u hC]at this;rw[Z1u (hk.get hC hX)];exact this
   · cases hp
 · obtain⟨i,rfl⟩:=List.mem_ofFn.1 hp
   exact(hf i).2.2 w' hk
section
variable{P:Program}{c:Ctx}{K:List (Nat×Ty)}{L:List Own}{Φ:List (World->Prop)}{Q:Exit->Act->World->Prop}
theorem SA.more{X:Nat->Prop}{a:Act}{w:World}(hs:SA c K L Φ X a w)(Ψ:List (World->Prop))(hΨ: ∀F∈Ψ,Pers X w F):SA c K L (Ψ++Φ) X a w:=
 ⟨hs.n,hs.d,hs.wf,hs.k,hs.l,hs.ld,fun F hF=>by
  rcases List.mem_append.1 hF with hF|hF
  · exact hΨ F hF
  · exact hs.f F hF,hs.x,hs.xs,hs.keeps,hs.may⟩
theorem J.kidsC{x:Code}{kids:List Ex}{a:Option Addr}{len:Nat}(h:KidsR kids a len∈Φ)(hj: ∀ps:List (Cel exE),ps.map Cel.x=kids->J P c K L (RowG Cel.cs 8 ps a len::CelF exE ps::Φ) x Q):J P c K L Φ x Q:=by
 refine⟨fun X a' w hs=>?_⟩;obtain⟨ps,h1,h2,h3⟩:=ZcC (hs.f _ h);refine(hj ps h1).out X a' w (SA.more hs [_,_] fun F hF=>?_);simp only[List.mem_cons,List.mem_nil_iff,or_false]at hF;rcases hF with rfl|rfl
 · exact h2
 · exact h3
theorem ZhK{xs:List Ex}{v:Value}{X:Nat->Prop}{w:World}(h:Pers X w (ExsR xs v)): ∃(ps:List (Cel exE)) (a:Option Addr) (len cap:Nat),ps.map Cel.x=xs/\v= .slice a len cap/\ps.length=len/\(∃b o,len≠0->a=some ⟨b,o,none⟩)/\Pers X w (RowG Cel.cs 8 ps a len)/\Pers X w (CelF exE ps):=by
 obtain⟨a,len,cap,rfl,hk⟩:=h.now;have hp:Pers X w (KidsR xs a len):=fun w' hk=>by
   obtain⟨a',len',cap',e,h1⟩:=h w' hk;injection e with e1 e2 e3
   subst e1 e2 e3;exact h1
 obtain⟨ps,h1,h2,h3⟩:=ZcC hp;refine⟨ps,a,len,cap,h1,rfl,h2.now.1,?_,h2,h3⟩
 by_cases hn:len=0
 · exact⟨0,0,fun h=>absurd hn h⟩
 · obtain⟨b,o,e,_⟩:=h2.now.2 hn
   exact⟨b,o,fun _=>e⟩
theorem J.shapeX{x:Code}{xs:List Ex}{v:Value}(h:ExsR xs v∈Φ)(hj: ∀(ps:List (Cel exE)) (a:Option Addr) (len cap b o:Nat),ps.map Cel.x=xs->v= .slice a len cap->ps.length=len->(len≠0->a=some ⟨b,o,none⟩)->J P c K L (RowG Cel.cs 8 ps a len::CelF exE ps::Φ) x Q):J P c K L Φ x Q:=by
 refine⟨fun X a' w hs=>?_⟩;obtain⟨ps,a,len,cap,h1,h2,h3,⟨b,o,h4⟩,h5,h6⟩:=ZhK (hs.f _ h);refine(hj ps a len cap b o h1 h2 h3 h4).out X a' w (SA.more hs [_,_] fun F hF=>?_);simp only[List.mem_cons,List.mem_nil_iff,or_false]at hF;rcases hF with rfl|rfl
 · exact h5
 · exact h6
theorem J.shapeE{α:Type}{E:Enc α}{G:GoS}{x:Code}{xs:List α}{v:Value}(h:SlE E G xs v∈Φ)(hj: ∀(ps:List (Cel E)) (a:Option Addr) (len cap b o:Nat),ps.map Cel.x=xs->v= .slice a len cap->ps.length=len->(len≠0->a=some ⟨b,o,none⟩)->J P c K L (RowG Cel.cs E.sz ps a len::CelF E ps::Φ) x Q):J P c K L Φ x Q:=by
 refine⟨fun X a' w hs=>?_⟩;obtain⟨ps,a,len,cap,h1,h2,_,h3,⟨b,o,h4⟩,h5,h6,_⟩:=Zeq (hs.f _ h);refine(hj ps a len cap b o h1 h2 h3 h4).out X a' w (SA.more hs [_,_] fun F hF=>?_);simp only[List.mem_cons,List.mem_nil_iff,or_false]at hF;rcases hF with rfl|rfl
 · exact h5
 · exact h6
theorem JO.apA{α:Type}{en:α->List Value}{sz:Nat}{L':List Own}{d:Nat}{ops:Array Oper}{rest:List Oper}{ty t tx e:TypeId}{pos:String}{after:Array Edge}{s x:Operand}{bytes cap:Nat}{xs:List α}(ys:List α){st:Option (Nat×List Value)}{TX:Ty}{C:Option (Nat×List Value)->List Own}
   (hT:ApTy P t e sz bytes)(hen: ∀x,(en x).length=sz)(hC:Cx e L st C L')(hG:Grows en sz xs st cap)(h0:opTy K s=some (.is (sliceO st xs.length cap)))(hx:opTy K x=some TX)(hS: ∀L,SrcOf P L Φ sz tx TX ys.length (ys.flatMap en))(hfit:(xs.length+ys.length)*bytes<=140737488355328)(h63:xs.length+ys.length<=9223372036854775807)(hd:Nat.blt d c.n=true)
   (hn: ∀(st':Option (Nat×List Value)) (cap':Nat),Grows en sz (xs++ys) st' cap'->JO P c ((d,.is (sliceO st' (xs++ys).length cap'))::K) (C st') Φ ops rest Q):
   JO P c K L Φ ops (⟨some d,.call {callee:=.builtin .append,args:= #[s,x],argTypes:= #[t,tx]},ty,pos,after,none⟩::rest) Q:=by
 cases st with
 |some p=>exact JO.apSL ys hT hC hG h0 hx (hS _) hfit h63 hd fun p' cap' hG'=>hn _ _ hG'
 |none=>
   have hxs:xs=[]:=hG;subst hxs;simp only[List.length_nil,Nat.zero_add,List.nil_append]at hfit h63 hn;refine JO.subL hC.tl.perm (JO.apN ys hT h0 hx (hS _) hfit h63 hd fun st' cap' hG'=>?_);exact JO.subL (hC.back st') (hn _ _ hG')
end
end Go.Pz
namespace Go.Pz
open Go Go.Vc
mutual
def ect:Ex->Nat
 | .mk _ _ _ _ _ _ _ kids=>ects kids+1
def ects:List Ex->Nat
 |[]=>0
 |x::xs=>ect x+ects xs
end
theorem Z3Q(x:Ex):ect x=ects x.KS+1:=by cases x;rw[ect];rfl
theorem Z5O{xs:List Ex}{x:Ex}(h:x∈xs):ect x<=ects xs:=by
 induction xs with
 |nil=>cases h
 |cons y ys ih=>
   rw[ects];rcases List.mem_cons.1 h with rfl|h
   · omega
   · have:=ih h;omega
theorem Zaw(xs:List Ex):xs.length<=ects xs:=by
 induction xs with
 |nil=>exact Nat.zero_le _
 |cons y ys ih=>
   rw[ects,List.length_cons];have:1<=ect y:=by rw[Z3Q];omega
   omega
mutual
theorem ZhC: ∀x:Ex,hgt x<=ect x
 | .mk _ _ _ _ _ _ _ kids=>by rw[hgt,ect];have:=Z7r kids;omega
theorem Z7r: ∀xs:List Ex,hgts xs<=ects xs
 |[]=>by rw[hgts,ects];exact Nat.le_refl _
 |x::xs=>by rw[hgts,ects];have:=ZhC x;have:=Z7r xs;omega
end
def Hb(p:Ps Ex):Prop:=∀ts z,p ts=some z->ect z.1+z.2.length<=ts.length
theorem Z3Y(k vk vn:Int)(vs tb nm:ByteArray)(sl:Int):ect (.mk k vk vn vs tb nm sl [])=1:=by rw[ect,ects]
theorem ZaF(k:Int)(x:Ex):ect (nd k [x])=ect x+1:=by rw[ect,ects,ects]
theorem ZgR(k:Int)(x y:Ex):ect (nd k [x,y])=ect x+ect y+1:=by rw[ect,ects,ects,ects];omega
theorem Zcy{part:Ps Ex}{k:Int}{ops:List (ByteArray×Int)}(hp:Hb part){M:Nat}: ∀(n:Nat) (x:Ex) (ts:List T3) (z:Ex×List T3),ect x+ts.length<=M->chainG part k ops n x ts=some z->ect z.1+z.2.length<=M
 |0,x,ts,z,hM,h=>by rw[chainG]at h;injection h with h;subst h;exact hM
 |n+1,x,ts,z,hM,h=>by
   rw[chainG]at h
   split at h
   · injection h with h;subst h;exact hM
   · rename_i q hq
     obtain⟨y,h1,h2⟩:=bnd h;have h3:=hp _ _ h1;have h4:=(Z3i hq).2;have h5:1<=ect y.1:=by
       obtain⟨y1,y2⟩:=y;cases y1;rw[ect];omega
     refine Zcy hp n _ _ _ ?_ h2;rw[ZgR];omega
theorem Z8M{part:Ps Ex}{k:Int}{ops:List (ByteArray×Int)}(hp:Hb part):Hb (chainP part k ops):=fun ts z h=>by
 obtain⟨y,h1,h2⟩:=bnd h;exact Zcy hp _ _ _ _ (hp _ _ h1) h2
section
variable{e:Ps Ex}(he:Hb e)
include he
theorem ZiL:Hb (kwP e):=fun ts z h=>by
 obtain⟨y,h1,h2⟩:=bnd h;have h3:=(Z1c 1 _ _ h1).2
 split at h2
 · injection h2 with h2;subst h2;rw[Z3Y];dsimp only;omega
 split at h2
 · injection h2 with h2;subst h2;rw[Z3Y];dsimp only;omega
 split at h2
 · injection h2 with h2;subst h2;rw[Z3Y];dsimp only;omega
 split at h2
 · cases h2
 obtain⟨u,h4,h5⟩:=bnd h2;have h6:=(Zk _ _ _ _ h4).2
 split at h5
 · rename_i hi
   simp only[Bool.and_eq_true]at hi;obtain⟨v,h7,rfl⟩:=mpd h5;have h8:=(Zk _ _ _ _ h7).2;have h9:=(ZG hi.2).2;rw[Z3Y];dsimp only;omega
 · obtain⟨x,h7,h8⟩:=bnd h5
   obtain⟨v,h9,rfl⟩:=mpd h8;have h10:=he _ _ h7;have h11:=(Zk _ _ _ _ h9).2;dsimp only;rw[ZaF];omega
theorem Zgh:Hb (atomP e):=fun ts z h=>by
 cases ts with
 |nil=>cases h
 |cons t r=>
   rw[atomP]at h
   split at h
   · injection h with h;subst h;rw[Z3Y];simp only[List.length_cons];omega
   split at h
   · injection h with h;subst h;rw[Z3Y];simp only[List.length_cons];omega
   split at h
   · split at h
     · rename_i hi
       obtain⟨v,h7,rfl⟩:=mpd h;have h8:=(ZV _ _ h7).2;have h9:=(ZG hi).2;rw[Z3Y];simp only[List.length_cons];omega
     · injection h with h;subst h;rw[Z3Y];simp only[List.length_cons];omega
   split at h
   · exact ZiL he _ _ h
   · obtain⟨u,h4,h5⟩:=bnd h
     obtain⟨x,h7,h8⟩:=bnd h5;obtain⟨v,h9,rfl⟩:=mpd h8;have h10:=he _ _ h7;have h11:=(Zk _ _ _ _ h9).2;have h12:=(Zk _ _ _ _ h4).2;dsimp only;omega
theorem ZbC: ∀(ts:List T3) (z:Ex×List T3),factorP e ts=some z->ect z.1+z.2.length<=ts.length
 |[],z,h=>by rw[factorP]at h;cases h
 |t::r,z,h=>by
   rw[factorP]at h
   split at h
   · obtain⟨v,h7,rfl⟩:=mpd h
     have:=ZbC r v h7;dsimp only;rw[ZaF];simp only[List.length_cons];omega
   · exact Zgh he _ _ h
theorem Zhh:Hb (prodP e):=Z8M (ZbC he)
theorem Zcx:Hb (sumP e):=Z8M (Zhh he)
theorem ZeS{x:Ex}{ts:List T3}{z:Ex×List T3}{M:Nat}(hM:ect x+ts.length<=M)(h:cmpP e x ts=some z):ect z.1+z.2.length<=M:=by
 unfold cmpP at h
 split at h
 · rename_i q hq
   obtain⟨v,h7,rfl⟩:=mpd h;have h8:=Zcx he _ _ h7;have h9:=(Z3i hq).2;have h5:1<=ect v.1:=by
     obtain⟨y1,y2⟩:=v;cases y1;rw[ect];omega
   dsimp only;rw[ZgR];omega
 · split at h
   · rename_i hi
     have h9:=(ZG hi).2
     split at h
     · rename_i hj
       obtain⟨v,h7,rfl⟩:=mpd h;have h8:=(Zk _ _ _ _ h7).2;have h10:=(ZG hj).2;dsimp only;rw[ZaF];omega
     · obtain⟨v,h7,rfl⟩:=mpd h
       have h8:=(Zk _ _ _ _ h7).2;dsimp only;rw[ZaF];omega
   · injection h with h;subst h;exact hM
theorem Zft: ∀(ts:List T3) (z:Ex×List T3),notP e ts=some z->ect z.1+z.2.length<=ts.length
 |[],z,h=>by
   rw[notP]at h;obtain⟨y,h1,h2⟩:=bnd h;exact ZeS he (Zcx he _ _ h1) h2
 |t::r,z,h=>by
   rw[notP]at h
   split at h
   · obtain⟨v,h7,rfl⟩:=mpd h
     have:=Zft r v h7;dsimp only;rw[ZaF];simp only[List.length_cons];omega
   · obtain⟨y,h1,h2⟩:=bnd h
     exact ZeS he (Zcx he _ _ h1) h2
theorem ZiF:Hb (orP e):=Z8M (Z8M (Zft he))
end
theorem Z9V: ∀n,Hb (exprP n)
 |0,ts,z,h=>by cases h
 |n+1,ts,z,h=>ZiF (Z9V n) ts z h
def HB(M:Nat)(x:Ex):Prop:=ect x<=M
theorem ZiQ{e:Ps Ex}(he:Hb e){M:Nat}{ts:List T3}{z:Ex×List T3}(hM:ts.length<=M)(h:e ts=some z):HB M z.1:=by
 have:=he _ _ h;unfold HB;omega
def Pb{α:Type}(f:α->List Ex)(M:Nat)(p:Ps α):Prop:=∀ts z,ts.length<=M->p ts=some z->∀x∈f z.1,ect x<=M
theorem Ze8{α:Type}{f:α->List Ex}{M:Nat}{p:Ps α}(hd:Dn0 p)(h:Pb f M p): ∀n ts z,ts.length<=M->listG p n ts=some z->∀y∈z.1,∀x∈f y,ect x<=M
 |0,ts,z,_,hz=>by rw[listG]at hz;injection hz with hz;subst hz;intro y hy;cases hy
 |n+1,ts,z,hM,hz=>by
   rw[listG]at hz
   split at hz
   · rename_i hi
     obtain⟨w,h1,h2⟩:=bnd hz;obtain⟨y,h3,rfl⟩:=mpd h2;have h4:=(ZG hi).2;have h5:=(hd _ _ h1).length_le;intro v hv;rcases List.mem_cons.1 hv with rfl|hv
     · exact h _ _ qM h1
     · exact Ze8 hd h n _ _ qM h3 v hv
   · injection hz with hz;subst hz;intro y hy;cases hy
theorem Z8g{α:Type}{f:α->List Ex}{M:Nat}{p:Ps α}{most:Nat}(hd:Dn0 p)(h:Pb f M p){ts:List T3}{z:List α×List T3}(hM:ts.length<=M)(hz:listP most p ts=some z): ∀y∈z.1,∀x∈f y,ect x<=M:=by
 obtain⟨w,h1,h2⟩:=bnd hz;obtain⟨y,h3,h4⟩:=bnd h2;have h5:=(hd _ _ h1).length_le
 split at h4
 · injection h4 with h4;subst h4
   intro v hv;rcases List.mem_cons.1 hv with rfl|hv
   · exact h _ _ hM h1
   · exact Ze8 hd h _ _ _ qM h3 v hv
 · cases h4
theorem leM{a b:List T3}{M:Nat}(h:a<:+b)(hM:b.length<=M):a.length<=M:=Nat.le_trans h.length_le hM
section
variable{e:Ps Ex}(hd:Dn e)(he:Hb e){M:Nat}
include he
theorem e_b:Pb (fun x=>[x]) M e:=fun ts z hM h x hx=>by
 rw[List.mem_singleton.1 hx];have:=he _ _ h;omega
theorem Zaj{ts:List T3}{z:List Ex×List T3}(hM:ts.length<=M)(h:whereP e ts=some z): ∀x∈z.1,ect x<=M:=by
 unfold whereP at h
 split at h
 · rename_i hi
   obtain⟨v,h5,rfl⟩:=mpd h;intro x hx;rw[List.mem_singleton.1 hx];have:=he _ _ h5;have:=(ZG hi).2
   omega
 · injection h with h;subst h;intro x hx;cases hx
include hd
theorem Zes{most:Nat}{ts:List T3}{z:List Ex×List T3}(hM:ts.length<=M)(h:listP most e ts=some z): ∀x∈z.1,ect x<=M:=fun x hx=>Z8g hd.le (e_b he) hM h x hx x List.mem_cons_self
theorem ZgF:Pb (fun l=>l) M (withinP e):=fun ts z hM h=>by
 obtain⟨a,h1,h2⟩:=bnd h;obtain⟨l,h3,h4⟩:=bnd h2;obtain⟨v,h5,rfl⟩:=mpd h4;exact Zes (z:=l) hd he (leM (Zk _ _ _ _ h1).1 hM) h3
theorem Zdq: ∀n ts z,ts.length<=M->joinsG e n ts=some z->∀s∈z.1,∀x∈s.on,ect x<=M
 |0,ts,z,_,hz=>by rw[joinsG]at hz;injection hz with hz;subst hz;intro y hy;cases hy
 |n+1,ts,z,hM,hz=>by
   rw[joinsG]at hz
   split at hz
   · obtain⟨w,h1,h2⟩:=bnd hz
     obtain⟨y,h3,rfl⟩:=mpd h2;have h4:=(Z64 hd _ _ h1).1;have h5:=Z2o 1 Z15 ts;intro v hv;rcases List.mem_cons.1 hv with rfl|hv
     · obtain⟨a,g1,g2⟩:=bnd h1
       obtain⟨s,g3,g4⟩:=bnd g2;obtain⟨b,g5,g6⟩:=bnd g4;obtain⟨x,g7,g8⟩:=mpd g6;subst g8;have h6:b.2.length<=M:=leM ((Zk _ _ _ _ g5).1.trans ((Z4F _ _ g3).1.trans ((Zk _ _ _ _ g1).1.trans h5))) hM;intro y hy;rw[List.mem_singleton.1 hy];have:=he _ _ g7;omega
     · exact Zdq n _ _ (leM (h4.trans h5) hM) h3 v hv
   · injection hz with hz;subst hz;intro y hy;cases hy
theorem Zbc{ts:List T3}{z:St×List T3}(hM:ts.length<=M)(h:stmtP e ts=some z): ∀x∈exsOf z.1,ect x<=M:=by
 unfold stmtP at h;obtain⟨w,h1,h⟩:=bnd h;have hw:w.2.length<=M:=leM (Z1c 1 _ _ h1).1 hM
 split at h
 · unfold createP at h
   split at h
   · obtain⟨n,_,h⟩:=bnd h
     obtain⟨c,_,rfl⟩:=mpd h;intro x hx;simp[exsOf,stK]at hx
   · obtain⟨_,_,h⟩:=bnd h
     obtain⟨_,_,h⟩:=bnd h;obtain⟨_,_,h⟩:=bnd h;obtain⟨_,_,h⟩:=bnd h;obtain⟨_,_,h⟩:=bnd h;obtain⟨_,_,h⟩:=bnd h;obtain⟨_,_,h⟩:=bnd h
     split at h
     · obtain⟨v,_,rfl⟩:=mpd h
       intro x hx;simp[exsOf,stK]at hx
     · injection h with h;subst h
       intro x hx;simp[exsOf,stK]at hx
 split at h
 · obtain⟨a,g1,h⟩:=bnd h
   obtain⟨n,g2,h⟩:=bnd h;have h3:n.2.length<=M:=leM ((ZV _ _ g2).1.trans (Zk _ _ _ _ g1).1) hw;have rows: ∀tb ns us z,us.length<=M->insRows e tb ns us=some z->∀x∈exsOf z.1,ect x<=M:=fun tb ns us z hu h=>by
     obtain⟨a,k1,h⟩:=bnd h;obtain⟨r,k2,rfl⟩:=mpd h;have:=Z8g (Z39 hd.le).le (ZgF hd he) (leM (Zk _ _ _ _ k1).1 hu) k2;intro x hx
     simp[exsOf,stK]at hx
     obtain⟨l,hl,hx⟩:=hx;exact this l hl x hx
   split at h
   · obtain⟨l,g3,h⟩:=bnd h
     exact rows _ _ _ _ (leM (Z39 ZV.le _ _ g3).1 h3) h
   · exact rows _ _ _ _ h3 h
 split at h
 · obtain⟨i,g1,h⟩:=bnd h
   obtain⟨a,g2,h⟩:=bnd h;obtain⟨s,g3,h⟩:=bnd h;obtain⟨j,g4,h⟩:=bnd h;have hi:Pb (fun i:Itm=>[i.ex]) M (itemP e):=fun us z hu h=>by
     unfold itemP at h
     split at h
     · injection h with h;subst h
       intro x hx;rename_i ht;rw[List.mem_singleton.1 hx];have:=(ZG ht).2;show ect (.mk 0 0 0 em em em 0 [])<=M;rw[Z3Y];omega
     · obtain⟨v,h5,rfl⟩:=mpd h
       intro x hx;rw[List.mem_singleton.1 hx];have:=he _ _ h5;dsimp only;omega
   have hk:Pb (fun k:Ky=>[k.ex]) M (keyP e):=fun us z hu h=>by
     obtain⟨v,h5,h6⟩:=mpd h;have:=he _ _ h5
     split at h6<;>subst h6<;>intro x hx<;>rw[List.mem_singleton.1 hx]<;>dsimp only<;>omega
   have b1:=Z8g (Z5V hd).le hi hw g1;have m1:=leM (Z3g (Z5V hd).le 16 _ _ g1) hw;have m2:=leM (Zk _ _ _ _ g2).1 m1;have m3:=leM (Z4F _ _ g3).1 m2;have b2:=Zdq hd he _ _ _ m3 g4
   split at h
   · obtain⟨w2,k1,h⟩:=bnd h
     obtain⟨g,k2,h⟩:=bnd h;obtain⟨o,k3,h⟩:=bnd h;obtain⟨l,k4,rfl⟩:=mpd h;have m4:j.2.length<=M:=by
       have: ∀n us z,joinsG e n us=some z->z.2<:+us:=fun n=>by
         induction n with
         |zero=>intro us z h;rw[joinsG]at h;injection h with h;subst h;exact List.suffix_refl us
         |succ n ih=>
           intro us z h;rw[joinsG]at h
           split at h
           · obtain⟨w,h1,h2⟩:=bnd h
             obtain⟨y,h3,rfl⟩:=mpd h2;exact(ih _ _ h3).trans ((Z64 hd _ _ h1).1.trans (Z2o _ _ _))
           · injection h with h;subst h;exact List.suffix_refl us
       exact leM (this _ _ _ g4) m3
     have b3:=Zaj he m4 k1;have m5:w2.2.length<=M:=by
       unfold whereP at k1
       split at k1
       · rename_i ht
         obtain⟨v,h5,rfl⟩:=mpd k1;exact leM ((hd _ _ h5).1.trans (ZG ht).1) m4
       · injection k1 with k1;subst k1;exact m4
     have b4: ∀x∈g.1,ect x<=M/\True:=fun x hx=>by
       unfold groupP at k2
       split at k2
       · rename_i ht
         obtain⟨a,q1,q2⟩:=bnd k2;exact⟨Zes hd he (leM ((Zk _ _ _ _ q1).1.trans (ZG ht).1) m5) q2 x hx,trivial⟩
       · injection k2 with k2;subst k2;cases hx
     have m6:g.2.length<=M:=by
       unfold groupP at k2
       split at k2
       · rename_i ht
         obtain⟨a,q1,q2⟩:=bnd k2;exact leM ((Z3g hd.le 16 _ _ q2).trans ((Zk _ _ _ _ q1).1.trans (ZG ht).1)) m5
       · injection k2 with k2;subst k2;exact m5
     have b5: ∀k∈o.1,ect k.ex<=M:=fun k hx=>by
       unfold orderP at k3
       split at k3
       · rename_i ht
         obtain⟨a,q1,q2⟩:=bnd k3;exact Z8g (Z8c hd).le hk (leM ((Zk _ _ _ _ q1).1.trans (ZG ht).1) m6) q2 k hx _ List.mem_cons_self
       · injection k3 with k3;subst k3;cases hx
     have hs:s.1.on=[]:=by
       unfold sourceP at g3;obtain⟨n,_,g3⟩:=bnd g3
       split at g3
       · obtain⟨m,_,rfl⟩:=mpd g3;rfl
       split at g3
       · obtain⟨m,_,rfl⟩:=mpd g3;rfl
       · injection g3 with g3;subst g3;rfl
     intro x hx
     simp[exsOf,stK,hs]at hx
     rcases hx with⟨a,ha,rfl⟩|⟨_,⟨a,ha,rfl⟩,hx⟩|⟨a,ha,rfl⟩|hx|hx
     · exact b1 a ha _ List.mem_cons_self
     · exact b2 a ha x hx
     · exact b5 a ha
     · exact b3 x hx
     · exact(b4 x hx).1
   · cases h
 split at h
 · obtain⟨n,g1,h⟩:=bnd h
   obtain⟨a,g2,h⟩:=bnd h;obtain⟨l,g3,h⟩:=bnd h;obtain⟨w2,g4,rfl⟩:=mpd h;have hs:Pb (fun k:ByteArray×Ex=>[k.2]) M (setP e):=fun us z hu h=>by
     obtain⟨a,h1,h2⟩:=bnd h;obtain⟨l,h3,h4⟩:=bnd h2;obtain⟨v,h5,rfl⟩:=mpd h4;intro x hx;rw[List.mem_singleton.1 hx];have:=he _ _ h5;have:=(Zk _ _ _ _ h3).2;have:=(ZV _ _ h1).2;dsimp only;omega
   have m1:=leM ((Zk _ _ _ _ g2).1.trans (ZV _ _ g1).1) hw;have b1:=Z8g (Z6I hd).le hs m1 g3;have b2:=Zaj he (leM (Z3g (Z6I hd).le 16 _ _ g3) m1) g4;intro x hx
   simp[exsOf,stK]at hx
   rcases hx with hx|⟨a,ha⟩
   · exact b2 x hx
   · exact b1 _ ha _ List.mem_cons_self
 split at h
 · obtain⟨a,g1,h⟩:=bnd h
   obtain⟨n,g2,h⟩:=bnd h;obtain⟨w2,g3,rfl⟩:=mpd h;have b2:=Zaj he (leM ((ZV _ _ g2).1.trans (Zk _ _ _ _ g1).1) hw) g3;intro x hx
   simp[exsOf,stK]at hx
   exact b2 x hx
 split at h
 · injection h with h;subst h;intro x hx;simp[exsOf,stK]at hx
 split at h
 · injection h with h;subst h;intro x hx;simp[exsOf,stK]at hx
 split at h
 · injection h with h;subst h;intro x hx;simp[exsOf,stK]at hx
 · cases h
end
end Go.Pz
set_option maxRecDepth 20000
namespace Go.Proofs.YtbedigkncjbggaaGreatDoor
open Go Go.Vc
open Go.Pz
abbrev hgK(xs:List Ex)(i:Nat):Nat:=hgts (xs.take i)
theorem ZeW(xs:List Ex)(x:Ex):hgts (xs++[x])=max (hgts xs) (hgt x):=by
 induction xs with
 |nil=>simp[hgts]
 |cons y ys ih=>rw[List.cons_append,hgts,hgts,ih];omega
theorem Zd3{xs:List Ex}{i:Nat}(h:i<xs.length):hgK xs (i+1)=max (hgK xs i) (hgt (xs.getD i ex0)):=by
 show hgts (xs.take (i+1))=_;rw[List.take_add_one,List.getElem?_eq_getElem h,Option.toList_some,ZeW,List.getD_eq_getElem?_getD,List.getElem?_eq_getElem h]
 rfl
theorem Z8z(x:Ex):hgt x=hgts x.KS+1:=by cases x;rw[hgt];rfl
theorem Z4p{xs:List Ex}{i:Nat}(h:i<xs.length):xs.getD i ex0∈xs:=by
 rw[List.getD_eq_getElem?_getD,List.getElem?_eq_getElem h];exact List.getElem_mem h
theorem Z5L{xs:List Ex}{i:Nat}(h:i<xs.length):xs[i]? =some (xs.getD i ex0):=by
 rw[List.getD_eq_getElem?_getD,List.getElem?_eq_getElem h];rfl
theorem Z9r(x:Ex)(hx:ect x<=4096)(ih: ∀y∈x.KS,CallTy Tryz.prog Z62 [.rep (ExR y)] (.is (.int .i64 (hgt y:Nat)))):CallTy Tryz.prog Z62 [.rep (ExR x)] (.is (.int .i64 (hgt x:Nat))):=
 CallTy.of (fn:=Tryz.f66) Tryz.func66 (n:=20) rfl rfl rfl (fun _ _=>by kernel_rfl) fun E W=>by
 have hlen:=Zaw x.KS;rw[Z3Q]at hx;have hhx:=Z7r x.KS;refine J.openA (s:=0) rfl (fun a0 l0 q0 b0 o0 hl0 ha0=>?_);subst hl0;refine vQ ?_;refine JO.box rfl rfl fun b1=>(Ja rfl (vP [1] ?_));refine Ja rfl (vP [1,3] ?_);refine Jq (Z0 Z3v rfl) (Jq (Z5 ZB rfl rfl) (Jq (ZD Zs rfl) (Jm rfl (vS [3,7,8,9] ?_))));apply yk
 repeat apply yQ
 refine J.loopG (α:=Nat) (fun i=>[(3,.is (.int .i64 (hgK x.KS i:Nat))),(7,.is (.slice a0 x.KS.length q0)),(8,.is (.int .i64 (x.KS.length:Nat))),(9,.is (.int .i64 (i:Nat)))]) (fun i=>[⟨b1,Z7,.is (.agg (exCells x.K x.VK x.VN x.VS x.TB x.NM x.SL a0 x.KS.length q0).toArray)⟩]) (fun i=>fun _=>True) (fun i=>i<=x.KS.length) (fun i=>x.KS.length-i) 0 [3,7,8,9] (.cons rfl (.cons rfl (.cons rfl (.cons rfl .nil)))) rfl (fun _=>trivial) qM fun i hi=>?_;refine vQ ?_;refine Jq (Z10 rfl rfl) (vS [3,7,8,9,10] ?_);refine yC rfl (fun ht10=>?_) (fun ht10=>?_)
 try simp only[yd,yf]at ht10
 apply yK;refine vN ?_;apply yk;refine vQ ?_;refine Jq (Zi Z2A rfl (ha0 qM) rfl qM qM) ?_;refine Jq (Z4C (kid:=x.KS.getD i ex0) Z8 rfl qI (ha0 qM) (Z5L qM) qM) ?_;refine JO.alloc Z14 rfl fun b5=>(JO.m (Z2 rfl rfl qU qC qO Zc) (by rfl) ?_);refine vP [3,5,7,8,9] ?_;refine Jm rfl (Jq (Z1J Z8 rfl) (Jq (ZN rfl (ih _ (Z4p qM)) (.one rfl .nil)) ?_));refine Jq (Zed (cc:=((hgK x.KS (i+1):Nat):Int)) rfl rfl (by rw[Zd3 qM];split<;>omega)) ?_;refine Ja rfl (vP [3,7,8,9] ?_);refine Jq (Zv (cc:=((i+1:Nat):Int)) rfl rfl qM qM (by have:=hlen;omega)) ?_;refine Jm rfl ?_;apply yI
 repeat refine JX.normal_block ?_
 refine JX.roundG (x:=i) (i+1) ?_ ?_ [3,7,8,9] ?_ ?_ ?_ ?_
 · exact qM
 · exact qM
 · exact qS
 · exact qH
 · exact qG
 · exact fun _ _ _=>fun _ _=>trivial
 try simp only[yd,yf]at ht10
 repeat apply yQ
 refine J.exit ?_
 repeat first|refine yH ?_|refine yM rfl ?_|refine yE ?_
 refine vN ?_;apply yN;refine Jm rfl (Jq (Zv (cc:=((hgt x:Nat):Int)) rfl rfl (by rw[Z8z,show i=x.KS.length by omega,hgK,List.take_length];omega) (by have:=Z8z x;omega) (by have:=Z8z x;omega)) ?_);refine Ja rfl (vS [2] ?_);refine vR ?_;exact JX.ret1sub rfl rfl rfl (Sub.refl _)
theorem Z8i: ∀(n:Nat) (x:Ex),ect x<=n->ect x<=4096->CallTy Tryz.prog Z62 [.rep (ExR x)] (.is (.int .i64 (hgt x:Nat)))
 |0,x,h,_=>absurd h (by rw[Z3Q];omega)
 |n+1,x,h,hx=>Z9r x hx fun y hy=>Z8i n y (by have:=Z5O hy;rw[Z3Q]at h;omega) (by have:=Z5O hy;rw[Z3Q]at hx;omega)
theorem Z9s(x:Ex)(hx:ect x<=4096)(ih: ∀y∈x.KS,CallTy Tryz.prog Z5P [.rep (ExR y)] (.is (.int .i64 (hgt y:Nat)))):CallTy Tryz.prog Z5P [.rep (ExR x)] (.is (.int .i64 (hgt x:Nat))):=
 CallTy.of (fn:=Tryz.f16) Tryz.func16 (n:=22) rfl rfl rfl (fun _ _=>by kernel_rfl) fun E W=>by
 have hlen:=Zaw x.KS;rw[Z3Q]at hx;have hhx:=Z7r x.KS;refine J.openA (s:=0) rfl (fun a0 l0 q0 b0 o0 hl0 ha0=>?_);subst hl0;refine vQ ?_;refine JO.box rfl rfl fun b1=>(Ja rfl (vP [1] ?_));refine Ja rfl (vP [1,3] ?_);refine Ja rfl (vS [1,3,4] ?_);apply yk
 repeat apply yQ
 refine J.loopG (α:=Nat) (fun i=>[(1,.is (.pointer (some ⟨b1,0,none⟩))),(3,.is (.int .i64 (hgK x.KS i:Nat))),(4,.is (.int .i64 (i:Nat)))]) (fun i=>[⟨b1,Z7,.is (.agg (exCells x.K x.VK x.VN x.VS x.TB x.NM x.SL a0 x.KS.length q0).toArray)⟩]) (fun i=>fun _=>True) (fun i=>i<=x.KS.length) (fun i=>x.KS.length-i) 0 [1,3,4] (.cons rfl (.cons rfl (.cons rfl .nil))) rfl (fun _=>trivial) qM fun i hi=>?_;refine vQ ?_;refine Jm rfl (Jq (Z0 Z3v rfl) (Jq (Z5 ZB rfl rfl) (Jq (ZD Zs rfl) (Jq (Z10 rfl rfl) (vS [1,3,4,9] ?_)))));refine yC rfl (fun ht9=>?_) (fun ht9=>?_)
 try simp only[yd,yf]at ht9
 apply yK;refine vN ?_;apply yk;refine vQ ?_;refine Jm rfl (Jq (Z0 Z3v rfl) (Jq (Z5 ZB rfl rfl) (Jm rfl (Jq (Zi Z2A rfl (ha0 qM) rfl qM qM) ?_))));refine Jq (Z4C (kid:=x.KS.getD i ex0) Z8 rfl qI (ha0 qM) (Z5L qM) qM) ?_;refine Jq (ZN rfl (ih _ (Z4p qM)) (.one rfl .nil)) ?_;refine Jq (Zed (cc:=((hgK x.KS (i+1):Nat):Int)) rfl rfl (by rw[Zd3 qM];split<;>omega)) ?_;refine Ja rfl (vP [1,3,4] ?_);refine Jm rfl (Jq (Zv (cc:=((i+1:Nat):Int)) rfl rfl qM qM (by have:=hlen;omega)) ?_);refine Ja rfl ?_;apply yI
 repeat refine JX.normal_block ?_
 refine JX.roundG (x:=i) (i+1) ?_ ?_ [1,3,4] ?_ ?_ ?_ ?_
 · exact qM
 · exact qM
 · exact qS
 · exact qH
 · exact qG
 · exact fun _ _ _=>fun _ _=>trivial
 try simp only[yd,yf]at ht9
 repeat apply yQ
 refine J.exit ?_
 repeat first|refine yH ?_|refine yM rfl ?_|refine yE ?_
 refine vN ?_;apply yN;refine Jm rfl (Jq (Zv (cc:=((hgt x:Nat):Int)) rfl rfl (by rw[Z8z,show i=x.KS.length by omega,hgK,List.take_length];omega) (by have:=Z8z x;omega) (by have:=Z8z x;omega)) ?_);refine Ja rfl (vS [2] ?_);refine vR ?_;exact JX.ret1sub rfl rfl rfl (Sub.refl _)
theorem Z86: ∀(n:Nat) (x:Ex),ect x<=n->ect x<=4096->CallTy Tryz.prog Z5P [.rep (ExR x)] (.is (.int .i64 (hgt x:Nat)))
 |0,x,h,_=>absurd h (by rw[Z3Q];omega)
 |n+1,x,h,hx=>Z9s x hx fun y hy=>Z86 n y (by have:=Z5O hy;rw[Z3Q]at h;omega) (by have:=Z5O hy;rw[Z3Q]at hx;omega)
end Go.Proofs.YtbedigkncjbggaaGreatDoor
