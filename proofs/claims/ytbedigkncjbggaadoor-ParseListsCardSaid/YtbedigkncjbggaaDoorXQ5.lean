/- The parser: statements. No condition. -/
import Derived.Test.YtbedigkncjbggaaDoorXQ4
import Derived.Test.YtbedigkncjbggaaDoorXQ3
import Derived.Test.YtbedigkncjbggaaDoorXG8
import Derived.Test.YtbedigkncjbggaaDoorXQ1
set_option maxRecDepth 20000
namespace Go.Proofs.YtbedigkncjbggaaDoor
open Go Go.Vc
open Go.Pz
theorem Z95:TEq Tryd.prog Z1r Z3V Z55 Zcv:=⟨by kernel_rfl,by kernel_rfl,by kernel_rfl,by kernel_rfl,by kernel_rfl,by kernel_rfl,by kernel_rfl⟩
theorem ZcO{ps:List (Cel exE)}{st:Option (Nat×List Value)}{cap:Nat}{w:World}(hG:Grows Cel.cs 8 ps st cap)(hR:RowG Cel.cs 8 ps (adO st) ps.length w)(hF:CelF exE ps w):ExsR (ps.map Cel.x) (sliceO st ps.length cap) w:=SlE.exs (SlE.ofGr0 hG hR hF)
theorem ZcZ(l:List (ByteArray×Cel exE)):(l.map pcX).map (·.2)=(l.map (·.2)).map Cel.x:=by rw[List.map_map,List.map_map];rfl
abbrev stC(s:ByteArray):Cel stE:=⟨s,[.string s],rfl,fun u h=>by rw[List.mem_singleton.1 h];rfl⟩
theorem Zec(s:ByteArray)(w:World):CelF stE [stC s] w:=fun p hp=>by rw[List.mem_singleton.1 hp];rfl
theorem Sub.rwT{L:List Own}{Φ:List (World->Prop)}{G:GoS}{xs:List Ex}{V:Value}(hF:SlE exE G xs V∈Φ):Sub L Φ (.is V) (.rep (rwE.T xs)):=fun X v w hf e=>by
 rw[show v=_ from e];exact fun w' hk=>⟨[V],rfl,V,rfl,SlE.exs (hf.2 _ hF w' hk)⟩
theorem Z7F(ts:List T3):(decide ((0:Int)<((ts.length:Nat):Int))&&teq (ts.headD t3D) ⟨5,s_lp,0⟩)=isLp ts:=by
 cases ts with
 |nil=>rfl
 |cons t r=>
   rw[decide_eq_true (show(0:Int)<(((t::r).length:Nat):Int) by simp),Bool.true_and];show((t.k==5)&&(seq t.t s_lp&&(t.n==0)))=((t.k==5)&&(sq t.t s_lp&&(t.n==0)));rw[Z4G]
attribute [local irreducible] SlE ExsR
theorem Z4T(N:Nat)(T:Tk)(hc:T.ts.length<=T.cap)(h9:T.ts.length<=2049)(b:Nat)(ts:List T3)(hts:ts<:+T.ts)(e:Ps Ex)(hed:Dn e)(hex: ∀us,us<:+T.ts->us.length<=ts.length->CallP Tryd.prog Zn [PB T b (us)] [T.G,AF] [.is (.pointer (some ⟨b,0,none⟩))] (e (us)=none) flt (fun z:Ex×List T3=>e (us)=some z) (fun z=>[PB T b z.2]) (fun z=>.rep (ExR z.1))):CallP Tryd.prog Z1V [PB T b ts] [T.G,AF,NH N] [.is (.pointer (some ⟨b,0,none⟩))] (updateP e ts=none) flt (fun z:Pz.St×List T3=>updateP e ts=some z) (fun z=>[PB T b z.2]) (fun z=>.rep (StR N z.1)):=
CallP.ofN (N:=N) (List.mem_cons_of_mem _ (List.mem_cons_of_mem _ List.mem_cons_self)) (fn:=Tryd.f17) Tryd.func17 (n:=17) rfl rfl rfl (fun _ _=>by kernel_rfl) fun E W hNW hb0=>by
 refine vQ ?_;refine JO.alloc ZE rfl fun b2=>(vP [0,2] ?_);refine Jm rfl ?_;refine JO.callPK (Lr:=[_]) (Zr T hc b ts hts) rfl (List.perm_append_comm (l₁:=[_]) (l₂:=[_])) qF qA (fun hbad=>?_) ?_
 · exact JX.pnI (by unfold updateP;rw[hbad];rfl)
 intro z1 hz1;have h1:Lt z1.2 ts:=Zw _ _ hz1;refine vD ?_;refine Jq (Zo (cs:=[_,_,_,_,_,_,_,_,_,_,_,_,_,_]) Z1y (.cons rfl (.cons rfl (.cons rfl .nil))) rfl rfl) (JO.alloc ZE rfl fun b3=>(JO.m (Z2 rfl rfl qU qC qO Zk) (by rfl) ?_));refine vP [0,2,3] ?_;refine Jm rfl ?_;refine JO.callPK (Lr:=[_,_]) (Zg T hc b (z1.2) (h1.1.trans hts) ZcV (by decide+kernel) (by decide+kernel) (asc (by decide+kernel))) rfl (.swap _ _ _) qF qA (fun hbad=>?_) ?_
 · exact JX.pnI (by unfold updateP;rw[hz1,Option.bind_some,hbad];rfl)
 intro z2 hz2;have h2:Lt z2.2 ts:=Lt.trans (Z9 _ _ _ _ hz2) h1.1;refine vD ?_;refine vP [0,2,3] ?_;refine Jm rfl (Jq (Z28 .nil (.cons rfl .nil)) ?_);refine JO.callPK (Lr:=[_]) (ZbU .st (S:=UpS) N T hc h9 b z2.2 (h2.1.trans hts) pcE ZcF rfl (setP e) pcX (Z5W hed) (upX z1.1 b3) upI ([],none,0) ⟨rfl,rfl⟩ (fun s o ho=>by rw[List.mem_singleton.1 ho];exact⟨_,List.mem_cons_self,rfl⟩) (fun s=>by obtain⟨ps,st,cap⟩:=s;cases st<;>rfl) 16 Z2B [.pointer (some ⟨b3,0,none⟩)] (fun us s l hus hu hI=>Z4b N T hc h9 b us hus e (fun vs hvs hv=>hex vs hvs (by have:=h2.2;omega)) z1.1 b3 s l hI (by have:=h2.2;have:=hts.length_le;omega))) rfl (.refl _) qF qA (fun hbad=>?_) ?_
 · exact JX.pnI (by unfold updateP;rw[hz1,Option.bind_some,hz2,Option.bind_some,hbad];rfl)
 rintro⟨l3,us3,⟨ps,st,cap⟩⟩ ⟨hz3,hps,hG⟩;dsimp only at hz3 hps hG;have h3:Lt us3 ts:=Lt.trans (show Lt us3 z2.2 from Z6d (Z5W hed) 16 _ _ hz3) h2.1;refine vD ?_;rw[Z9t];refine vD ?_;refine JO.openEv (s:=11) rfl (fun a11 l11 c11 _ _=>?_);refine Jq (Z0 Z46 rfl) (JO.m (Zc (cs':=[_,_,_,_,_,_,_,_,_,_,_,_,_,_]) rfl rfl qU rfl rfl rfl rfl Z4q) (by rfl) ?_);refine vP [0,2,3] ?_;refine Jm rfl ?_;refine JO.callPK (Lr:=_) (Z1T N T hc h9 b us3 (h3.1.trans hts) e (fun vs hvs hv=>hex vs hvs (by have:=h3.2;omega))) rfl (.refl _) qF qA (fun hbad=>?_) ?_
 · exact JX.pnI (by unfold updateP;rw[hz1,Option.bind_some,hz2,Option.bind_some,hz3,Option.bind_some,hbad];rfl)
 intro z4 hz4;refine vD ?_;refine JO.openEv (s:=14) rfl (fun a14 l14 c14 _ _=>?_);refine Jq (Z0 Z2s rfl) (JO.m (Zc (cs':=[_,_,_,_,_,_,_,_,_,_,_,_,_,_]) rfl rfl qU rfl rfl rfl rfl Z2f) (by rfl) ?_);refine vS [2,3] ?_;refine J.freezeOMW (e:=Z4) (sz:=8) hNW Cel.hlen hG (.there (.there .here)) (fun q hq=>by simp only[List.map_cons,List.map_nil,List.mem_singleton]at hq;exact⟨_,List.mem_cons_self,hq.symm⟩) rfl rfl ?_;rw[hG.sl.1];refine vQ ?_;refine Jq (Z18 (cs:=[_,_,_,_,_,_,_,_,_,_,_,_,_,_]) Zm rfl rfl rfl) (JO.m (Z2 rfl rfl qU qC qO Zk) (by rfl) ?_);refine vS [2] ?_;refine vR ?_;refine JX.toP ?_;exact JX.retLCs (Lr:=[_,_]) rfl ({stK 5 with tb:=z1.1,names:=(l3.map pcX).map (·.1),sets:=(l3.map pcX).map (·.2),where_:=z4.1},z4.2) (by unfold updateP;rw[hz1,Option.bind_some,hz2,Option.bind_some,hz3,Option.bind_some,hz4];rfl) (.refl _) rfl rfl hb0 rfl Zm HasOwn.mem (Z11 rfl) (Sub.st rfl fun X w hf w' hk=>⟨Ze (FrS.nil _),ZcQ (hf _ qI w' hk),Ze trivial,Ze trivial,Ze trivial,hf _ qI w' hk,Z1e,Ze trivial,(by show ExsR ((l3.map pcX).map (·.2)) (.slice (adO st) ps.length (capO st cap)) w';rw[ZcZ,<-hps,<-hG.sl.1];exact ZcO hG (hf _ qI w' hk) (by rw[hps];exact Zd0 (hf _ qI w' hk)))⟩)
theorem Z2F(N:Nat)(T:Tk)(hc:T.ts.length<=T.cap)(h9:T.ts.length<=2049)(b:Nat)(ts:List T3)(hts:ts<:+T.ts)(e:Ps Ex)(hed:Dn e)(hex: ∀us,us<:+T.ts->us.length<=ts.length->CallP Tryd.prog Zn [PB T b (us)] [T.G,AF] [.is (.pointer (some ⟨b,0,none⟩))] (e (us)=none) flt (fun z:Ex×List T3=>e (us)=some z) (fun z=>[PB T b z.2]) (fun z=>.rep (ExR z.1))):CallP Tryd.prog Z1K [PB T b ts] [T.G,AF,NH N] [.is (.pointer (some ⟨b,0,none⟩))] (withinP e ts=none) flt (fun z:List Ex×List T3=>withinP e ts=some z) (fun z=>[PB T b z.2]) (fun z=>.rep (rwE.T z.1)):=
CallP.of (fn:=Tryd.f37) Tryd.func37 (n:=5) rfl rfl rfl (fun _ _=>by kernel_rfl) fun E W hb0=>by
 refine vQ ?_;refine Ja rfl (vP [0] ?_);refine Jm rfl ?_;refine JO.callPK (Lr:=[]) (Z7C .ex N T hc h9 b ts hts exE Z4C rfl e hed Zn (fun us hus hu=>by have:=hex us hus hu;simp only[Z75]at this;exact this.weak qF)) rfl (.refl _) qF qA (fun hbad=>?_) ?_
 · exact JX.pnI (hbad)
 intro z hz;refine vD ?_;refine JO.openEv (s:=4) rfl (fun a4 l4 c4 _ _=>?_);refine Ja rfl (vS [2] ?_);refine vR ?_;refine JX.toP ?_;exact JX.retL1 (Lr:=[]) rfl z hz (.refl _) rfl rfl hb0 rfl (Sub.rwT qI)
theorem Z4S(N:Nat)(T:Tk)(hc:T.ts.length<=T.cap)(h9:T.ts.length<=2049)(b:Nat)(ts:List T3)(hts:ts<:+T.ts):CallP Tryd.prog Z1X [PB T b ts] [T.G,AF,NH N] [.is (.pointer (some ⟨b,0,none⟩))] (createP ts=none) flt (fun z:Pz.St×List T3=>createP ts=some z) (fun z=>[PB T b z.2]) (fun z=>.rep (StR N z.1)):=
CallP.ofN (N:=N) (List.mem_cons_of_mem _ (List.mem_cons_of_mem _ List.mem_cons_self)) (fn:=Tryd.f14) Tryd.func14 (n:=43) rfl rfl rfl (fun _ _=>by kernel_rfl) fun E W hNW hb0=>by
 refine vQ ?_;refine JO.alloc ZE rfl fun b2=>(vP [0,2] ?_);refine Jq (Zo (cs:=[_,_,_,_,_,_,_,_,_,_,_,_,_,_]) Z1y (.cons rfl (.cons rfl .nil)) rfl rfl) (JO.alloc ZE rfl fun b3=>(JO.m (Z2 rfl rfl qU qC qO Zk) (by rfl) ?_));refine vP [0,2,3] ?_;refine Jm rfl (JO.callK (Lr:=[_,_]) (Za T hc b (ts) (hts) Z76) rfl (List.perm_append_comm (l₁:=[_,_]) (l₂:=[_])) qF qA ?_);intro _ _;refine vD ?_;refine vS [0,2,3,6] ?_;refine yC rfl (fun ht6=>?_) (fun ht6=>?_);have htb:isT 1 Z76 ts=true:=ht6;rw[ZU htb];refine vQ ?_;refine Jm rfl ?_;refine JO.callPK (Lr:=[_,_]) (Zr T hc b ts.tail (Zl hts)) rfl (.refl _) qF qA (fun hbad=>?_) ?_
 · exact JX.pnI (by unfold createP;rw[if_pos htb,hbad];rfl)
 intro z1 hz1;have h1:z1.2<:+T.ts:=(Zw _ _ hz1).1.trans (Zl hts);refine vD ?_;refine Jq (Z0 Z6y rfl) (JO.m (Zc (cs':=[_,_,_,_,_,_,_,_,_,_,_,_,_,_]) rfl rfl qU rfl rfl rfl rfl Z3e) (by rfl) ?_);refine vP [0,2,3] ?_;refine Jm rfl ?_;refine JO.callPK (Lr:=[_,_]) (Z7C .co N T hc h9 b z1.2 h1 coE Zcr rfl colP Zaq Z2W (fun us hus hu=>Z4O N T hc h9 b us hus)) rfl (.refl _) qF qA (fun hbad=>?_) ?_
 · exact JX.pnI (by unfold createP;rw[if_pos htb,hz1,Option.bind_some,hbad];rfl)
 intro z2 hz2;refine vD ?_;refine JO.openEv (s:=11) rfl (fun a11 l11 c11 _ _=>?_);refine Jq (Z0 Z6t rfl) (JO.m (Zc (cs':=[_,_,_,_,_,_,_,_,_,_,_,_,_,_]) rfl rfl qU rfl rfl rfl rfl Z7v) (by rfl) ?_);refine vP [2,3] ?_;refine Jq (Z18 (cs:=[_,_,_,_,_,_,_,_,_,_,_,_,_,_]) Zm rfl rfl rfl) (JO.m (Z2 rfl rfl qU qC qO Zk) (by rfl) ?_);refine vS [2] ?_;refine vR ?_;refine JX.toP ?_;exact JX.retLCs (Lr:=[_,_]) rfl ({stK 1 with tb:=z1.1,cols:=z2.1},z2.2) (by unfold createP;rw[if_pos htb,hz1,Option.bind_some,hz2];rfl) (.refl _) rfl rfl hb0 rfl Zm HasOwn.mem (Z11 rfl) (Sub.st rfl fun X w hf w' hk=>⟨hf _ qI w' hk,Ze (FrS.nil _),Ze trivial,Ze trivial,Ze trivial,Ze (FrS.nil _),Z1e,Ze trivial,Z1e⟩);apply yK
 repeat first|apply yX|apply yB
 have htb:isT 1 Z76 ts=false:=ht6;rw[Z17 htb];refine vQ ?_;refine Jm rfl ?_;refine JO.callPK (Lr:=[_,_]) (Zg T hc b (ts) (hts) ZaF (by decide+kernel) (by decide+kernel) (asc (by decide+kernel))) rfl (.refl _) qF qA (fun hbad=>?_) ?_
 · exact JX.pnI (by unfold createP;rw[if_neg (by rw[htb];decide),hbad];rfl)
 intro z1 hz1;have h1:z1.2<:+T.ts:=(Z9 _ _ _ _ hz1).1.trans hts;refine vD ?_;refine vP [0,2,3] ?_;refine Jm rfl ?_;refine JO.callPK (Lr:=[_,_]) (Zr T hc b z1.2 h1) rfl (.refl _) qF qA (fun hbad=>?_) ?_
 · exact JX.pnI (by unfold createP;rw[if_neg (by rw[htb];decide),hz1,Option.bind_some,hbad];rfl)
 intro z2 hz2;have h2:z2.2<:+T.ts:=(Zw _ _ hz2).1.trans h1;refine vD ?_;refine Jq (Z0 Z6s rfl) (JO.m (Zc (cs':=[_,_,_,_,_,_,_,_,_,_,_,_,_,_]) rfl rfl qU rfl rfl rfl rfl Z30) (by rfl) ?_);refine Jq (Z0 Z8X rfl) (JO.m (Zc (cs':=[_,_,_,_,_,_,_,_,_,_,_,_,_,_]) rfl rfl qU rfl rfl rfl rfl Z3e) (by rfl) ?_);refine vP [0,2,3] ?_;refine Jm rfl ?_;refine JO.callPK (Lr:=[_,_]) (Zg T hc b (z2.2) (h2) w_ON (by decide+kernel) (by decide+kernel) (asc (by decide+kernel))) rfl (.refl _) qF qA (fun hbad=>?_) ?_
 · exact JX.pnI (by unfold createP;rw[if_neg (by rw[htb];decide),hz1,Option.bind_some,hz2,Option.bind_some,hbad];rfl)
 intro z3 hz3;have h3:z3.2<:+T.ts:=(Z9 _ _ _ _ hz3).1.trans h2;refine vD ?_;refine vP [0,2,3] ?_;refine Jm rfl ?_;refine JO.callPK (Lr:=[_,_]) (Zr T hc b z3.2 h3) rfl (.refl _) qF qA (fun hbad=>?_) ?_
 · exact JX.pnI (by unfold createP;rw[if_neg (by rw[htb];decide),hz1,Option.bind_some,hz2,Option.bind_some,hz3,Option.bind_some,hbad];rfl)
 intro z4 hz4;have h4:z4.2<:+T.ts:=(Zw _ _ hz4).1.trans h3;refine vD ?_;refine Jq (Z0 Z6y rfl) (JO.m (Zc (cs':=[_,_,_,_,_,_,_,_,_,_,_,_,_,_]) rfl rfl qU rfl rfl rfl rfl Z3e) (by rfl) ?_);refine vP [0,2,3] ?_;refine Jm rfl (Jm rfl (JO.callK (Lr:=[_,_]) (Zh T hc b (z4.2) (h4) s_lp) rfl (.refl _) qF qA ?_));intro _ _;refine vD ?_;refine JO.callPK (Lr:=_) (Zb (.pointer (some ⟨b,0,none⟩)) (isT 5 s_lp z4.2)) rfl (Z1b _) Z13 qA (fun hbad=>?_) ?_
 · exact JX.pnI (by unfold createP;rw[if_neg (by rw[htb];decide),hz1,Option.bind_some,hz2,Option.bind_some,hz3,Option.bind_some,hz4,Option.bind_some,wantN hbad];rfl)
 intro _ hlp;refine vD ?_;refine vS [0,2,3] ?_;rw[ZU hlp];refine vQ ?_;refine Jm rfl ?_;refine JO.callPK (Lr:=[_,_]) (Zr T hc b z4.2.tail (Zl h4)) rfl (.refl _) qF qA (fun hbad=>?_) ?_
 · exact JX.pnI (by unfold createP;rw[if_neg (by rw[htb];decide),hz1,Option.bind_some,hz2,Option.bind_some,hz3,Option.bind_some,hz4,Option.bind_some,wantY hlp,Option.bind_some,hbad];rfl)
 intro z5 hz5;have h5:z5.2<:+T.ts:=(Zw _ _ hz5).1.trans (Zl h4);refine vD ?_;refine JO.buildE (p:=stC z5.1) Z9Q Z1A rfl qD rfl rfl (fun b31=>?_);refine Jq (Z0 Z46 rfl) (JO.m (Zc (cs':=[_,_,_,_,_,_,_,_,_,_,_,_,_,_]) rfl rfl qU rfl rfl rfl rfl Z4q) (by rfl) ?_);refine vS [0,2,3] ?_;refine J.freezeOMW (L':=[PB T b z5.2,_,_]) (e:=Z55) (sz:=1) hNW Cel.hlen (growE (stC z5.1)) (Tl.here (st:=some (b31,(stC z5.1).cs))) (fun q hq=>by simp only[List.map_cons,List.map_nil,List.mem_singleton]at hq;exact⟨_,List.mem_cons_self,hq.symm⟩) rfl rfl ?_;refine J.fact (CelF stE [stC z5.1]) (fun X w hf _=>fun w' _=>Zec _ _) ?_;refine vQ ?_;refine Jm rfl (Jm rfl (JO.callK (Lr:=[_,_]) (Zh T hc b (z5.2) (h5) s_rp) rfl (.refl _) qF qA ?_));intro _ _;refine vD ?_;refine JO.callPK (Lr:=_) (Zb (.pointer (some ⟨b,0,none⟩)) (isT 5 s_rp z5.2)) rfl (Z1b _) Z13 qA (fun hbad=>?_) ?_
 · exact JX.pnI (by unfold createP;rw[if_neg (by rw[htb];decide),hz1,Option.bind_some,hz2,Option.bind_some,hz3,Option.bind_some,hz4,Option.bind_some,wantY hlp,Option.bind_some,hz5,Option.bind_some,wantN hbad];rfl)
 intro _ hrp;refine vD ?_;refine vS [0,2,3] ?_;rw[ZU hrp];refine vQ ?_;refine Jm rfl (JO.callK (Lr:=[_,_]) (Za T hc b (z5.2.tail) (Zl h5) Z5H) rfl (.refl _) qF qA ?_);intro _ _;refine vD ?_;refine vS [0,2,3,38] ?_;refine yC rfl (fun ht38=>?_) (fun ht38=>?_);have hus:isT 1 Z5H z5.2.tail=true:=ht38;rw[ZU hus];refine vQ ?_;refine Jm rfl ?_;refine JO.callPK (Lr:=[_,_]) (Zg T hc b (z5.2.tail.tail) (Zl (Zl h5)) ZbR (by decide+kernel) (by decide+kernel) (asc (by decide+kernel))) rfl (.refl _) qF qA (fun hbad=>?_) ?_
 · exact JX.pnI (by unfold createP;rw[if_neg (by rw[htb];decide),hz1,Option.bind_some,hz2,Option.bind_some,hz3,Option.bind_some,hz4,Option.bind_some,wantY hlp,Option.bind_some,hz5,Option.bind_some,wantY hrp,Option.bind_some];dsimp only;rw[if_pos hus,hbad];rfl)
 intro z6 hz6;refine vD ?_;refine vP [2,3] ?_;refine Jq (Z0 Z8m rfl) (JO.m (Zc (cs':=[_,_,_,_,_,_,_,_,_,_,_,_,_,_]) rfl rfl qU rfl rfl rfl rfl Z2S) (by rfl) ?_);refine vS [2,3] ?_
 first|(have hus:isT 1 Z5H z5.2.tail=false:=ht38;rw[Z17 hus])|skip
 refine vQ ?_;refine Jq (Z18 (cs:=[_,_,_,_,_,_,_,_,_,_,_,_,_,_]) Zm rfl rfl rfl) (JO.m (Z2 rfl rfl qU qC qO Zk) (by rfl) ?_);refine vS [2] ?_;refine vR ?_;refine JX.toP ?_;exact JX.retLCs (Lr:=[_,_]) rfl ({stK 2 with nm:=z2.1,tb:=z4.1,names:=[z5.1],hash:=true},z6.2) (by unfold createP;rw[if_neg (by rw[htb];decide),hz1,Option.bind_some,hz2,Option.bind_some,hz3,Option.bind_some,hz4,Option.bind_some,wantY hlp,Option.bind_some,hz5,Option.bind_some,wantY hrp,Option.bind_some];dsimp only;rw[if_pos hus,hz6];rfl) (.refl _) rfl rfl hb0 rfl Zm HasOwn.mem (Z11 rfl) (Sub.st rfl fun X w hf w' hk=>⟨Ze (FrS.nil _),SlE.ofGr (growE (stC z5.1)) (hf _ qI w' hk) (hf _ qI w' hk) (hf _ qI w' hk),Ze trivial,Ze trivial,Ze trivial,Ze (FrS.nil _),Z1e,Ze trivial,Z1e⟩);apply yK
 repeat first|apply yX|apply yB
 first|(have hus:isT 1 Z5H z5.2.tail=false:=ht38;rw[Z17 hus])|skip
 refine vQ ?_;refine Jq (Z18 (cs:=[_,_,_,_,_,_,_,_,_,_,_,_,_,_]) Zm rfl rfl rfl) (JO.m (Z2 rfl rfl qU qC qO Zk) (by rfl) ?_);refine vS [2] ?_;refine vR ?_;refine JX.toP ?_;exact JX.retLCs (Lr:=[_,_]) rfl ({stK 2 with nm:=z2.1,tb:=z4.1,names:=[z5.1]},z5.2.tail) (by unfold createP;rw[if_neg (by rw[htb];decide),hz1,Option.bind_some,hz2,Option.bind_some,hz3,Option.bind_some,hz4,Option.bind_some,wantY hlp,Option.bind_some,hz5,Option.bind_some,wantY hrp,Option.bind_some];dsimp only;rw[if_neg (by rw[hus];decide)]) (.refl _) rfl rfl hb0 rfl Zm HasOwn.mem (Z11 rfl) (Sub.st rfl fun X w hf w' hk=>⟨Ze (FrS.nil _),SlE.ofGr (growE (stC z5.1)) (hf _ qI w' hk) (hf _ qI w' hk) (hf _ qI w' hk),Ze trivial,Ze trivial,Ze trivial,Ze (FrS.nil _),Z1e,Ze trivial,Z1e⟩)
end Go.Proofs.YtbedigkncjbggaaDoor
set_option maxRecDepth 20000
namespace Go.Proofs.YtbedigkncjbggaaDoor
open Go Go.Vc
open Go.Pz
theorem Sub.stT{s:ByteArray}:Sub [] [] (.is (.string s)) (.rep (stE.T s)):=fun X v w _ e=>by
 rw[show v=_ from e];exact fun w' _=>⟨[.string s],rfl,rfl⟩
attribute [local irreducible] SlE ExsR
theorem Z4P(N:Nat)(T:Tk)(hc:T.ts.length<=T.cap)(h9:T.ts.length<=2049)(b:Nat)(ts:List T3)(hts:ts<:+T.ts)(e:Ps Ex)(hed:Dn e)(hex: ∀us,us<:+T.ts->us.length<=ts.length->CallP Tryd.prog Zn [PB T b (us)] [T.G,AF] [.is (.pointer (some ⟨b,0,none⟩))] (e (us)=none) flt (fun z:Ex×List T3=>e (us)=some z) (fun z=>[PB T b z.2]) (fun z=>.rep (ExR z.1))):CallP Tryd.prog Z1Y [PB T b ts] [T.G,AF,NH N] [.is (.pointer (some ⟨b,0,none⟩))] (insertP e ts=none) flt (fun z:Pz.St×List T3=>insertP e ts=some z) (fun z=>[PB T b z.2]) (fun z=>.rep (StR N z.1)):=
CallP.ofN (N:=N) (List.mem_cons_of_mem _ (List.mem_cons_of_mem _ List.mem_cons_self)) (fn:=Tryd.f15) Tryd.func15 (n:=34) rfl rfl rfl (fun _ _=>by kernel_rfl) fun E W hNW hb0=>by
 refine vQ ?_;refine JO.alloc ZE rfl fun b2=>(vP [0,2] ?_);refine Jm rfl ?_;refine JO.callPK (Lr:=[_]) (Zg T hc b (ts) (hts) ZbY (by decide+kernel) (by decide+kernel) (asc (by decide+kernel))) rfl (List.perm_append_comm (l₁:=[_]) (l₂:=[_])) qF qA (fun hbad=>?_) ?_
 · exact JX.pnI (by unfold insertP;rw[hbad];rfl)
 intro z0 hz0;have h0:Lt z0.2 ts:=Z9 _ _ _ _ hz0;refine vD ?_;refine vP [0,2] ?_;refine Jm rfl ?_;refine JO.callPK (Lr:=[_]) (Zr T hc b z0.2 (h0.1.trans hts)) rfl (.refl _) qF qA (fun hbad=>?_) ?_
 · exact JX.pnI (by unfold insertP;rw[hz0,Option.bind_some,hbad];rfl)
 intro z1 hz1;have h1:Lt z1.2 ts:=Lt.trans (Zw _ _ hz1) h0.1;have h1s:z1.2<:+T.ts:=h1.1.trans hts;refine vD ?_;refine Jq (Zo (cs:=[_,_,_,_,_,_,_,_,_,_,_,_,_,_]) Z1y (.cons rfl (.cons rfl (.cons rfl .nil))) rfl rfl) (JO.alloc ZE rfl fun b3=>(JO.m (Z2 rfl rfl qU qC qO Zk) (by rfl) ?_));refine vP [0,2,3] ?_;refine Jm rfl (Jq (Z3 rfl) (Jq (Z0 Z8 rfl) (Jq (Z5 Zj rfl rfl) (Jq (ZS ZG rfl) (Jq (Z1U rfl rfl) (Jm rfl (JO.tg rfl rfl rfl rfl rfl (fun hg=>Z1 (.inl rfl)) (JO.tg rfl rfl rfl rfl rfl (fun hg=>Z3 (qR rfl)) ?_))))))));refine JO.tg rfl rfl rfl rfl rfl (fun hg=>Z0 Z8 (qR rfl)) ?_;refine JO.tg rfl rfl rfl rfl rfl (fun hg=>Z5 Zj (qR rfl) rfl) ?_;refine JO.tg rfl rfl rfl rfl rfl (fun hg=>Zq ZH (qR rfl) rfl (.inl rfl) qM (Z1G (Z1M hg))) ?_;refine JO.tg rfl rfl rfl rfl rfl (fun hg=>Z3D (enc:=T3.cells) (sz:=3) (i:=T.k z1.2) (y:=z1.2.headD t3D) (cs:=T3.cells (z1.2.headD t3D)) ZF (qR rfl) qI rfl (Tk.head h1s (Z1M hg)) (by rw[Tk.j_eq hc h1s (Z1M hg)];rfl) rfl) ?_;refine JO.tg rfl rfl rfl rfl rfl (fun hg=>Zo (cs:=[_,_,_]) ZX (.cons (.inl rfl) (.cons (.inl rfl) .nil)) rfl rfl) (JO.tg rfl rfl rfl rfl rfl (fun hg=>ZdF (b:=⟨5,s_lp,0⟩) Z95 (qR rfl) (qR rfl)) ?_);refine Jq (Zz rfl rfl rfl id) (vS [0,2,3,24] ?_);refine yC rfl (fun ht24=>?_) (fun ht24=>?_);have hlp:isLp z1.2=true:=by rw[<-Z7F];exact ht24
 refine vQ ?_;refine Jm rfl ?_;refine JO.callPK (Lr:=[_,_]) (Z7C .st N T hc h9 b z1.2 h1s stE Z9Q rfl nameP Zw Z3a (fun us hus hu=>((Zr T hc b us hus).weak (fun F hF=>by rw[List.mem_singleton.1 hF];exact List.mem_cons_self)).sub (fun z=>Sub.stT))) rfl (.swap _ _ _) qF qA (fun hbad=>?_) ?_
 · exact JX.pnI (by unfold insertP;rw[hz0,Option.bind_some,hz1,Option.bind_some];rw[if_pos hlp,hbad];rfl)
 intro z2 hz2;have h2:Lt z2.2 ts:=Lt.trans (Z23 Zw.le _ _ hz2) h1.1;refine vD ?_;refine JO.openEv (s:=26) rfl (fun a26 l26 c26 _ _=>?_);refine Jq (Z0 Z46 rfl) (JO.m (Zc (cs':=[_,_,_,_,_,_,_,_,_,_,_,_,_,_]) rfl rfl qU rfl rfl rfl rfl Z4q) (by rfl) ?_);refine vS [0,2,3] ?_
 first|(have hlp:isLp z1.2=false:=(by rw[<-Z7F];exact ht24);refine J.has (L':=[PB T b z1.2,⟨b3,_,_⟩,⟨b2,_,_⟩]) (by repeat(first|exact .all|exact .nil|refine Has.cons (by repeat(first|exact .here|apply Pk.past|apply Pk.there)) ?_)) ?_;have hx:=h1)|(have hx:=h2)
 refine vQ ?_;refine Jm rfl ?_;refine JO.callPK (Lr:=[_,_]) (Zg T hc b _ (hx.1.trans hts) Z7N (by decide+kernel) (by decide+kernel) (asc (by decide+kernel))) rfl (.refl _) qF qA (fun hbad=>?_) ?_
 · exact JX.pnI (by first|(unfold insertP;rw[hz0,Option.bind_some,hz1,Option.bind_some];rw[if_pos hlp,hz2,Option.bind_some];unfold insRows;rw[hbad];rfl)|(unfold insertP;rw[hz0,Option.bind_some,hz1,Option.bind_some];rw[if_neg (by rw[hlp];decide)];unfold insRows;rw[hbad];rfl))
 intro z3 hz3;have h3:Lt z3.2 ts:=Lt.trans (Z9 _ _ _ _ hz3) hx.1;refine vD ?_;refine vP [0,2,3] ?_;refine Jm rfl ?_;refine JO.callPK (Lr:=[_,_]) (Z5u .rw N T hc h9 b z3.2 (h3.1.trans hts) rwE Z9A rfl (withinP e) (Z23 hed.le) 32 Z1K (fun us hus hu=>Z2F N T hc h9 b us hus e hed (fun vs hvs hv=>hex vs hvs (by have:=h3.2;omega)))) rfl (.refl _) qF qA (fun hbad=>?_) ?_
 · exact JX.pnI (by first|(unfold insertP;rw[hz0,Option.bind_some,hz1,Option.bind_some];rw[if_pos hlp,hz2,Option.bind_some];unfold insRows;rw[hz3,Option.bind_some,hbad];rfl)|(unfold insertP;rw[hz0,Option.bind_some,hz1,Option.bind_some];rw[if_neg (by rw[hlp];decide)];unfold insRows;rw[hz3,Option.bind_some,hbad];rfl))
 intro z4 hz4;refine vD ?_;refine JO.openEv (s:=31) rfl (fun a31 l31 c31 _ _=>?_);refine Jq (Z0 Z2u rfl) (JO.m (Zc (cs':=[_,_,_,_,_,_,_,_,_,_,_,_,_,_]) rfl rfl qU rfl rfl rfl rfl Z48) (by rfl) ?_);refine vP [2,3] ?_;refine Jq (Z18 (cs:=[_,_,_,_,_,_,_,_,_,_,_,_,_,_]) Zm rfl rfl rfl) (JO.m (Z2 rfl rfl qU qC qO Zk) (by rfl) ?_);refine vS [2] ?_;refine vR ?_;refine JX.toP ?_;exact JX.retLCs (Lr:=[_,_]) rfl ({stK 3 with tb:=z1.1,names:=z2.1,rows:=z4.1},z4.2) (by unfold insertP;rw[hz0,Option.bind_some,hz1,Option.bind_some];rw[if_pos hlp,hz2,Option.bind_some];unfold insRows;rw[hz3,Option.bind_some,hz4];rfl) (.refl _) rfl rfl hb0 rfl Zm HasOwn.mem (Z11 rfl) (Sub.st rfl fun X w hf w' hk=>⟨Ze (FrS.nil _),hf _ qI w' hk,SlE.weak (hf _ qI w' hk) (fun _ _ _ _=>trivial),Ze trivial,Ze trivial,Ze (FrS.nil _),Z1e,Ze trivial,Z1e⟩);apply yK
 repeat first|apply yX|apply yB
 first|(have hlp:isLp z1.2=false:=(by rw[<-Z7F];exact ht24);refine J.has (L':=[PB T b z1.2,⟨b3,_,_⟩,⟨b2,_,_⟩]) (by repeat(first|exact .all|exact .nil|refine Has.cons (by repeat(first|exact .here|apply Pk.past|apply Pk.there)) ?_)) ?_;have hx:=h1)|(have hx:=h2)
 refine vQ ?_;refine Jm rfl ?_;refine JO.callPK (Lr:=[_,_]) (Zg T hc b _ (hx.1.trans hts) Z7N (by decide+kernel) (by decide+kernel) (asc (by decide+kernel))) rfl (.refl _) qF qA (fun hbad=>?_) ?_
 · exact JX.pnI (by first|(unfold insertP;rw[hz0,Option.bind_some,hz1,Option.bind_some];rw[if_pos hlp,hz2,Option.bind_some];unfold insRows;rw[hbad];rfl)|(unfold insertP;rw[hz0,Option.bind_some,hz1,Option.bind_some];rw[if_neg (by rw[hlp];decide)];unfold insRows;rw[hbad];rfl))
 intro z3 hz3;have h3:Lt z3.2 ts:=Lt.trans (Z9 _ _ _ _ hz3) hx.1;refine vD ?_;refine vP [0,2,3] ?_;refine Jm rfl ?_;refine JO.callPK (Lr:=[_,_]) (Z5u .rw N T hc h9 b z3.2 (h3.1.trans hts) rwE Z9A rfl (withinP e) (Z23 hed.le) 32 Z1K (fun us hus hu=>Z2F N T hc h9 b us hus e hed (fun vs hvs hv=>hex vs hvs (by have:=h3.2;omega)))) rfl (.refl _) qF qA (fun hbad=>?_) ?_
 · exact JX.pnI (by first|(unfold insertP;rw[hz0,Option.bind_some,hz1,Option.bind_some];rw[if_pos hlp,hz2,Option.bind_some];unfold insRows;rw[hz3,Option.bind_some,hbad];rfl)|(unfold insertP;rw[hz0,Option.bind_some,hz1,Option.bind_some];rw[if_neg (by rw[hlp];decide)];unfold insRows;rw[hz3,Option.bind_some,hbad];rfl))
 intro z4 hz4;refine vD ?_;refine JO.openEv (s:=31) rfl (fun a31 l31 c31 _ _=>?_);refine Jq (Z0 Z2u rfl) (JO.m (Zc (cs':=[_,_,_,_,_,_,_,_,_,_,_,_,_,_]) rfl rfl qU rfl rfl rfl rfl Z48) (by rfl) ?_);refine vP [2,3] ?_;refine Jq (Z18 (cs:=[_,_,_,_,_,_,_,_,_,_,_,_,_,_]) Zm rfl rfl rfl) (JO.m (Z2 rfl rfl qU qC qO Zk) (by rfl) ?_);refine vS [2] ?_;refine vR ?_;refine JX.toP ?_;exact JX.retLCs (Lr:=[_,_]) rfl ({stK 3 with tb:=z1.1,names:=[],rows:=z4.1},z4.2) (by unfold insertP;rw[hz0,Option.bind_some,hz1,Option.bind_some];rw[if_neg (by rw[hlp];decide)];unfold insRows;rw[hz3,Option.bind_some,hz4];rfl) (.refl _) rfl rfl hb0 rfl Zm HasOwn.mem (Z11 rfl) (Sub.st rfl fun X w hf w' hk=>⟨Ze (FrS.nil _),Ze (FrS.nil _),SlE.weak (hf _ qI w' hk) (fun _ _ _ _=>trivial),Ze trivial,Ze trivial,Ze (FrS.nil _),Z1e,Ze trivial,Z1e⟩)
end Go.Proofs.YtbedigkncjbggaaDoor
namespace Go.Pz
open Go Go.Vc
theorem Z5h{e:Ps Ex}(he:Dn e): ∀(n m:Nat) (ts:List T3),ts.length<=n->ts.length<=m->joinsG e n ts=joinsG e m ts
 |0,m,ts,h,_=>by
   have:ts=[]:=List.length_eq_zero_iff.1 qM;subst this;cases m with
   |zero=>rfl
   |succ m=>rw[joinsG,joinsG,if_neg (by exact Bool.false_ne_true)]
 |n+1,0,ts,_,h=>by
   have:ts=[]:=List.length_eq_zero_iff.1 qM;subst this;rw[joinsG,joinsG,if_neg (by exact Bool.false_ne_true)]
 |n+1,m+1,ts,h,h'=>by
   rw[joinsG,joinsG]
   split
   · exact Z1p fun y hy=>by
       have h2:=(Z4L he _ _ hy).2;have h3:=(Z33 1 ZO ts).length_le;rw[Z5h he n m y.2 qM qM]
   · rfl
def joinsC(e:Ps Ex):Ps (List Src):=fun ts=>joinsG e ts.length ts
def isJ(us:List T3):Bool:=isT 1 ZO us||isT 1 Z3T us
theorem Zb7{e:Ps Ex}{ts:List T3}(h:isJ ts=false):joinsC e ts=some ([],ts):=by
 unfold joinsC;cases ts.length with
 |zero=>rfl
 |succ n=>rw[joinsG,if_neg (by rw[show(isT 1 ZO ts||isT 1 Z3T ts)=false from h];decide)]
theorem Zb4{e:Ps Ex}(he:Dn e){ts:List T3}(h:isJ ts=true):joinsC e ts=(joinP e (skT 1 ZO ts)).bind fun s=>(joinsC e s.2).map fun y=>(s.1::y.1,y.2):=by
 unfold joinsC;rw[Z5h he _ (ts.length+1) ts qM qM,joinsG,if_pos (by exact h)];exact Z1p fun y hy=>by
   have h2:=(Z4L he _ _ hy).2;have h3:=(Z33 1 ZO ts).length_le;rw[Z5h he _ y.2.length y.2 qM qM]
def joinI(e:Ps Ex)(xs:List Src):Ps (List Src):=fun us=>(joinsC e us).map fun y=>(xs++y.1,y.2)
theorem Z2P{e:Ps Ex}{xs:List Src}{us:List T3}(h:isJ us=false):joinI e xs us=some (xs,us):=by
 unfold joinI;rw[Zb7 h];simp
theorem Z41{e:Ps Ex}(he:Dn e){xs:List Src}{us:List T3}(h:isJ us=true):joinI e xs us=(joinP e (skT 1 ZO us)).bind fun s=>joinI e (xs++[s.1]) s.2:=by
 unfold joinI;rw[Zb4 he h,Option.map_bind];refine Z1p fun s _=>?_;simp only[Function.comp];cases joinsC e s.2 with
 |none=>rfl
 |some y=>simp
def qTail(e:Ps Ex)(is:List Itm)(xs:List Src):Ps St:=fun us=>
 if xs.length<=4 then(whereP e us).bind fun w=>(groupP e w.2).bind fun g=>(orderP e g.2).bind fun o=>(limitP o.2).map fun l=>
  ({stK 4 with items:=is,from_:=xs,where_:=w.1,group:=g.1,order:=o.1,limit:=l.1},l.2)
 else none
theorem Z1n(e:Ps Ex)(ts:List T3):queryP e ts=(listP 16 (itemP e) ts).bind fun i=>(wantP 1 Z6P i.2).bind fun a=>(sourceP a.2).bind fun s=>(joinI e [s.1] s.2).bind fun j=>qTail e i.1 j.1 j.2:=by
 unfold queryP joinI;refine Z1p fun i _=>Z1p fun a _=>Z1p fun s _=>?_;show(joinsC e s.2).bind _=_;cases joinsC e s.2 with
 |none=>rfl
 |some j=>simp only[Option.bind_some,Option.map_some,qTail,List.singleton_append,List.length_cons]
theorem Z8b{e:Ps Ex}{us:List T3}(h:isT 1 Z4h us=true):groupP e us=(wantP 1 w_BY us.tail).bind fun a=>listP 16 e a.2:=by unfold groupP;rw[if_pos h]
theorem Zdk{e:Ps Ex}{us:List T3}(h:isT 1 Z4h us=false):groupP e us=some ([],us):=by unfold groupP;rw[if_neg (by rw[h];decide)]
theorem Z8k{e:Ps Ex}{us:List T3}(h:isT 1 Z4g us=true):orderP e us=(wantP 1 w_BY us.tail).bind fun a=>listP 16 (keyP e) a.2:=by unfold orderP;rw[if_pos h]
theorem Zd3{e:Ps Ex}{us:List T3}(h:isT 1 Z4g us=false):orderP e us=some ([],us):=by unfold orderP;rw[if_neg (by rw[h];decide)]
theorem Zav{us:List T3}(h:isT 1 Z4j us=true):limitP us=(takeP 3 us.tail).map fun z=>(z.1.n,z.2):=by unfold limitP;rw[if_pos h]
theorem Zda{us:List T3}(h:isT 1 Z4j us=false):limitP us=some (-1,us):=by unfold limitP;rw[if_neg (by rw[h];decide)]
theorem Z8H{us:List T3}{z:Src×List T3}(h:sourceP us=some z):z.1.on=[]:=by
 unfold sourceP at h;obtain⟨n,_,h⟩:=bnd h
 split at h
 · obtain⟨m,_,rfl⟩:=mpd h;rfl
 split at h
 · obtain⟨m,_,rfl⟩:=mpd h;rfl
 · injection h with h;subst h;rfl
theorem ZbK(us:List T3):(isT 1 ZO us||((decide ((0:Int)<(((skT 1 ZO us).length:Nat):Int))&&seq ((skT 1 ZO us).headD t3D).t Z3T)&&(((skT 1 ZO us).headD t3D).k==1)))=isJ us:=by
 unfold isJ;cases h:isT 1 ZO us with
 |true=>rfl
 |false=>
   have hs:skT 1 ZO us=us:=by unfold skT;rw[h];rfl
   rw[hs];cases us with
   |nil=>rfl
   |cons t r=>
     rw[decide_eq_true (show(0:Int)<(((t::r).length:Nat):Int) by simp),Bool.true_and,Z4G];show(false||(sq t.t Z3T&&(t.k==1)))=(false||((t.k==1)&&sq t.t Z3T));rw[Bool.and_comm]
end Go.Pz
namespace Go.Pz
open Go Go.Vc
theorem Z4V{e:Ps Ex}(he:Dn e){us:List T3}{z:List Ex×List T3}(h:whereP e us=some z):z.2<:+us:=by
 unfold whereP at h
 split at h
 · rename_i hi
   obtain⟨v,h5,rfl⟩:=mpd h;exact(he _ _ h5).1.trans (Zt hi).1
 · injection h with h;subst h;exact List.suffix_refl us
end Go.Pz
set_option maxRecDepth 20000
namespace Go.Proofs.YtbedigkncjbggaaDoor
open Go Go.Vc
open Go.Pz
abbrev srC(s:Pz.Src):Cel srE:=⟨s,[.string s.tb,.string s.nm,.slice none 0 0],rfl,by
 intro u hu;simp only[List.mem_cons,List.mem_nil_iff,or_false]at hu;rcases hu with rfl|rfl|rfl<;>rfl⟩
theorem Zef{s:Pz.Src}(h:s.on=[])(w:World):CelR (srC s) w:=⟨_,rfl,by rw[h];exact Z1e⟩
abbrev sjC(s:Pz.Src)(x:Ex)(a:Option Addr)(l c:Nat):Cel srE:=⟨{s with on:=[x]},[.string s.tb,.string s.nm,.slice a l c],rfl,by
 intro u hu;simp only[List.mem_cons,List.mem_nil_iff,or_false]at hu;rcases hu with rfl|rfl|rfl<;>rfl⟩
theorem Zek{s:Pz.Src}{x:Ex}{a:Option Addr}{l c:Nat}{w:World}(h:ExsR [x] (.slice a l c) w):CelR (sjC s x a l c) w:=⟨_,rfl,h⟩
attribute [local irreducible] SlE ExsR
theorem Z5j(N:Nat)(T:Tk)(hc:T.ts.length<=T.cap)(h9:T.ts.length<=2049)(b:Nat)(ts:List T3)(hts:ts<:+T.ts)(e:Ps Ex)(hed:Dn e)(hex: ∀us,us<:+T.ts->us.length<=ts.length->CallP Tryd.prog Zn [PB T b (us)] [T.G,AF] [.is (.pointer (some ⟨b,0,none⟩))] (e (us)=none) flt (fun z:Ex×List T3=>e (us)=some z) (fun z=>[PB T b z.2]) (fun z=>.rep (ExR z.1))):CallP Tryd.prog Z27 [PB T b ts] [T.G,AF,NH N] [.is (.pointer (some ⟨b,0,none⟩))] (queryP e ts=none) flt (fun z:Pz.St×List T3=>queryP e ts=some z) (fun z=>[PB T b z.2]) (fun z=>.rep (StR N z.1)):=
CallP.ofN (N:=N) (List.mem_cons_of_mem _ (List.mem_cons_of_mem _ List.mem_cons_self)) (fn:=Tryd.f16) Tryd.func16 (n:=95) rfl rfl rfl (fun _ _=>by kernel_rfl) fun E W hNW hb0=>by
 refine vQ ?_;refine JO.alloc ZE rfl fun b2=>(vP [0,2] ?_);refine Jq (Zo (cs:=[_,_,_,_,_,_,_,_,_,_,_,_,_,_]) Z1y (.cons rfl (.cons rfl .nil)) rfl rfl) (JO.alloc ZE rfl fun b3=>(JO.m (Z2 rfl rfl qU qC qO Zk) (by rfl) ?_));refine vP [0,2,3] ?_;refine Jm rfl ?_;refine JO.callPK (Lr:=[_,_]) (Z5u .it N T hc h9 b ts hts itE Zcm rfl (itemP e) (Z4r hed) 16 Z3d (fun us hus hu=>Z5F N T hc h9 b us hus e (fun vs hvs hv=>hex vs hvs qM))) rfl (List.perm_append_comm (l₁:=[_,_]) (l₂:=[_])) qF qA (fun hbad=>?_) ?_
 · exact JX.pnI (by rw[Z1n,hbad];rfl)
 intro zi hzi;have hi:Lt zi.2 ts:=Z6d (Z4r hed) 16 _ _ hzi;refine vD ?_;refine JO.openEv (s:=8) rfl (fun a8 l8 c8 _ _=>?_);refine Jq (Z0 Z36 rfl) (JO.m (Zc (cs':=[_,_,_,_,_,_,_,_,_,_,_,_,_,_]) rfl rfl qU rfl rfl rfl rfl Z8j) (by rfl) ?_);refine vP [0,2,3] ?_;refine Jm rfl ?_;refine JO.callPK (Lr:=[_,_]) (Zg T hc b (zi.2) (hi.1.trans hts) Z6P (by decide+kernel) (by decide+kernel) (asc (by decide+kernel))) rfl (.refl _) qF qA (fun hbad=>?_) ?_
 · exact JX.pnI (by rw[Z1n,hzi,Option.bind_some,hbad];rfl)
 intro zf hzf;have hf_:Lt zf.2 ts:=Lt.trans (Z9 _ _ _ _ hzf) hi.1;refine vD ?_;refine vP [0,2,3] ?_;refine Jm rfl ?_;refine JO.callPK (Lr:=[_,_]) (Z2X T hc b zf.2 (hf_.1.trans hts)) rfl (.refl _) qF qA (fun hbad=>?_) ?_
 · exact JX.pnI (by rw[Z1n,hzi,Option.bind_some,hzf,Option.bind_some,hbad];rfl)
 intro zs hzs;have hs_:Lt zs.2 ts:=Lt.trans (Z2T _ _ hzs) hf_.1;have hon:=Z8H hzs;refine vD ?_;refine JO.buildE (p:=srC zs.1) Z9z Z4D rfl qD rfl rfl (fun b14=>?_);refine Jq (Z0 Z1Z rfl) (JO.m (Zc (cs':=[_,_,_,_,_,_,_,_,_,_,_,_,_,_]) rfl rfl qU rfl rfl rfl rfl Z4p) (by rfl) ?_);refine vS [0,2,3] ?_;refine J.has (L':=[PB T b zs.2,⟨b3,_,_⟩,⟨b2,_,_⟩,⟨b14,_,_⟩]) (by repeat(first|exact .all|exact .nil|refine Has.own yV ?_|refine Has.cons (by repeat(first|exact .here|apply Pk.past|apply Pk.there)) ?_)) ?_;refine vQ ?_;refine Jm rfl (JO.callK (Lr:=_) (Za T hc b zs.2 (hs_.1.trans hts) ZO) rfl (.refl _) qF qA ?_);intro _ _;refine vD ?_;refine Ja rfl (vS [0,2,3,4] ?_);apply yk
 repeat apply yQ
 refine J.loopH (α:=List (Cel srE)×Option (Nat×List Value)×Nat×List T3) (fun x=>[(0,.is (.pointer (some ⟨b,0,none⟩))),(2,.is (.pointer (some ⟨b2,0,none⟩))),(3,.is (.pointer (some ⟨b3,0,none⟩))),(4,.is (.bool (isT 1 ZO x.2.2.2)))]) (fun x=>PB T b (skT 1 ZO x.2.2.2)::⟨b3,Zs,.is (.agg #[.int .i64 4,.string ⟨#[]⟩,.string ⟨#[]⟩,.slice none 0 0,.slice none 0 0,.slice none 0 0,.slice a8 l8 c8,sliceO x.2.1 x.1.length x.2.2.1,.slice none 0 0,.slice none 0 0,.slice none 0 0,.int .i64 (-1),.slice none 0 0,.bool false])⟩::⟨b2,Zs,.is (.agg #[.int .i64 0,.string ⟨#[]⟩,.string ⟨#[]⟩,.slice none 0 0,.slice none 0 0,.slice none 0 0,.slice none 0 0,.slice none 0 0,.slice none 0 0,.slice none 0 0,.slice none 0 0,.int .i64 0,.slice none 0 0,.bool false])⟩::ownO x.2.1 Z6q []) (fun x=>CelF srE x.1) (fun x=>x.2.2.2<:+ts/\x.1.length+x.2.2.2.length<=ts.length/\Grows Cel.cs 3 x.1 x.2.1 x.2.2.1/\joinI e [zs.1] zs.2=joinI e (x.1.map Cel.x) x.2.2.2) (fun x=>x.2.2.2.length) ([srC zs.1],some (b14,(srC zs.1).cs),1,zs.2) [0,2,3,4] (.cons rfl (.cons rfl (.cons rfl (.cons rfl .nil)))) rfl (fun X w hF=>fun w' hk p hp=>by rw[List.mem_singleton.1 hp];exact Zef hon w') ⟨hs_.1,(show 1+zs.2.length<=ts.length by have:=hs_.2;omega),growE (srC zs.1),rfl⟩ fun⟨ps,st,cap,us⟩ ⟨hus,hlen,hG,hJ⟩=>?_;try dsimp only
 try dsimp only at st
 try dsimp only at cap
 try dsimp only at us
 try dsimp only at hus
 try dsimp only at hlen
 try dsimp only at hG
 try dsimp only at hJ
 have hut:us<:+T.ts:=hus.trans hts;have hvs:skT 1 ZO us<:+T.ts:=(Z33 _ _ _).trans hut;refine vQ ?_;refine Jm rfl (Jm rfl (JO.tg rfl rfl rfl rfl rfl (fun hg=>Z1 (.inl rfl)) (JO.tg rfl rfl rfl rfl rfl (fun hg=>Z3 (qR rfl)) ?_)));refine JO.tg rfl rfl rfl rfl rfl (fun hg=>Z0 Z8 (qR rfl)) ?_;refine JO.tg rfl rfl rfl rfl rfl (fun hg=>Z5 Zj (qR rfl) rfl) ?_;refine JO.tg rfl rfl rfl rfl rfl (fun hg=>ZS ZG (qR rfl)) ?_;refine JO.tg rfl rfl rfl rfl rfl (fun hg=>Z1U (qR rfl) (.inl rfl)) ?_;refine JO.tg rfl rfl rfl rfl rfl (fun hg=>Z1 (qR rfl)) ?_;refine JO.tgg rfl rfl rfl rfl rfl (fun hg=>Z1 (.inl rfl)) (JO.tgg rfl rfl rfl rfl rfl (fun hg=>Z3 (qR rfl)) ?_);refine JO.tgg rfl rfl rfl rfl rfl (fun hg=>Z0 Z8 (qR rfl)) ?_;refine JO.tgg rfl rfl rfl rfl rfl (fun hg=>Z5 Zj (qR rfl) rfl) ?_;refine JO.tgg rfl rfl rfl rfl rfl (fun hg=>Zq ZH (qR rfl) rfl (.inl rfl) qM (Z1G (Z1M hg.2))) ?_;refine JO.tgg rfl rfl rfl rfl rfl (fun hg=>Z0 Z3B (qR rfl)) ?_;refine JO.tgg rfl rfl rfl rfl rfl (fun hg=>Z1h (enc:=T3.cells) (sz:=3) (i:=T.k (skT 1 ZO us)) (j:=1) (y:=(skT 1 ZO us).headD t3D) (u:=.string ((skT 1 ZO us).headD t3D).t) ZC (qR rfl) qI rfl (Tk.head hvs (Z1M hg.2)) (by rw[Tk.j_eq hc hvs (Z1M hg.2)];omega) rfl) ?_;refine JO.tgg rfl rfl rfl rfl rfl (fun hg=>Z3b (qR rfl) (.inl rfl)) ?_;refine JO.tg rfl rfl rfl rfl rfl (fun hg=>Zz (qR rfl) (.inl rfl) (.inl rfl) (fun h=>⟨hg,h⟩)) ?_;refine JO.tg rfl rfl rfl rfl rfl (fun hg=>Z1 (qR rfl)) ?_;refine JO.tgg rfl rfl rfl rfl rfl (fun hg=>Z1 (.inl rfl)) (JO.tgg rfl rfl rfl rfl rfl (fun hg=>Z3 (qR rfl)) ?_);refine JO.tgg rfl rfl rfl rfl rfl (fun hg=>Z0 Z8 (qR rfl)) ?_;refine JO.tgg rfl rfl rfl rfl rfl (fun hg=>Z5 Zj (qR rfl) rfl) ?_;refine JO.tgg rfl rfl rfl rfl rfl (fun hg=>Zq ZH (qR rfl) rfl (.inl rfl) qM (Z1G (Z1M ((Bool.and_eq_true _ _).mp hg.2).1))) ?_;refine JO.tgg rfl rfl rfl rfl rfl (fun hg=>Z0 Z1R (qR rfl)) ?_;refine JO.tgg rfl rfl rfl rfl rfl (fun hg=>Z1h (enc:=T3.cells) (sz:=3) (i:=T.k (skT 1 ZO us)) (j:=0) (y:=(skT 1 ZO us).headD t3D) (u:=.int .i64 ((skT 1 ZO us).headD t3D).k) Zy (qR rfl) qI rfl (Tk.head hvs (Z1M ((Bool.and_eq_true _ _).mp hg.2).1)) (by rw[Tk.j_eq hc hvs (Z1M ((Bool.and_eq_true _ _).mp hg.2).1)];omega) rfl) ?_;refine JO.tgg rfl rfl rfl rfl rfl (fun hg=>ZT (qR rfl) (.inl rfl)) ?_;refine JO.tg rfl rfl rfl rfl rfl (fun hg=>Zz (qR rfl) (.inl rfl) (.inl rfl) (fun h=>⟨hg,h⟩)) ?_;refine Jq (Z1g rfl rfl rfl id) (vS [0,2,3,46] ?_);refine yC rfl (fun ht46=>?_) (fun ht46=>?_)
 try simp only[yd,yf]at ht46
 apply yK;refine vN ?_;apply yk;have hyj:isJ us=true:=by rw[<-ZbK];exact ht46
 refine vQ ?_;refine Jm rfl ?_;refine JO.callPK (Lr:=_) (Zg T hc b (skT 1 ZO us) hvs Z3T (by decide+kernel) (by decide+kernel) (asc (by decide+kernel))) rfl (.refl _) qF qA (fun hbad=>?_) ?_
 · exact JX.pnI (by rw[Z1n,hzi,Option.bind_some,hzf,Option.bind_some,hzs,Option.bind_some,hJ];rw[Z41 hed hyj];unfold joinP;rw[hbad];rfl)
 intro y1 hy1;have g1:Lt y1.2 us:=Lt.trans (Z9 _ _ _ _ hy1) (Z33 _ _ _);refine vD ?_;refine vP [0,2,3] ?_;refine Jm rfl ?_;refine JO.callPK (Lr:=_) (Z2X T hc b y1.2 (g1.1.trans hut)) rfl (.refl _) qF qA (fun hbad=>?_) ?_
 · exact JX.pnI (by rw[Z1n,hzi,Option.bind_some,hzf,Option.bind_some,hzs,Option.bind_some,hJ];rw[Z41 hed hyj];unfold joinP;rw[hy1,Option.bind_some,hbad];rfl)
 intro y2 hy2;have g2:Lt y2.2 us:=Lt.trans (Z2T _ _ hy2) g1.1;refine vD ?_;refine JO.alloc Z37 rfl fun b5=>(JO.m (Z2 rfl rfl qU qC qO Z2t) (by rfl) ?_);refine vP [0,2,3,5] ?_;refine Jm rfl ?_;refine JO.callPK (Lr:=_) (Zg T hc b (y2.2) (g2.1.trans hut) w_ON (by decide+kernel) (by decide+kernel) (asc (by decide+kernel))) rfl (.swap _ _ _) qF qA (fun hbad=>?_) ?_
 · exact JX.pnI (by rw[Z1n,hzi,Option.bind_some,hzf,Option.bind_some,hzs,Option.bind_some,hJ];rw[Z41 hed hyj];unfold joinP;rw[hy1,Option.bind_some,hy2,Option.bind_some,hbad];rfl)
 intro y3 hy3;have g3:Lt y3.2 us:=Lt.trans (Z9 _ _ _ _ hy3) g2.1;refine vD ?_;refine vP [0,2,3,5] ?_;refine Jm rfl ?_;refine JO.callPK (Lr:=_) (hex y3.2 (g3.1.trans hut) (by have:=g3.2;omega)) rfl (.refl _) qF qA (fun hbad=>?_) ?_
 · exact JX.pnI (by rw[Z1n,hzi,Option.bind_some,hzf,Option.bind_some,hzs,Option.bind_some,hJ];rw[Z41 hed hyj];unfold joinP;rw[hy1,Option.bind_some,hy2,Option.bind_some,hy3,Option.bind_some,hbad];rfl)
 intro y4 hy4;have g4:Lt y4.2 us:=Lt.trans (hed _ _ hy4) g3.1;refine vD ?_;refine Jq (Z2y ZK rfl) (JO.open_ (s:=57) (R:=ExsR [y4.1]) rfl ?_);rintro v57 ⟨w57,h57⟩;obtain⟨a57,l57,c57,rfl⟩:=Z78 h57;refine Jq (Z0 Z57 rfl) (JO.m (Zc (cs':=[_,_,_]) rfl rfl qU rfl rfl rfl rfl Z2f) (by rfl) ?_);refine vP [0,2,3,5] ?_;refine Jq (Z0 Z1Z rfl) (Jq (Z5 Z2n rfl rfl) (Jq (Z18 (cs:=[_,_,_]) Z22 rfl rfl rfl) (Jq (Z4Z (p:=sjC y2.1 y4.1 a57 l57 c57) Z9z Z4D rfl qD rfl) ?_)));refine JO.apO (ys:=[sjC y2.1 y4.1 a57 l57 c57]) Z7I Cel.hlen (.there (.there (.there (.there .here)))) hG rfl rfl (srcE _ Z2j) (by simp) (by show(ps.length+1)*56<=140737488355328;have:=hts.length_le;omega) (by show ps.length+1<=9223372036854775807;have:=hts.length_le;omega) rfl (fun st2 cap2 hG2=>?_);obtain⟨b63,cs63,rfl⟩:=Z3l hG2 (by simp);refine Jq (Z0 Z1Z rfl) (JO.m (Zc (cs':=[_,_,_,_,_,_,_,_,_,_,_,_,_,_]) rfl rfl qU rfl rfl rfl rfl Z4p) (by rfl) ?_);refine vP [0,2,3] ?_;refine Jm rfl (JO.callK (Lr:=[_,_,_,_]) (Za T hc b y4.2 (g4.1.trans hut) ZO) rfl (.swap _ _ _) qF qA ?_);intro _ _;refine vD ?_;refine Ja rfl ?_;apply yI
 repeat refine JX.normal_block ?_
 refine JX.roundG (x:=(ps,st,cap,us)) (ps++[sjC y2.1 y4.1 a57 l57 c57],some (b63,cs63),cap2,y4.2) ?_ ?_ [0,2,3,4] ?_ ?_ ?_ ?_
 · exact⟨g4.1.trans hus,(by show(ps++[sjC y2.1 y4.1 a57 l57 c57]).length+y4.2.length<=ts.length;rw[List.length_append];show ps.length+1+y4.2.length<=ts.length;have:=g4.2;omega),hG2,(by rw[hJ,Z41 hed hyj,List.map_append];unfold joinP;rw[hy1,Option.bind_some,hy2,Option.bind_some,hy3,Option.bind_some,hy4];rfl)⟩
 · exact(by show y4.2.length<us.length;exact g4.2)
 · exact qS
 · exact(.cons .here (.cons (.there (.there .here)) (.cons (.there (.there .here)) (.cons .here .nil))))
 · exact qG
 · exact fun X w hF=>fun w' hk=>CelF.snoc (hF _ qI w' hk) (Zek (hF _ qI w' hk))
 try simp only[yd,yf]at ht46
 repeat apply yQ
 refine J.exit ?_
 repeat first|refine yH ?_|refine yM rfl ?_|refine yE ?_
 repeat first|apply yX|apply yB
 have hno:isJ us=false:=by rw[<-ZbK];exact ht46
 have hni:isT 1 ZO us=false:=(Bool.or_eq_false_iff.1 hno).1;rw[Z17 hni];refine vQ ?_;refine Jm rfl (Jq (Z0 Z1Z rfl) (Jq (Z5 Z2n rfl rfl) (Jq (Z9q hG Z2j rfl) (Jq (Z42 rfl rfl) ?_))));refine JO.callPK (Lr:=_) (Zb (.pointer (some ⟨b,0,none⟩)) (decide ((ps.length:Int)<=4))) rfl (Z1b _) Z13 qA (fun hbad=>?_) ?_
 · exact JX.pnI (by rw[Z1n,hzi,Option.bind_some,hzf,Option.bind_some,hzs,Option.bind_some,hJ,Z2P hno,Option.bind_some];unfold qTail;rw[if_neg (by rw[List.length_map];have:=of_decide_eq_false hbad;omega)])
 intro _ hle;refine vD ?_;refine vS [0,2,3] ?_;refine J.freezeOMW (e:=Z6q) (sz:=3) hNW Cel.hlen hG (.there (.there (.there .here))) (fun q hq=>by simp only[List.map_cons,List.map_nil,List.mem_singleton]at hq;exact⟨_,List.mem_cons_self,hq.symm⟩) rfl rfl ?_;rw[hG.sl.1];refine vQ ?_;refine Jm rfl ?_;refine JO.callPK (Lr:=_) (Z1T N T hc h9 b us hut e (fun vs hvs hv=>hex vs hvs qM)) rfl (.refl _) qF qA (fun hbad=>?_) ?_
 · exact JX.pnI (by rw[Z1n,hzi,Option.bind_some,hzf,Option.bind_some,hzs,Option.bind_some,hJ,Z2P hno,Option.bind_some];unfold qTail;rw[if_pos (by rw[List.length_map];have:=of_decide_eq_true hle;omega),hbad];rfl)
 intro zw hzw;have hxw:zw.2<:+ts:=(Z4V hed hzw).trans hus;refine vD ?_;refine JO.openEv (s:=72) rfl (fun a72 l72 c72 _ _=>?_);refine Jq (Z0 Z2s rfl) (JO.m (Zc (cs':=[_,_,_,_,_,_,_,_,_,_,_,_,_,_]) rfl rfl qU rfl rfl rfl rfl Z2f) (by rfl) ?_);refine vP [0,2,3] ?_;refine Jm rfl (JO.callK (Lr:=[_,_]) (Za T hc b zw.2 (hxw.trans hts) Z4h) rfl (.refl _) qF qA ?_);intro _ _;refine vD ?_;refine vS [0,2,3,75] ?_;refine J.cutZF (fun x:(List Ex×List T3)×Option Addr×Nat×Nat=>[(0,.is (.pointer (some ⟨b,0,none⟩))),(2,.is (.pointer (some ⟨b2,0,none⟩))),(3,.is (.pointer (some ⟨b3,0,none⟩)))]) (fun x:(List Ex×List T3)×Option Addr×Nat×Nat=>PB T b x.1.2::⟨b3,Zs,.is (.agg #[.int .i64 4,.string ⟨#[]⟩,.string ⟨#[]⟩,.slice none 0 0,.slice none 0 0,.slice none 0 0,.slice a8 l8 c8,.slice (adO st) ps.length (capO st cap),.slice a72 l72 c72,.slice x.2.1 x.2.2.1 x.2.2.2,.slice none 0 0,.int .i64 (-1),.slice none 0 0,.bool false])⟩::⟨b2,Zs,.is (.agg #[.int .i64 0,.string ⟨#[]⟩,.string ⟨#[]⟩,.slice none 0 0,.slice none 0 0,.slice none 0 0,.slice none 0 0,.slice none 0 0,.slice none 0 0,.slice none 0 0,.slice none 0 0,.int .i64 0,.slice none 0 0,.bool false])⟩::[]) (fun x:(List Ex×List T3)×Option Addr×Nat×Nat=>SlE exE noS x.1.1 (.slice x.2.1 x.2.2.1 x.2.2.2)) (fun x:(List Ex×List T3)×Option Addr×Nat×Nat=>groupP e zw.2=some x.1/\x.1.2<:+ts) ?_ ?_
 · refine yC rfl (fun ht75=>?_) (fun ht75=>?_)
   try simp only[yd,yf]at ht75
   have hgy:isT 1 Z4h zw.2=true:=ht75;rw[ZU hgy];refine vQ ?_;refine Jm rfl ?_;refine JO.callPK (Lr:=[_,_]) (Zg T hc b _ ((List.tail_suffix _).trans (hxw.trans hts)) w_BY (by decide+kernel) (by decide+kernel) (asc (by decide+kernel))) rfl (.refl _) qF qA (fun hbad=>?_) ?_
   · exact JX.pnI (by rw[Z1n,hzi,Option.bind_some,hzf,Option.bind_some,hzs,Option.bind_some,hJ,Z2P hno,Option.bind_some];unfold qTail;rw[if_pos (by rw[List.length_map];have:=of_decide_eq_true hle;omega),hzw,Option.bind_some,Z8b hgy,hbad];rfl)
   intro zb hzb;refine vD ?_;have hxb:zb.2<:+ts:=(Z9 _ _ _ _ hzb).1.trans ((List.tail_suffix _).trans hxw);refine vP [0,2,3] ?_;refine Jm rfl ?_;refine JO.callPK (Lr:=[_,_]) (Z5u .ex N T hc h9 b zb.2 (hxb.trans hts) exE Z4C rfl e hed 16 Zn (fun us hus hu=>by have:=hex us hus (by have:=hxb.length_le;omega);simp only[Z75]at this;exact this.weak qF)) rfl (.refl _) qF qA (fun hbad=>?_) ?_
   · exact JX.pnI (by rw[Z1n,hzi,Option.bind_some,hzf,Option.bind_some,hzs,Option.bind_some,hJ,Z2P hno,Option.bind_some];unfold qTail;rw[if_pos (by rw[List.length_map];have:=of_decide_eq_true hle;omega),hzw,Option.bind_some,Z8b hgy,hzb,Option.bind_some,hbad];rfl)
   intro zg hzg;have hxg:zg.2<:+ts:=(Z6d hed 16 _ _ hzg).1.trans hxb;refine vD ?_;refine JO.openEv (s:=79) rfl (fun a79 l79 c79 _ _=>?_);refine Jq (Z0 Z6v rfl) (JO.m (Zc (cs':=[_,_,_,_,_,_,_,_,_,_,_,_,_,_]) rfl rfl qU rfl rfl rfl rfl Z2f) (by rfl) ?_);apply yI;refine JX.midF ((zg,a79,l79,c79)) ?_ [0,2,3] ?_ ?_ ?_ ?_
   · exact⟨(by rw[Z8b hgy,hzb,Option.bind_some];exact hzg),hxg⟩
   · exact qS
   · exact qH
   · exact qG
   · exact fun X w hF=>fun w' hk=>SlE.weak (hF _ qI w' hk) (fun _ _ _ _=>trivial)
   try simp only[yd,yf]at ht75
   apply yK;have hng:isT 1 Z4h zw.2=false:=ht75;rw[Z17 hng];refine JX.midF ((([],zw.2),none,0,0)) ?_ [0,2,3] ?_ ?_ ?_ ?_
   · exact⟨Zdk hng,hxw⟩
   · exact qS
   · exact qH
   · exact qG
   · exact fun X w hF=>fun w' hk=>Ze trivial
 · intro⟨⟨gl,gu⟩,ag,lg,cg⟩ ⟨hgr,hx18⟩
   try dsimp only
   refine vQ ?_;refine Jm rfl (JO.callK (Lr:=[_,_]) (Za T hc b gu (hx18.trans hts) Z4g) rfl (.refl _) qF qA ?_);intro _ _;refine vD ?_;refine vS [0,2,3,82] ?_;refine J.cutZF (fun x:(List Pz.Ky×List T3)×Option Addr×Nat×Nat=>[(0,.is (.pointer (some ⟨b,0,none⟩))),(2,.is (.pointer (some ⟨b2,0,none⟩))),(3,.is (.pointer (some ⟨b3,0,none⟩)))]) (fun x:(List Pz.Ky×List T3)×Option Addr×Nat×Nat=>PB T b x.1.2::⟨b3,Zs,.is (.agg #[.int .i64 4,.string ⟨#[]⟩,.string ⟨#[]⟩,.slice none 0 0,.slice none 0 0,.slice none 0 0,.slice a8 l8 c8,.slice (adO st) ps.length (capO st cap),.slice a72 l72 c72,.slice ag lg cg,.slice x.2.1 x.2.2.1 x.2.2.2,.int .i64 (-1),.slice none 0 0,.bool false])⟩::⟨b2,Zs,.is (.agg #[.int .i64 0,.string ⟨#[]⟩,.string ⟨#[]⟩,.slice none 0 0,.slice none 0 0,.slice none 0 0,.slice none 0 0,.slice none 0 0,.slice none 0 0,.slice none 0 0,.slice none 0 0,.int .i64 0,.slice none 0 0,.bool false])⟩::[]) (fun x:(List Pz.Ky×List T3)×Option Addr×Nat×Nat=>SlE kyE noS x.1.1 (.slice x.2.1 x.2.2.1 x.2.2.2)) (fun x:(List Pz.Ky×List T3)×Option Addr×Nat×Nat=>orderP e gu=some x.1/\x.1.2<:+ts) ?_ ?_
   · refine yC rfl (fun ht82=>?_) (fun ht82=>?_)
     try simp only[yd,yf]at ht82
     have hoy:isT 1 Z4g _=true:=ht82;rw[ZU hoy];refine vQ ?_;refine Jm rfl ?_;refine JO.callPK (Lr:=[_,_]) (Zg T hc b _ ((List.tail_suffix _).trans (hx18.trans hts)) w_BY (by decide+kernel) (by decide+kernel) (asc (by decide+kernel))) rfl (.refl _) qF qA (fun hbad=>?_) ?_
     · exact JX.pnI (by rw[Z1n,hzi,Option.bind_some,hzf,Option.bind_some,hzs,Option.bind_some,hJ,Z2P hno,Option.bind_some];unfold qTail;rw[if_pos (by rw[List.length_map];have:=of_decide_eq_true hle;omega),hzw,Option.bind_some,hgr,Option.bind_some,Z8k hoy,hbad];rfl)
     intro zp hzp;refine vD ?_;have hxp:zp.2<:+ts:=(Z9 _ _ _ _ hzp).1.trans ((List.tail_suffix _).trans hx18);refine vP [0,2,3] ?_;refine Jm rfl ?_;refine JO.callPK (Lr:=[_,_]) (Z5u .ky N T hc h9 b zp.2 (hxp.trans hts) kyE Zc7 rfl (keyP e) (Z73 hed) 16 Z3n (fun us hus hu=>Z6m N T hc h9 b us hus e (fun{us z} h=>(hed us z h).1) (fun vs hvs hv=>hex vs hvs (by have:=hxp.length_le;omega)))) rfl (.refl _) qF qA (fun hbad=>?_) ?_
     · exact JX.pnI (by rw[Z1n,hzi,Option.bind_some,hzf,Option.bind_some,hzs,Option.bind_some,hJ,Z2P hno,Option.bind_some];unfold qTail;rw[if_pos (by rw[List.length_map];have:=of_decide_eq_true hle;omega),hzw,Option.bind_some,hgr,Option.bind_some,Z8k hoy,hzp,Option.bind_some,hbad];rfl)
     intro zo hzo;have hxo:zo.2<:+ts:=(Z6d (Z73 hed) 16 _ _ hzo).1.trans hxp;refine vD ?_;refine JO.openEv (s:=86) rfl (fun a86 l86 c86 _ _=>?_);refine Jq (Z0 Z3K rfl) (JO.m (Zc (cs':=[_,_,_,_,_,_,_,_,_,_,_,_,_,_]) rfl rfl qU rfl rfl rfl rfl Z8T) (by rfl) ?_);apply yI;refine JX.midF ((zo,a86,l86,c86)) ?_ [0,2,3] ?_ ?_ ?_ ?_
     · exact⟨(by rw[Z8k hoy,hzp,Option.bind_some];exact hzo),hxo⟩
     · exact qS
     · exact qH
     · exact qG
     · exact fun X w hF=>fun w' hk=>SlE.weak (hF _ qI w' hk) (fun _ _ _ _=>trivial)
     try simp only[yd,yf]at ht82
     apply yK;have hno2:isT 1 Z4g gu=false:=ht82;rw[Z17 hno2];refine JX.midF ((([],gu),none,0,0)) ?_ [0,2,3] ?_ ?_ ?_ ?_
     · exact⟨Zd3 hno2,hx18⟩
     · exact qS
     · exact qH
     · exact qG
     · exact fun X w hF=>fun w' hk=>Ze trivial
   · intro⟨⟨ol,ou⟩,ao,lo,co⟩ ⟨hor,hx21⟩
     try dsimp only
     refine vQ ?_;refine Jm rfl (JO.callK (Lr:=[_,_]) (Za T hc b ou (hx21.trans hts) Z4j) rfl (.refl _) qF qA ?_);intro _ _;refine vD ?_;refine vS [0,2,3,89] ?_;refine J.cutZN (fun x:Int×List T3=>[(2,.is (.pointer (some ⟨b2,0,none⟩))),(3,.is (.pointer (some ⟨b3,0,none⟩)))]) (fun x:Int×List T3=>PB T b x.2::⟨b3,Zs,.is (.agg #[.int .i64 4,.string ⟨#[]⟩,.string ⟨#[]⟩,.slice none 0 0,.slice none 0 0,.slice none 0 0,.slice a8 l8 c8,.slice (adO st) ps.length (capO st cap),.slice a72 l72 c72,.slice ag lg cg,.slice ao lo co,.int .i64 (x.1),.slice none 0 0,.bool false])⟩::⟨b2,Zs,.is (.agg #[.int .i64 0,.string ⟨#[]⟩,.string ⟨#[]⟩,.slice none 0 0,.slice none 0 0,.slice none 0 0,.slice none 0 0,.slice none 0 0,.slice none 0 0,.slice none 0 0,.slice none 0 0,.int .i64 0,.slice none 0 0,.bool false])⟩::[]) (fun x:Int×List T3=>limitP ou=some x) ?_ ?_
     · refine yC rfl (fun ht89=>?_) (fun ht89=>?_)
       try simp only[yd,yf]at ht89
       have hly:isT 1 Z4j _=true:=ht89;rw[ZU hly];refine vQ ?_;refine Jm rfl ?_;refine JO.callPK (Lr:=[_,_]) (Z1E T hc b _ ((List.tail_suffix _).trans (hx21.trans hts)) 3) rfl (.refl _) qF qA (fun hbad=>?_) ?_
       · exact JX.pnI (by rw[Z1n,hzi,Option.bind_some,hzf,Option.bind_some,hzs,Option.bind_some,hJ,Z2P hno,Option.bind_some];unfold qTail;rw[if_pos (by rw[List.length_map];have:=of_decide_eq_true hle;omega),hzw,Option.bind_some,hgr,Option.bind_some,hor,Option.bind_some,Zav hly,hbad];rfl)
       intro zl hzl;refine vD ?_;refine Jq (Z54 (off:=2) qK rfl rfl) ?_;refine Jq (Z0 Z5U rfl) (JO.m (Zc (cs':=[_,_,_,_,_,_,_,_,_,_,_,_,_,_]) rfl rfl qU rfl rfl rfl rfl Z30) (by rfl) ?_);apply yI;refine JX.midZ ((zl.1.n,zl.2)) ?_ [2,3] ?_ ?_ ?_
       · exact(by rw[Zav hly,hzl];rfl)
       · exact qS
       · exact qH
       · exact qG
       try simp only[yd,yf]at ht89
       apply yK;have hnl:isT 1 Z4j ou=false:=ht89;rw[Z17 hnl];refine JX.midZ ((-1,ou)) ?_ [2,3] ?_ ?_ ?_
       · exact(Zda hnl)
       · exact qS
       · exact qH
       · exact qG
     · intro⟨lv,lu⟩ hlr
       try dsimp only
       refine vQ ?_;refine Jq (Z18 (cs:=[_,_,_,_,_,_,_,_,_,_,_,_,_,_]) Zm rfl rfl rfl) (JO.m (Z2 rfl rfl qU qC qO Zk) (by rfl) ?_);refine vS [2] ?_;refine vR ?_;refine JX.toP ?_;exact JX.retLCs (Lr:=[_,_]) rfl ({stK 4 with items:=zi.1,from_:=ps.map Cel.x,where_:=zw.1,group:=gl,order:=ol,limit:=lv},lu) (by rw[Z1n,hzi,Option.bind_some,hzf,Option.bind_some,hzs,Option.bind_some,hJ,Z2P hno,Option.bind_some];unfold qTail;rw[if_pos (by rw[List.length_map];have:=of_decide_eq_true hle;omega),hzw,Option.bind_some,hgr,Option.bind_some,hor,Option.bind_some,hlr];rfl) (.refl _) rfl rfl hb0 rfl Zm HasOwn.mem (Z11 rfl) (Sub.st rfl fun X w hf w' hk=>⟨Ze (FrS.nil _),Ze (FrS.nil _),Ze trivial,SlE.weak (hf _ qI w' hk) (fun _ _ _ _=>trivial),(by show SlE srE noS (ps.map Cel.x) (.slice (adO st) ps.length (capO st cap)) w';rw[<-hG.sl.1];exact SlE.ofGr0 hG (hf _ qI w' hk) (hf _ qI w' hk)),hf _ qI w' hk,SlE.exs (hf (SlE exE noS gl (.slice ag lg cg)) qI w' hk),hf (SlE kyE noS ol (.slice ao lo co)) qI w' hk,Z1e⟩)
end Go.Proofs.YtbedigkncjbggaaDoor
