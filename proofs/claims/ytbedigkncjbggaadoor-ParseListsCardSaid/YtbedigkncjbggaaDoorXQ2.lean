/- The parser: factors. No condition. -/
import Derived.Test.YtbedigkncjbggaaDoorXQ1
import Derived.Test.YtbedigkncjbggaaDoorXG7
set_option maxRecDepth 20000
namespace Go.Proofs.YtbedigkncjbggaaDoor
open Go Go.Vc
open Go.Pz
theorem Z8G{e:Ps Ex}{ts:List T3}(h:isT 5 Z3C ts=true):factorP e ts=(factorP e ts.tail).map fun z=>(nd 3 [z.1],z.2):=by
 obtain⟨t,r,rfl,_⟩:=Z6c h;rw[factorP,if_pos h];rfl
theorem Z8F{e:Ps Ex}{ts:List T3}(h:isT 5 Z3C ts=false):factorP e ts=atomP e ts:=by
 cases ts with
 |nil=>rw[factorP]
 |cons t r=>rw[factorP,if_neg (by rw[h];decide)]
theorem ZU{k:Int}{s:ByteArray}{ts:List T3}(h:isT k s ts=true):skT k s ts=ts.tail:=by unfold skT;rw[h];rfl
theorem Z17{k:Int}{s:ByteArray}{ts:List T3}(h:isT k s ts=false):skT k s ts=ts:=by unfold skT;rw[h];rfl
theorem Zl{ts us:List T3}(h:ts<:+us):ts.tail<:+us:=(List.tail_suffix ts).trans h
theorem Z3z(T:Tk)(hc:T.ts.length<=T.cap)(b:Nat)(ts:List T3)(hts:ts<:+T.ts)(e:Ps Ex)(hat:CallP Tryd.prog Z1I [PB T b (ts)] [T.G,AF] [.is (.pointer (some ⟨b,0,none⟩))] (atomP e (ts)=none) flt (fun z:Ex×List T3=>atomP e (ts)=some z) (fun z=>[PB T b z.2]) (fun z=>.rep (ExR z.1)))(ih: ∀us,us<:+T.ts->us.length<ts.length->CallP Tryd.prog Z14 [PB T b (us)] [T.G,AF] [.is (.pointer (some ⟨b,0,none⟩))] (factorP e (us)=none) flt (fun z:Ex×List T3=>factorP e (us)=some z) (fun z=>[PB T b z.2]) (fun z=>.rep (ExR z.1))):CallP Tryd.prog Z14 [PB T b ts] [T.G,AF] [.is (.pointer (some ⟨b,0,none⟩))] (factorP e ts=none) flt (fun z:Ex×List T3=>factorP e ts=some z) (fun z=>[PB T b z.2]) (fun z=>.rep (ExR z.1)):=
CallP.of (fn:=Tryd.f98) Tryd.func98 (n:=11) rfl rfl rfl (fun _ _=>by kernel_rfl) fun E W hb0=>by
 refine vQ ?_;refine JO.alloc ZM rfl fun b2=>(vP [0,2] ?_);refine Jm rfl (JO.callK (Lr:=[_]) (Zh T hc b ts hts Z3C) rfl (.swap _ _ _) qF qA ?_);intro z hz;refine vD ?_;refine vS [0,2,4] ?_;refine yC rfl (fun ht4=>?_) (fun ht4=>?_);rw[ZU ht4];refine vQ ?_;refine Jm rfl ?_;refine JO.callPK (Lr:=[_]) (ih ts.tail (Zl hts) (Zt ht4).2) rfl (.refl _) qF qA (fun hbad=>?_) ?_
 · exact JX.pnI (by rw[Z8G ht4,hbad];rfl)
 intro z hz;refine vD ?_;refine JO.openA (s:=6) rfl (fun a6 l6 q6 b6_ o6_ _ _=>?_);refine Jq (ZD (cs:=[_,_,_,_,_,_,_,_]) ZK qM qM (.cons rfl .nil) rfl rfl rfl) ?_;refine JO.callK (Lr:=[_,_]) ((Z1B 3 [z.1]).toL (L0:=[]) (Φ0:=[]) (Zp:=fun _:Unit=>True) (L1:=fun _=>[]) (R:=fun _=>.rep (ExR (nd 3 [z.1]))) () trivial rfl (fun _ _ _ h=>h)) rfl (Z1b _) Z13 (.one rfl (.sub rfl (Sub.newExs [XC.mk' (z.1) (z.1).K (z.1).VK (z.1).VN (z.1).VS (z.1).TB (z.1).NM (z.1).SL a6 l6 q6] rfl (fun p hp=>by rw[List.mem_singleton]at hp;subst hp;(repeat first|exact yh|apply yx))) .nil)) ?_;intro _ _;refine vD ?_;refine JO.m (Z2 rfl rfl qU qC qO Zf) (by rfl) ?_;refine vS [2] ?_;refine vR ?_;refine JX.toP ?_;exact JX.retLCs (Lr:=[_]) rfl (nd 3 [z.1],z.2) (by rw[Z8G ht4,hz];rfl) (.refl _) rfl rfl hb0 rfl Z7 HasOwn.mem Z16 (Sub.refl _);apply yK
 repeat first|apply yX|apply yB
 rw[Z17 ht4];refine vQ ?_;refine Jm rfl ?_;refine JO.callPK (Lr:=[_]) (hat) rfl (.refl _) qF qA (fun hbad=>?_) ?_
 · exact JX.pnI (by rw[Z8F ht4,hbad])
 intro z hz;refine vD ?_;refine JO.m (Z2 rfl rfl qU qC qO Zf) (by rfl) ?_;refine vS [2] ?_;refine vR ?_;refine JX.toP ?_;exact JX.retLCs (Lr:=[_]) rfl z (by rw[Z8F ht4,hz]) (.refl _) rfl rfl hb0 rfl Z7 HasOwn.mem Z16 (Sub.refl _)
theorem Z2V(T:Tk)(hc:T.ts.length<=T.cap)(b:Nat)(e:Ps Ex)(N:Nat)(hat: ∀ts,ts<:+T.ts->ts.length<=N->CallP Tryd.prog Z1I [PB T b (ts)] [T.G,AF] [.is (.pointer (some ⟨b,0,none⟩))] (atomP e (ts)=none) flt (fun z:Ex×List T3=>atomP e (ts)=some z) (fun z=>[PB T b z.2]) (fun z=>.rep (ExR z.1))): ∀n ts,ts<:+T.ts->ts.length<=N->ts.length<=n->CallP Tryd.prog Z14 [PB T b (ts)] [T.G,AF] [.is (.pointer (some ⟨b,0,none⟩))] (factorP e (ts)=none) flt (fun z:Ex×List T3=>factorP e (ts)=some z) (fun z=>[PB T b z.2]) (fun z=>.rep (ExR z.1))
 |n,ts,hts,hN,hn=>Z3z T hc b ts hts e (hat ts hts hN) fun us hus hl=>by
  cases n with
  |zero=>omega
  |succ n=>exact Z2V T hc b e N hat n us hus qM qM
theorem Zc2(s:ByteArray)(h:Lib.fields s.data.toList=[s.data.toList])(hs:s.size<4294967281)(ha: ∀(j:Nat) (b:UInt8),s.data.toList[j]? =some b->b.toNat<128):CallF Tryd.prog Z4z [AF] [.is (.string s)] (.newSl (.cells ([Value.string s]:List Value).toArray 9 (0,0)) 1 1):=by
 have h1:=Z7P s hs ha;rw[h]at h1;have e:(⟨s.data.toList.toArray⟩:ByteArray)=s:=by rw[Array.toArray_toList]
 simp only[List.map_cons,List.map_nil,e]at h1;exact h1
abbrev wd(i:Nat)(s:ByteArray)(ts:List T3):List T3:=if i=0 then ts else ts.tail
theorem Zg(T:Tk)(hc:T.ts.length<=T.cap)(b:Nat)(ts:List T3)(hts:ts<:+T.ts)(s:ByteArray)(h:Lib.fields s.data.toList=[s.data.toList])(hs:s.size<4294967281)(ha: ∀(j:Nat) (b:UInt8),s.data.toList[j]? =some b->b.toNat<128):CallP Tryd.prog Z5k [PB T b ts] [T.G,AF] [.is (.pointer (some ⟨b,0,none⟩)),.is (.string s)] (wantP 1 s ts=none) flt (fun z:Unit×List T3=>wantP 1 s ts=some z) (fun z=>[PB T b z.2]) (fun _=>.is (.tuple #[])):=
CallP.of (fn:=Tryd.f34) Tryd.func34 (n:=19) rfl rfl rfl (fun _ _=>by kernel_rfl) fun E W hb0=>by
 refine vQ ?_;refine Jm rfl (Jq (Z1J rfl (Zc2 s h hs ha) (by simp) qA) ?_);refine JO.openNew (s:=7) rfl (fun r7=>?_);refine Jq (ZS Z2J rfl) (Jm rfl (vS [0,7,8,9] ?_));apply yk
 repeat apply yQ
 refine J.loopG (α:=Nat) (fun i=>[(0,.is (.pointer (some ⟨b,0,none⟩))),(7,.is (.slice (some ⟨r7,0,none⟩) 1 1)),(8,.is (.int .i64 1)),(9,.is (.int .i64 (i:Int)))]) (fun i=>[PB T b (wd i s ts)]) (fun i=>fun _=>True) (fun i=>i<=1/\(i=1->isT 1 s ts=true)) (fun i=>1-i) 0 [0,7,8,9] (.cons rfl (.cons rfl (.cons rfl (.cons rfl .nil)))) rfl (fun _=>trivial) ⟨by omega,by omega⟩ fun i ⟨hi,hT⟩=>?_;refine vQ ?_;refine Jq (Z1o rfl rfl) (vS [0,7,8,9,10] ?_);refine yC rfl (fun ht10=>?_) (fun ht10=>?_)
 try simp only[yd,yf]at ht10
 apply yK;refine vN ?_;apply yk;obtain rfl:i=0:=by omega
 rw[show wd 0 s ts=ts from rfl];refine vQ ?_;refine Jq (Zq Z3k rfl rfl rfl qM qM) ?_;refine Jq (Z5O (cs:=[Value.string s]) ZC rfl qI rfl) ?_;refine Ja rfl (vP [0,5,7,8,9] ?_);refine Jm rfl (Jm rfl (Jm rfl (JO.callK (Lr:=[]) (Za T hc b ts hts s) rfl (.refl _) (Z4y qI) qA ?_)));intro z hz;refine JO.callPK (Lr:=_) (Zb (.pointer (some ⟨b,0,none⟩)) (isT 1 s ts)) rfl (Z1b _) Z13 qA (fun hbad=>?_) ?_
 · exact JX.pnI (by unfold wantP;rw[hbad];rfl)
 intro z hz;refine vD ?_;refine vS [0,7,8,9] ?_;rw[show skT 1 s ts=wd 1 s ts by unfold skT;rw[hz];rfl];refine vQ ?_;refine Jq (ZB (cc:=1) rfl rfl qM qM qM) ?_;refine Jm rfl ?_;apply yI
 repeat refine JX.normal_block ?_
 refine JX.roundG (x:=0) 1 ?_ ?_ [0,7,8,9] ?_ ?_ ?_ ?_
 · exact⟨by omega,fun _=>hz⟩
 · exact qM
 · exact qS
 · exact qH
 · exact qG
 · exact fun _ _ _=>fun _ _=>trivial
 try simp only[yd,yf]at ht10
 repeat apply yQ
 refine J.exit ?_
 repeat first|refine yH ?_|refine yM rfl ?_|refine yE ?_
 repeat first|apply yX|apply yB
 refine JX.normal_ret ?_;refine JX.toP ?_;obtain rfl:i=1:=by omega
 exact JX.retL0 rfl ((),ts.tail) (by unfold wantP;rw[hT rfl];rfl) (.refl _) rfl hb0 rfl
abbrev srcV(s:Pz.Src):Value:=.agg #[.string s.tb,.string s.nm,.slice none 0 0]
theorem Zaj(z:List T3):(isT 1 w_AS z||(decide ((0:Int)<(((skT 1 w_AS z).length:Nat):Int))&&(((skT 1 w_AS z).headD t3D).k==2)))=(isT 1 w_AS z||isK 2 z):=by
 rw[Z4w];cases h:isT 1 w_AS z with
 |true=>rfl
 |false=>rw[Z17 h]
theorem Z9M{ts:List T3}{z:ByteArray×List T3}(hz:nameP ts=some z)(h:(isT 1 w_AS z.2||isK 2 z.2)=true):sourceP ts=(nameP (skT 1 w_AS z.2)).map fun m=>(⟨z.1,m.1,[]⟩,m.2):=by
 unfold sourceP;rw[hz,Option.bind_some];cases ha:isT 1 w_AS z.2 with
 |true=>rw[if_pos rfl,ZU ha]
 |false=>
   rw[ha,Bool.false_or]at h;rw[if_neg qD,if_pos h,Z17 ha]
theorem ZcN{ts:List T3}{z:ByteArray×List T3}(hz:nameP ts=some z)(h:(isT 1 w_AS z.2||isK 2 z.2)=false):sourceP ts=some (⟨z.1,z.1,[]⟩,skT 1 w_AS z.2):=by
 unfold sourceP;rw[Bool.or_eq_false_iff]at h;rw[hz,Option.bind_some,if_neg (by rw[h.1];decide),if_neg (by rw[h.2];decide),Z17 h.1]
theorem Z2X(T:Tk)(hc:T.ts.length<=T.cap)(b:Nat)(ts:List T3)(hts:ts<:+T.ts):CallP Tryd.prog Z4M [PB T b ts] [T.G] [.is (.pointer (some ⟨b,0,none⟩))] (sourceP ts=none) flt (fun z:Pz.Src×List T3=>sourceP ts=some z) (fun z=>[PB T b z.2]) (fun z=>.is (srcV z.1)):=
CallP.of (fn:=Tryd.f42) Tryd.func42 (n:=34) rfl rfl rfl (fun _ _=>by kernel_rfl) fun E W hb0=>by
 refine vQ ?_;refine JO.alloc Z37 rfl fun b2=>(vP [0,2] ?_);refine Jm rfl ?_;refine JO.callPK (Lr:=[_]) (Zr T hc b ts hts) rfl (.swap _ _ _) (Z4y qI) qA (fun hbad=>?_) ?_
 · exact JX.pnI (by unfold sourceP;rw[hbad];rfl)
 intro z hz;refine vD ?_;have hz2:z.2<:+T.ts:=(Zw _ _ hz).1.trans hts;refine Ja rfl (vP [0,2,3] ?_);refine Jm rfl (Jm rfl (Jq (Zo (cs:=[_,_,_]) Z8Z (.cons rfl (.cons rfl .nil)) rfl rfl) (JO.alloc Z37 rfl fun b4=>(JO.m (Z2 rfl rfl qU qC qO Z2t) (by rfl) ?_))));refine vP [0,2,4] ?_;refine Jm rfl (JO.callK (Lr:=[_,_]) (Za T hc b z.2 hz2 w_AS) rfl (.swap _ _ _) (Z4y qI) qA ?_);intro _ _;refine vD ?_;have hu:skT 1 w_AS z.2<:+T.ts:=(Z33 _ _ _).trans hz2;refine Jm rfl (JO.tg rfl rfl rfl rfl rfl (fun hg=>Z1 (.inl rfl)) (JO.tg rfl rfl rfl rfl rfl (fun hg=>Z3 (qR rfl)) ?_));refine JO.tg rfl rfl rfl rfl rfl (fun hg=>Z0 Z8 (qR rfl)) ?_;refine JO.tg rfl rfl rfl rfl rfl (fun hg=>Z5 Zj (qR rfl) rfl) ?_;refine JO.tg rfl rfl rfl rfl rfl (fun hg=>ZS ZG (qR rfl)) ?_;refine JO.tg rfl rfl rfl rfl rfl (fun hg=>Z1U (qR rfl) (.inl rfl)) ?_;refine JO.tg rfl rfl rfl rfl rfl (fun hg=>Z1 (qR rfl)) ?_;refine JO.tgg rfl rfl rfl rfl rfl (fun hg=>Z1 (.inl rfl)) (JO.tgg rfl rfl rfl rfl rfl (fun hg=>Z3 (qR rfl)) ?_);refine JO.tgg rfl rfl rfl rfl rfl (fun hg=>Z0 Z8 (qR rfl)) ?_;refine JO.tgg rfl rfl rfl rfl rfl (fun hg=>Z5 Zj (qR rfl) rfl) ?_;refine JO.tgg rfl rfl rfl rfl rfl (fun hg=>Zq ZH (qR rfl) rfl (.inl rfl) qM (Z1G (Z1M hg.2))) ?_;refine JO.tgg rfl rfl rfl rfl rfl (fun hg=>Z0 Z1R (qR rfl)) ?_;refine JO.tgg rfl rfl rfl rfl rfl (fun hg=>Z1h (enc:=T3.cells) (sz:=3) (i:=T.k (skT 1 w_AS z.2)) (j:=0) (y:=(skT 1 w_AS z.2).headD t3D) (u:=.int .i64 ((skT 1 w_AS z.2).headD t3D).k) Zy (qR rfl) qI rfl (Tk.head hu (Z1M hg.2)) (by rw[Tk.j_eq hc hu (Z1M hg.2)];omega) rfl) ?_;refine JO.tgg rfl rfl rfl rfl rfl (fun hg=>ZT (qR rfl) (.inl rfl)) ?_;refine JO.tg rfl rfl rfl rfl rfl (fun hg=>Zz (qR rfl) (.inl rfl) (.inl rfl) (fun h=>⟨hg,h⟩)) ?_;refine Jq (Z1g rfl rfl rfl id) (vS [0,2,4,29] ?_);refine yC rfl (fun ht29=>?_) (fun ht29=>?_);have hv:(isT 1 w_AS z.2||isK 2 z.2)=true:=by rw[<-Zaj];exact ht29
 refine vQ ?_;refine Jm rfl ?_;refine JO.callPK (Lr:=[_,_]) (Zr T hc b (skT 1 w_AS z.2) hu) rfl (.refl _) (Z4y qI) qA (fun hbad=>?_) ?_
 · exact JX.pnI (by rw[Z9M hz hv,hbad];rfl)
 intro y hy;refine vD ?_;refine Jq (Z0 Z7U rfl) (JO.m (Zc (cs':=[_,_,_]) rfl rfl qU rfl rfl rfl rfl Z3e) (by rfl) ?_);refine vP [2,4] ?_;refine Jq (Z18 (cs:=[_,_,_]) Z22 rfl rfl rfl) (JO.m (Z2 rfl rfl qU qC qO Z2t) (by rfl) ?_);refine vS [2] ?_;refine vR ?_;refine JX.toP ?_;exact JX.retLC (Lr:=[_,_]) rfl (⟨z.1,y.1,[]⟩,y.2) (by rw[Z9M hz hv,hy];rfl) (.refl _) rfl hb0 rfl Z22 HasOwn.mem rfl rfl;apply yK;refine vN ?_;apply yN;refine Jq (Z18 (cs:=[_,_,_]) Z22 rfl rfl rfl) (JO.m (Z2 rfl rfl qU qC qO Z2t) (by rfl) ?_);refine vS [2] ?_;refine vR ?_;refine JX.toP ?_;have hv:(isT 1 w_AS z.2||isK 2 z.2)=false:=by rw[<-Zaj];exact ht29
 exact JX.retLC (Lr:=[_,_]) rfl (⟨z.1,z.1,[]⟩,skT 1 w_AS z.2) (ZcN hz hv) (.refl _) rfl hb0 rfl Z22 HasOwn.mem rfl rfl
end Go.Proofs.YtbedigkncjbggaaDoor
namespace Go.Pz
open Go Go.Vc
abbrev binL:List (Int×ByteArray×Int×Int):=[(1,w_OR,17,1),(1,Z3P,16,2),(5,s_eq,10,4),(5,s_ne,11,4),(5,s_lt,12,4),(5,s_le,13,4),(5,s_gt,14,4),(5,s_ge,15,4),(5,Za0,5,5),(5,Z3C,6,5),(5,Z25,7,6),(5,Z8o,8,6),(5,Zb0,9,6)]
def binG:List (Int×ByteArray×Int×Int)->List T3->Int×Int
 |[],_=>(0,0)
 |(k,s,q,b)::l,ts=>if isT k s ts then(q,b)else binG l ts
def binR(ts:List T3):Int×Int:=binG binL ts
inductive Cls (ts:List T3):Prop where
 |or (h:binR ts=(17,1)) (h1:isT 1 w_OR ts=true) (h2:opOf 1 [(Z3P,16)] ts=none) (h3:opOf 5 cmpO ts=none) (h4:opOf 5 addO ts=none) (h5:opOf 5 mulO ts=none) (h6:isT 1 w_IS ts=false) (h7:opOf 1 [(w_OR,17)] ts=some 17)
 |and (h:binR ts=(16,2)) (h1:opOf 1 [(w_OR,17)] ts=none) (h2:opOf 1 [(Z3P,16)] ts=some 16) (h3:opOf 5 cmpO ts=none) (h4:opOf 5 addO ts=none) (h5:opOf 5 mulO ts=none) (h6:isT 1 w_IS ts=false)
 |cmp (q:Int) (hq:0<q) (h:binR ts=(q,4)) (h1:opOf 1 [(w_OR,17)] ts=none) (h2:opOf 1 [(Z3P,16)] ts=none) (h3:opOf 5 cmpO ts=some q) (h4:opOf 5 addO ts=none) (h5:opOf 5 mulO ts=none) (h6:isT 1 w_IS ts=false)
 |add (q:Int) (hq:0<q) (h:binR ts=(q,5)) (h1:opOf 1 [(w_OR,17)] ts=none) (h2:opOf 1 [(Z3P,16)] ts=none) (h3:opOf 5 cmpO ts=none) (h4:opOf 5 addO ts=some q) (h5:opOf 5 mulO ts=none) (h6:isT 1 w_IS ts=false)
 |mul (q:Int) (hq:0<q) (h:binR ts=(q,6)) (h1:opOf 1 [(w_OR,17)] ts=none) (h2:opOf 1 [(Z3P,16)] ts=none) (h3:opOf 5 cmpO ts=none) (h4:opOf 5 addO ts=none) (h5:opOf 5 mulO ts=some q) (h6:isT 1 w_IS ts=false)
 |no (h:binR ts=(0,0)) (h1:opOf 1 [(w_OR,17)] ts=none) (h2:opOf 1 [(Z3P,16)] ts=none) (h3:opOf 5 cmpO ts=none) (h4:opOf 5 addO ts=none) (h5:opOf 5 mulO ts=none)
end Go.Pz
namespace Go.Pz
open Go Go.Vc
theorem Z5m{part:Ps Ex}{k:Int}{ops:List (ByteArray×Int)}(hp:Dn part): ∀(n m:Nat) (x:Ex) (ts:List T3),ts.length<=n->ts.length<=m->chainG part k ops n x ts=chainG part k ops m x ts
 |0,m,x,ts,h,_=>by
   have:ts=[]:=List.length_eq_zero_iff.1 qM;subst this;cases m with
   |zero=>rfl
   |succ m=>rw[chainG,chainG,show opOf k ops []=none by induction ops with|nil=>rfl|cons a l ih=>obtain⟨s,n⟩:=a;exact ih]
 |n+1,0,x,ts,_,h=>by
   have:ts=[]:=List.length_eq_zero_iff.1 qM;subst this;rw[chainG,chainG,show opOf k ops []=none by induction ops with|nil=>rfl|cons a l ih=>obtain⟨s,n⟩:=a;exact ih]
 |n+1,m+1,x,ts,h,h'=>by
   unfold chainG
   split
   · rfl
   · rename_i q hq
     have h1:=(Z3J hq).2;exact Z1p fun y hy=>Z5m hp n m _ _ (by have:=(hp _ _ hy).2;omega) (by have:=(hp _ _ hy).2;omega)
def chainC(part:Ps Ex)(k:Int)(ops:List (ByteArray×Int))(x:Ex):Ps Ex:=fun ts=>chainG part k ops ts.length x ts
theorem Zbv{part:Ps Ex}{k:Int}{ops:List (ByteArray×Int)}{x:Ex}{ts:List T3}(h:opOf k ops ts=none):chainC part k ops x ts=some (x,ts):=by
 unfold chainC;cases ts.length with
 |zero=>rfl
 |succ n=>rw[chainG,h]
theorem Z82{part:Ps Ex}{k q:Int}{ops:List (ByteArray×Int)}{x:Ex}{ts:List T3}(hp:Dn part)(h:opOf k ops ts=some q):chainC part k ops x ts=(part ts.tail).bind fun z=>chainC part k ops (nd q [x,z.1]) z.2:=by
 have h1:=(Z3J h).2;unfold chainC;rw[Z5m hp _ (ts.length+1) x ts qM qM,chainG,h];exact Z1p fun y hy=>Z5m hp _ _ _ _ (by have:=(hp _ _ hy).2;omega) qM
theorem bas{α β γ:Type}(p:Option α)(f:α->Option β)(g:β->Option γ):(p.bind f).bind g=p.bind fun x=>(f x).bind g:=Option.bind_assoc p f g
section
theorem nD:Dn (notP exprX):=Z77 Zcq.le
end
end Go.Pz
set_option maxRecDepth 20000
namespace Go.Proofs.YtbedigkncjbggaaDoor
open Go Go.Vc
open Go.Pz
abbrev fv(f:FuncId):Value:=.func (.func f) #[] #[]
theorem Z3f{k:Int}{ops:List (ByteArray×Int)}{i:Nat}(h:i<ops.length)(ts:List T3):opOf k (ops.drop i) ts=if isT k (ops.getD i (em,0)).1 ts then some (ops.getD i (em,0)).2 else opOf k (ops.drop (i+1)) ts:=by
 rw[List.drop_eq_getElem_cons h,List.getD_eq_getElem?_getD,List.getElem?_eq_getElem h]
 rfl
theorem Zej{ops:List (ByteArray×Int)}{i:Nat}(h:i<ops.length):(ops.map (·.1))[i]? =some (ops.getD i (em,0)).1:=by
 rw[List.getElem?_map,List.getD_eq_getElem?_getD,List.getElem?_eq_getElem h];rfl
theorem Zeh{ops:List (ByteArray×Int)}{i:Nat}(h:i<ops.length):(ops.map (·.2))[i]? =some (ops.getD i (em,0)).2:=by
 rw[List.getElem?_map,List.getD_eq_getElem?_getD,List.getElem?_eq_getElem h];rfl
def chI(p:Ps Ex)(kd:Int)(ops:List (ByteArray×Int))(ts:List T3)(s:Bool×Ex×List T3):Prop:=if s.1=true then chainP p kd ops ts=chainC p kd ops s.2.1 s.2.2 else chainP p kd ops ts=some (s.2.1,s.2.2)
theorem Z1x(T:Tk)(hc:T.ts.length<=T.cap)(b:Nat)(ts:List T3)(hts:ts<:+T.ts)(p:Ps Ex)(hpd:Dn p)(kd:Int)(ops:List (ByteArray×Int))(h63:ops.length<=9223372036854775806)(fp:FuncId)(hpart: ∀us,us<:+T.ts->us.length<=ts.length->CallP Tryd.prog fp [PB T b (us)] [T.G,AF] [.is (.pointer (some ⟨b,0,none⟩))] (p (us)=none) flt (fun z:Ex×List T3=>p (us)=some z) (fun z=>[PB T b z.2]) (fun z=>.rep (ExR z.1))):CallP Tryd.prog Z5e [PB T b ts] [T.G,AF] [.is (.pointer (some ⟨b,0,none⟩)),.is (fv fp),.is (.int .i64 kd),.rep (SlG sC 1 (ops.map (·.1))),.rep (SlG iC 1 (ops.map (·.2)))] (chainP p kd ops ts=none) flt (fun z:Ex×List T3=>chainP p kd ops ts=some z) (fun z=>[PB T b z.2]) (fun z=>.rep (ExR z.1)):=
CallP.of (fn:=Tryd.f58) Tryd.func58 (n:=42) rfl rfl rfl (fun _ _=>by kernel_rfl) fun E W hb0=>by
 refine J.openSl (s:=3) rfl (fun a3 l3 c3 b3 o3 hl3 ha3=>?_);refine J.openSl (s:=4) rfl (fun a4 l4 c4 b4 o4 hl4 ha4=>?_);rw[List.length_map]at hl3 hl4;subst hl3 hl4;refine vQ ?_;refine JO.alloc ZM rfl fun b10=>(vP [0,1,2,3,4,10] ?_);refine Jm rfl (Jm rfl ?_);refine JO.callPvK (cp:=[]) (Lr:=[_]) rfl (hpart ts hts (Nat.le_refl _)) rfl (.swap _ _ _) qF (.one rfl .nil) (fun hbad=>?_) ?_
 · exact JX.pnI (by unfold chainP;rw[hbad];rfl)
 intro z1 hz1;refine vD ?_;refine JO.alloc ZM rfl fun b11=>(JO.m (Z2 rfl rfl qU qC qO Zf) (by rfl) ?_);refine vP [0,1,2,3,4,10,11] ?_;refine Ja rfl (vS [0,1,2,3,4,10,11,12] ?_);apply yk
 repeat apply yQ
 refine J.loopG (α:=Bool×Ex×List T3) (fun s=>[(0,.is (.pointer (some ⟨b,0,none⟩))),(1,.is (fv fp)),(2,.is (.int .i64 kd)),(3,.is (.slice a3 ops.length c3)),(4,.is (.slice a4 ops.length c4)),(10,.is (.pointer (some ⟨b10,0,none⟩))),(11,.is (.pointer (some ⟨b11,0,none⟩))),(12,.is (.bool s.1))]) (fun s=>[⟨b11,Z4,.rep (ExR s.2.1)⟩,PB T b s.2.2,⟨b10,Z4,.is (.agg #[.int .i64 0,.int .i64 0,.int .i64 0,.string ⟨#[]⟩,.string ⟨#[]⟩,.string ⟨#[]⟩,.int .i64 0,.slice none 0 0])⟩]) (fun s=>fun _=>True) (fun s=>s.2.2<:+T.ts/\s.2.2.length<=ts.length/\chI p kd ops ts s) (fun s=>2*s.2.2.length+s.1.toNat) (true,z1.1,z1.2) [0,1,2,3,4,10,11,12] (.cons rfl (.cons rfl (.cons rfl (.cons rfl (.cons rfl (.cons rfl (.cons rfl (.cons rfl .nil)))))))) rfl (fun _=>trivial) ⟨((hpd _ _ hz1).1.trans hts),(hpd _ _ hz1).1.length_le,by unfold chI;rw[if_pos rfl];unfold chainP;rw[hz1];rfl⟩ fun⟨mo,x,us⟩ ⟨hus,hul,hI⟩=>?_;try dsimp only
 try dsimp only at hus
 try dsimp only at hul
 refine vQ ?_;refine Jm rfl (vS [0,1,2,3,4,10,11,18] ?_);refine yC rfl (fun ht18=>?_) (fun ht18=>?_);apply yK;refine vN ?_;apply yk;obtain rfl:mo=true:=ht18;rw[chI,if_pos rfl]at hI;refine vQ ?_;refine Ja rfl (vP [0,1,2,3,4,10,11,12] ?_);refine Jm rfl (Jq (ZS Z2J rfl) (Jm rfl (vS [0,1,2,3,4,10,11,12,19,20,21] ?_)));apply yk
 repeat apply yQ
 refine J.loopG (α:=Nat) (fun i=>[(0,.is (.pointer (some ⟨b,0,none⟩))),(1,.is (fv fp)),(2,.is (.int .i64 kd)),(3,.is (.slice a3 ops.length c3)),(4,.is (.slice a4 ops.length c4)),(10,.is (.pointer (some ⟨b10,0,none⟩))),(11,.is (.pointer (some ⟨b11,0,none⟩))),(12,.is (.bool false)),(19,.is (.slice a3 ops.length c3)),(20,.is (.int .i64 (ops.length:Int))),(21,.is (.int .i64 (i:Int)))]) (fun i=>[⟨b11,Z4,.rep (ExR x)⟩,PB T b us,⟨b10,Z4,.is (.agg #[.int .i64 0,.int .i64 0,.int .i64 0,.string ⟨#[]⟩,.string ⟨#[]⟩,.string ⟨#[]⟩,.int .i64 0,.slice none 0 0])⟩]) (fun i=>fun _=>True) (fun i=>i<=ops.length/\opOf kd (ops.drop i) us=opOf kd ops us) (fun i=>ops.length-i) 0 [0,1,2,3,4,10,11,12,19,20,21] (.cons rfl (.cons rfl (.cons rfl (.cons rfl (.cons rfl (.cons rfl (.cons rfl (.cons rfl (.cons rfl (.cons rfl (.cons rfl .nil))))))))))) rfl (fun _=>trivial) ⟨by omega,rfl⟩ fun i ⟨hi,hO⟩=>?_;refine vQ ?_;refine Jq (Z1o rfl rfl) (vS [0,1,2,3,4,10,11,12,19,20,21,22] ?_);refine yC rfl (fun ht22=>?_) (fun ht22=>?_)
 try simp only[yd,yf]at ht22
 apply yK;refine vN ?_;apply yk;refine vQ ?_;refine Jm rfl (Jq (Zq Z3k rfl (ha3 qM) rfl qM qM) ?_);refine Jq (Z1h (enc:=sC) (sz:=1) (i:=i) (j:=0) (y:=(ops.getD i (em,0)).1) (u:=.string (ops.getD i (em,0)).1) ZC rfl qI (ha3 qM) (Zej qM) qM rfl) ?_;refine Ja rfl (Ja rfl (vP [0,1,2,3,4,10,11,12,13,14,19,20,21] ?_));refine Jm rfl (Jm rfl (Jm rfl (JO.callK (Lr:=[_,_]) (Z2c T hc b us hus kd (ops.getD i (em,0)).1) rfl (.swap _ _ _) qF qA ?_)));intro _ _;refine vD ?_;refine vS [0,1,2,3,4,10,11,12,13,19,20,21,29] ?_;refine yC rfl (fun ht29=>?_) (fun ht29=>?_);have hit:isT kd (ops.getD i (em,0)).1 us=true:=ht29;have hop:opOf kd ops us=some (ops.getD i (em,0)).2:=by rw[<-hO,Z3f qM,if_pos hit]
 rw[ZU hit]
 repeat apply yQ
 refine J.regBgPm (Bad:=p us.tail=none) (ch:=flt) (G:={z:Ex×List T3 // p us.tail=some z}) 7 9 (fun hbad=>?_) (fun g=>.rep (ExR g.1.1)) (fun g=>[PB T b g.1.2]++[⟨b11,Z4,.rep (ExR x)⟩,⟨b10,Z4,.is (.agg #[.int .i64 0,.int .i64 0,.int .i64 0,.string ⟨#[]⟩,.string ⟨#[]⟩,.string ⟨#[]⟩,.int .i64 0,.slice none 0 0])⟩]) ([⟨b11,Z4,.rep (ExR x)⟩,⟨b10,Z4,.is (.agg #[.int .i64 0,.int .i64 0,.int .i64 0,.string ⟨#[]⟩,.string ⟨#[]⟩,.string ⟨#[]⟩,.int .i64 0,.slice none 0 0])⟩]) rfl rfl rfl rfl hmx qK rfl qK (fun _ h=>List.mem_cons_of_mem _ h) (fun g o ho=>List.mem_cons_of_mem _ ho) qK ?_
 · exact JX.pnI (by show chainP p kd ops ts=none;rw[hI,Z82 hpd hop,hbad];rfl)
 refine yz (Z1 rfl) (yz (Z1 rfl) (yz (Zq ZbS rfl (ha4 qM) rfl qM qM) ?_));refine yz (Z1h (enc:=iC) (sz:=1) (i:=i) (j:=0) (y:=(ops.getD i (em,0)).2) (u:=.int .i64 (ops.getD i (em,0)).2) Zy rfl qI (ha4 qM) (Zeh qM) qM rfl) ?_;refine yz (Z21 Z7 rfl) (yz (Z1 rfl) (yz (Z1 rfl) ?_));refine RT.biggP (Lq:=[⟨b11,Z4,.rep (ExR x)⟩,⟨b10,Z4,.is (.agg #[.int .i64 0,.int .i64 0,.int .i64 0,.string ⟨#[]⟩,.string ⟨#[]⟩,.string ⟨#[]⟩,.int .i64 0,.slice none 0 0])⟩]) (Z7W (cp:=[]) rfl (hpart us.tail (Zl hus) (by have:=(Zt hit).2;omega)) (.refl _) qF (.one rfl .nil)) (fun g=>?_);refine yz (Z7o ZK rfl rfl) ?_;apply yn;obtain⟨z,hg2⟩:=g;try dsimp only
 have hlt:=(Zt hit).2;refine Jq (ZV rfl (Z1B (ops.getD i (em,0)).2 [x,z.1]) qA) ?_;refine JO.m (Z2 rfl rfl qU qC qO Zf) (by rfl) ?_;refine Ja rfl (vS [0,1,2,3,4,10,11,12] ?_);refine J.exit ?_
 repeat first|refine yH ?_|refine yM rfl ?_|refine yE ?_
 repeat first|apply yX|apply yB
 repeat refine JX.normal_block ?_
 refine JX.roundG (x:=(true,x,us)) (true,nd (ops.getD i (em,0)).2 [x,z.1],z.2) ?_ ?_ [0,1,2,3,4,10,11,12] ?_ ?_ ?_ ?_
 · exact⟨((hpd _ _ hg2).1.trans (Zl hus)),(by have:=(hpd _ _ hg2).2;show z.2.length<=ts.length;omega),by unfold chI;rw[if_pos rfl];rw[hI,Z82 hpd hop,hg2];rfl⟩
 · exact(by have:=(hpd _ _ hg2).2;show 2*z.2.length+1<2*us.length+true.toNat;simp;omega)
 · exact qS
 · exact qH
 · exact qG
 · exact fun _ _ _=>fun _ _=>trivial
 apply yK
 repeat first|apply yX|apply yB
 rw[Z17 ht29];refine vQ ?_;refine Jq (ZB (cc:=((i+1:Nat):Int)) rfl rfl qM qM qM) ?_;refine Jm rfl ?_;apply yI
 repeat refine JX.normal_block ?_
 refine JX.roundG (x:=i) (i+1) ?_ ?_ [0,1,2,3,4,10,11,12,19,20,21] ?_ ?_ ?_ ?_
 · exact⟨by omega,by rw[<-hO,Z3f (i:=i) qM,if_neg (by rw[ht29];decide)]⟩
 · exact qM
 · exact qS
 · exact qH
 · exact qG
 · exact fun _ _ _=>fun _ _=>trivial
 try simp only[yd,yf]at ht22
 repeat apply yQ
 refine J.exit ?_
 repeat first|refine yH ?_|refine yM rfl ?_|refine yE ?_
 repeat first|apply yX|apply yB
 repeat refine JX.normal_block ?_
 refine JX.roundG (x:=(true,x,us)) (false,x,us) ?_ ?_ [0,1,2,3,4,10,11,12] ?_ ?_ ?_ ?_
 · exact⟨hus,hul,by unfold chI;rw[if_neg (by exact Bool.false_ne_true)];rw[hI];exact Zbv (by rw[<-hO,List.drop_eq_nil_of_le qM];rfl)⟩
 · exact(by show 2*us.length+0<2*us.length+true.toNat;simp)
 · exact qS
 · exact qH
 · exact qG
 · exact fun _ _ _=>fun _ _=>trivial
 repeat apply yQ
 refine J.exit ?_
 repeat first|refine yH ?_|refine yM rfl ?_|refine yE ?_
 repeat first|apply yX|apply yB
 obtain rfl:mo=false:=ht18;rw[chI,if_neg (by exact Bool.false_ne_true)]at hI;refine vQ ?_;refine Jq (Z21 Z7 rfl) (JO.m (Z2 rfl rfl qU qC qO Zf) (by rfl) ?_);refine vS [10] ?_;refine vR ?_;refine JX.toP ?_;exact JX.retLCs (Lr:=[_,_]) rfl (x,us) hI (.swap _ _ _) rfl rfl hb0 rfl Z7 HasOwn.mem Z16 (Sub.refl _)
theorem Z4m(T:Tk)(hc:T.ts.length<=T.cap)(b:Nat)(ts:List T3)(hts:ts<:+T.ts)(e:Ps Ex)(he:Dn0 e)(hpart: ∀us,us<:+T.ts->us.length<=ts.length->CallP Tryd.prog Z14 [PB T b (us)] [T.G,AF] [.is (.pointer (some ⟨b,0,none⟩))] (factorP e (us)=none) flt (fun z:Ex×List T3=>factorP e (us)=some z) (fun z=>[PB T b z.2]) (fun z=>.rep (ExR z.1))):CallP Tryd.prog Z1t [PB T b ts] [T.G,AF] [.is (.pointer (some ⟨b,0,none⟩))] (prodP e ts=none) flt (fun z:Ex×List T3=>prodP e ts=some z) (fun z=>[PB T b z.2]) (fun z=>.rep (ExR z.1)):=
CallP.of (fn:=Tryd.f93) Tryd.func93 (n:=7) rfl rfl rfl (fun _ _=>by kernel_rfl) fun E W hb0=>by
 refine vQ ?_;refine JO.alloc ZM rfl fun b2=>(vP [0,2] ?_);refine Jm rfl (Jq (ZD (cs:=[_,_,_]) Z1A qM qM (.cons rfl (.cons rfl (.cons rfl .nil))) rfl rfl rfl) ?_);refine Jq (ZD (cs:=[_,_,_]) Z59 qM qM (.cons rfl (.cons rfl (.cons rfl .nil))) rfl rfl rfl) ?_;refine JO.callPK (Lr:=[_]) (Z1x T hc b ts hts (factorP e) (Z6f he) 5 mulO qD Z14 hpart) rfl (.swap _ _ _) qF (.one rfl (.one rfl (.one rfl (.sub rfl (Sub.newSlG (en:=sC) (sz:=1) (xs:=[Z25,Z8o,Zb0]) (fun _=>rfl) rfl rfl) (.sub rfl (Sub.newSlG (en:=iC) (sz:=1) (xs:=[7,8,9]) (fun _=>rfl) rfl rfl) .nil))))) (fun hbad=>?_) ?_
 · exact JX.pnI (hbad)
 intro z hz;refine vD ?_;refine JO.m (Z2 rfl rfl qU qC qO Zf) (by rfl) ?_;refine vS [2] ?_;refine vR ?_;refine JX.toP ?_;exact JX.retLCs (Lr:=[_]) rfl z hz (.refl _) rfl rfl hb0 rfl Z7 HasOwn.mem Z16 (Sub.refl _)
theorem Z69(T:Tk)(hc:T.ts.length<=T.cap)(b:Nat)(ts:List T3)(hts:ts<:+T.ts)(e:Ps Ex)(he:Dn0 e)(hpart: ∀us,us<:+T.ts->us.length<=ts.length->CallP Tryd.prog Z1t [PB T b (us)] [T.G,AF] [.is (.pointer (some ⟨b,0,none⟩))] (prodP e (us)=none) flt (fun z:Ex×List T3=>prodP e (us)=some z) (fun z=>[PB T b z.2]) (fun z=>.rep (ExR z.1))):CallP Tryd.prog Z1N [PB T b ts] [T.G,AF] [.is (.pointer (some ⟨b,0,none⟩))] (sumP e ts=none) flt (fun z:Ex×List T3=>sumP e ts=some z) (fun z=>[PB T b z.2]) (fun z=>.rep (ExR z.1)):=
CallP.of (fn:=Tryd.f82) Tryd.func82 (n:=7) rfl rfl rfl (fun _ _=>by kernel_rfl) fun E W hb0=>by
 refine vQ ?_;refine JO.alloc ZM rfl fun b2=>(vP [0,2] ?_);refine Jm rfl (Jq (ZD (cs:=[_,_]) Z1A qM qM (.cons rfl (.cons rfl .nil)) rfl rfl rfl) ?_);refine Jq (ZD (cs:=[_,_]) Z59 qM qM (.cons rfl (.cons rfl .nil)) rfl rfl rfl) ?_;refine JO.callPK (Lr:=[_]) (Z1x T hc b ts hts (prodP e) (Z9X he) 5 addO qD Z1t hpart) rfl (.swap _ _ _) qF (.one rfl (.one rfl (.one rfl (.sub rfl (Sub.newSlG (en:=sC) (sz:=1) (xs:=[Za0,Z3C]) (fun _=>rfl) rfl rfl) (.sub rfl (Sub.newSlG (en:=iC) (sz:=1) (xs:=[5,6]) (fun _=>rfl) rfl rfl) .nil))))) (fun hbad=>?_) ?_
 · exact JX.pnI (hbad)
 intro z hz;refine vD ?_;refine JO.m (Z2 rfl rfl qU qC qO Zf) (by rfl) ?_;refine vS [2] ?_;refine vR ?_;refine JX.toP ?_;exact JX.retLCs (Lr:=[_]) rfl z hz (.refl _) rfl rfl hb0 rfl Z7 HasOwn.mem Z16 (Sub.refl _)
theorem Z60(T:Tk)(hc:T.ts.length<=T.cap)(b:Nat)(ts:List T3)(hts:ts<:+T.ts)(e:Ps Ex)(he:Dn0 e)(hpart: ∀us,us<:+T.ts->us.length<=ts.length->CallP Tryd.prog Z1d [PB T b (us)] [T.G,AF] [.is (.pointer (some ⟨b,0,none⟩))] (notP e (us)=none) flt (fun z:Ex×List T3=>notP e (us)=some z) (fun z=>[PB T b z.2]) (fun z=>.rep (ExR z.1))):CallP Tryd.prog Z1L [PB T b ts] [T.G,AF] [.is (.pointer (some ⟨b,0,none⟩))] (andP e ts=none) flt (fun z:Ex×List T3=>andP e ts=some z) (fun z=>[PB T b z.2]) (fun z=>.rep (ExR z.1)):=
CallP.of (fn:=Tryd.f59) Tryd.func59 (n:=7) rfl rfl rfl (fun _ _=>by kernel_rfl) fun E W hb0=>by
 refine vQ ?_;refine JO.alloc ZM rfl fun b2=>(vP [0,2] ?_);refine Jm rfl (Jq (ZD (cs:=[_]) Z1A qM qM (.cons rfl .nil) rfl rfl rfl) ?_);refine Jq (ZD (cs:=[_]) Z59 qM qM (.cons rfl .nil) rfl rfl rfl) ?_;refine JO.callPK (Lr:=[_]) (Z1x T hc b ts hts (notP e) (Z77 he) 1 [(Z3P,16)] qD Z1d hpart) rfl (.swap _ _ _) qF (.one rfl (.one rfl (.one rfl (.sub rfl (Sub.newSlG (en:=sC) (sz:=1) (xs:=[Z3P]) (fun _=>rfl) rfl rfl) (.sub rfl (Sub.newSlG (en:=iC) (sz:=1) (xs:=[16]) (fun _=>rfl) rfl rfl) .nil))))) (fun hbad=>?_) ?_
 · exact JX.pnI (hbad)
 intro z hz;refine vD ?_;refine JO.m (Z2 rfl rfl qU qC qO Zf) (by rfl) ?_;refine vS [2] ?_;refine vR ?_;refine JX.toP ?_;exact JX.retLCs (Lr:=[_]) rfl z hz (.refl _) rfl rfl hb0 rfl Z7 HasOwn.mem Z16 (Sub.refl _)
theorem Z5M(T:Tk)(hc:T.ts.length<=T.cap)(b:Nat)(ts:List T3)(hts:ts<:+T.ts)(e:Ps Ex)(he:Dn0 e)(hpart: ∀us,us<:+T.ts->us.length<=ts.length->CallP Tryd.prog Z1L [PB T b (us)] [T.G,AF] [.is (.pointer (some ⟨b,0,none⟩))] (andP e (us)=none) flt (fun z:Ex×List T3=>andP e (us)=some z) (fun z=>[PB T b z.2]) (fun z=>.rep (ExR z.1))):CallP Tryd.prog Zn [PB T b ts] [T.G,AF] [.is (.pointer (some ⟨b,0,none⟩))] (orP e ts=none) flt (fun z:Ex×List T3=>orP e ts=some z) (fun z=>[PB T b z.2]) (fun z=>.rep (ExR z.1)):=
CallP.of (fn:=Tryd.f39) Tryd.func39 (n:=7) rfl rfl rfl (fun _ _=>by kernel_rfl) fun E W hb0=>by
 refine vQ ?_;refine JO.alloc ZM rfl fun b2=>(vP [0,2] ?_);refine Jm rfl (Jq (ZD (cs:=[_]) Z1A qM qM (.cons rfl .nil) rfl rfl rfl) ?_);refine Jq (ZD (cs:=[_]) Z59 qM qM (.cons rfl .nil) rfl rfl rfl) ?_;refine JO.callPK (Lr:=[_]) (Z1x T hc b ts hts (andP e) (Zap he) 1 [(w_OR,17)] qD Z1L hpart) rfl (.swap _ _ _) qF (.one rfl (.one rfl (.one rfl (.sub rfl (Sub.newSlG (en:=sC) (sz:=1) (xs:=[w_OR]) (fun _=>rfl) rfl rfl) (.sub rfl (Sub.newSlG (en:=iC) (sz:=1) (xs:=[17]) (fun _=>rfl) rfl rfl) .nil))))) (fun hbad=>?_) ?_
 · exact JX.pnI (hbad)
 intro z hz;refine vD ?_;refine JO.m (Z2 rfl rfl qU qC qO Zf) (by rfl) ?_;refine vS [2] ?_;refine vR ?_;refine JX.toP ?_;exact JX.retLCs (Lr:=[_]) rfl z hz (.refl _) rfl rfl hb0 rfl Z7 HasOwn.mem Z16 (Sub.refl _)
theorem Zc5{e:Ps Ex}{ts:List T3}(h:isT 1 Z2l ts=true):notP e ts=(notP e ts.tail).map fun z=>(nd 4 [z.1],z.2):=by
 obtain⟨t,r,rfl,_⟩:=Z6c h;rw[notP,if_pos h];rfl
theorem Z3Z{e:Ps Ex}{ts:List T3}(h:isT 1 Z2l ts=false):notP e ts=(sumP e ts).bind fun z=>cmpP e z.1 z.2:=by
 cases ts with
 |nil=>rw[notP]
 |cons t r=>rw[notP,if_neg (by rw[h];decide)]
abbrev cmpV:List Value:=[.string s_eq,.string s_ne,.string s_lt,.string s_le,.string s_gt,.string s_ge]
theorem ZdI{i:Nat}(h:i<6):cmpV[0+((i:Nat):Int).toNat*1]? =some (.string (cmpO.getD i (em,0)).1):=by
 match i,h with
 |0,_=>rfl
 |1,_=>rfl
 |2,_=>rfl
 |3,_=>rfl
 |4,_=>rfl
 |5,_=>rfl
theorem Ze3{i:Nat}(h:i<6):IntKind.i64.wrap (10+((i:Nat):Int))=(cmpO.getD i (em,0)).2:=by
 match i,h with
 |0,_=>rfl
 |1,_=>rfl
 |2,_=>rfl
 |3,_=>rfl
 |4,_=>rfl
 |5,_=>rfl
theorem asc{s:ByteArray}(h:s.data.toList.all (fun b=>decide (b.toNat<128))=true)(j:Nat)(b:UInt8)(hb:s.data.toList[j]? =some b):b.toNat<128:=of_decide_eq_true (List.all_eq_true.1 h b (List.mem_of_getElem? hb))
theorem Z4d(T:Tk)(hc:T.ts.length<=T.cap)(b:Nat)(ts:List T3)(hts:ts<:+T.ts)(e:Ps Ex)(he:Dn0 e)(hsum: ∀us,us<:+T.ts->us.length<=ts.length->CallP Tryd.prog Z1N [PB T b (us)] [T.G,AF] [.is (.pointer (some ⟨b,0,none⟩))] (sumP e (us)=none) flt (fun z:Ex×List T3=>sumP e (us)=some z) (fun z=>[PB T b z.2]) (fun z=>.rep (ExR z.1)))(ih: ∀us,us<:+T.ts->us.length<ts.length->CallP Tryd.prog Z1d [PB T b (us)] [T.G,AF] [.is (.pointer (some ⟨b,0,none⟩))] (notP e (us)=none) flt (fun z:Ex×List T3=>notP e (us)=some z) (fun z=>[PB T b z.2]) (fun z=>.rep (ExR z.1))):CallP Tryd.prog Z1d [PB T b ts] [T.G,AF] [.is (.pointer (some ⟨b,0,none⟩))] (notP e ts=none) flt (fun z:Ex×List T3=>notP e ts=some z) (fun z=>[PB T b z.2]) (fun z=>.rep (ExR z.1)):=
CallP.of (fn:=Tryd.f72) Tryd.func72 (n:=48) rfl rfl rfl (fun _ _=>by kernel_rfl) fun E W hb0=>by
 refine vQ ?_;refine JO.alloc ZM rfl fun b2=>(vP [0,2] ?_);refine Jm rfl (JO.callK (Lr:=[_]) (Za T hc b ts hts Z2l) rfl (.swap _ _ _) qF qA ?_);intro _ _;refine vD ?_;refine vS [0,2,7] ?_;refine yC rfl (fun ht7=>?_) (fun ht7=>?_);have hnn:isT 1 Z2l ts=true:=ht7;rw[ZU hnn];refine vQ ?_;refine Jm rfl ?_;refine JO.callPK (Lr:=[_]) (ih ts.tail (Zl hts) (Zt hnn).2) rfl (.refl _) qF qA (fun hbad=>?_) ?_
 · exact JX.pnI (by rw[Zc5 hnn,hbad];rfl)
 intro z hz;refine vD ?_;refine Jq (Z2y ZK rfl) (Jq (ZV rfl (Z1B 4 [z.1]) qA) ?_);refine JO.m (Z2 rfl rfl qU qC qO Zf) (by rfl) ?_;refine vS [2] ?_;refine vR ?_;refine JX.toP ?_;exact JX.retLCs (Lr:=[_]) rfl (nd 4 [z.1],z.2) (by rw[Zc5 hnn,hz];rfl) (.refl _) rfl rfl hb0 rfl Z7 HasOwn.mem Z16 (Sub.refl _);apply yK
 repeat first|apply yX|apply yB
 have hnn:isT 1 Z2l ts=false:=ht7;rw[Z17 hnn];refine vQ ?_;refine Jm rfl ?_;refine JO.callPK (Lr:=[_]) (hsum ts hts (Nat.le_refl _)) rfl (.refl _) qF qA (fun hbad=>?_) ?_
 · exact JX.pnI (by rw[Z3Z hnn,hbad];rfl)
 intro z1 hz1;refine vD ?_;refine JO.alloc ZM rfl fun b3=>(JO.m (Z2 rfl rfl qU qC qO Zf) (by rfl) ?_);refine vP [0,2,3] ?_;refine Jq (ZD (cs:=[_,_,_,_,_,_]) Z1A qM qM (.cons rfl (.cons rfl (.cons rfl (.cons rfl (.cons rfl (.cons rfl .nil)))))) rfl rfl rfl) ?_;refine JO.openNew (s:=14) rfl (fun r14=>?_);refine Jq (ZS Z2J rfl) (Jm rfl (vS [0,2,3,14,15,16] ?_));apply yk
 repeat apply yQ
 refine J.loopG (α:=Nat) (fun i=>[(0,.is (.pointer (some ⟨b,0,none⟩))),(2,.is (.pointer (some ⟨b2,0,none⟩))),(3,.is (.pointer (some ⟨b3,0,none⟩))),(14,.is (.slice (some ⟨r14,0,none⟩) 6 6)),(15,.is (.int .i64 6)),(16,.is (.int .i64 (i:Int)))]) (fun i=>[⟨b3,Z4,.rep (ExR z1.1)⟩,PB T b z1.2,⟨b2,Z4,.is (.agg #[.int .i64 0,.int .i64 0,.int .i64 0,.string ⟨#[]⟩,.string ⟨#[]⟩,.string ⟨#[]⟩,.int .i64 0,.slice none 0 0])⟩]) (fun i=>fun _=>True) (fun i=>i<=6/\opOf 5 (cmpO.drop i) z1.2=opOf 5 cmpO z1.2) (fun i=>6-i) 0 [0,2,3,14,15,16] (.cons rfl (.cons rfl (.cons rfl (.cons rfl (.cons rfl (.cons rfl .nil)))))) rfl (fun _=>trivial) ⟨by omega,rfl⟩ fun i ⟨hi,hO⟩=>?_;refine vQ ?_;refine Jq (Z1o rfl rfl) (vS [0,2,3,14,15,16,17] ?_);refine yC rfl (fun ht17=>?_) (fun ht17=>?_)
 try simp only[yd,yf]at ht17
 apply yK;refine vN ?_;apply yk;refine vQ ?_;refine Jm rfl (Jq (Zq Z3k rfl rfl rfl qM qM) ?_);refine Jq (Z5O (cs:=cmpV) (u:=.string (cmpO.getD i (em,0)).1) ZC rfl qI (ZdI qM)) ?_;refine Ja rfl (Ja rfl (vP [0,2,3,4,5,14,15,16] ?_));refine Jm rfl (Jm rfl (JO.callK (Lr:=[_,_]) (Zh T hc b z1.2 ((Z2x he _ _ hz1).1.trans hts) (cmpO.getD i (em,0)).1) rfl (.swap _ _ _) qF qA ?_));intro _ _;refine vD ?_;refine vS [0,2,3,4,14,15,16,23] ?_;refine yC rfl (fun ht23=>?_) (fun ht23=>?_);have hit:isT 5 (cmpO.getD i (em,0)).1 z1.2=true:=ht23;have hop:opOf 5 cmpO z1.2=some (cmpO.getD i (em,0)).2:=by rw[<-hO,Z3f (ops:=cmpO) (by show i<6;omega),if_pos hit]
 rw[ZU hit]
 repeat apply yQ
 refine J.regBgPm (Bad:=sumP e z1.2.tail=none) (ch:=flt) (G:={z:Ex×List T3 // sumP e z1.2.tail=some z}) 4 6 (fun hbad=>?_) (fun g=>.rep (ExR g.1.1)) (fun g=>[PB T b g.1.2]++[⟨b3,Z4,.rep (ExR z1.1)⟩,⟨b2,Z4,.is (.agg #[.int .i64 0,.int .i64 0,.int .i64 0,.string ⟨#[]⟩,.string ⟨#[]⟩,.string ⟨#[]⟩,.int .i64 0,.slice none 0 0])⟩]) ([⟨b3,Z4,.rep (ExR z1.1)⟩,⟨b2,Z4,.is (.agg #[.int .i64 0,.int .i64 0,.int .i64 0,.string ⟨#[]⟩,.string ⟨#[]⟩,.string ⟨#[]⟩,.int .i64 0,.slice none 0 0])⟩]) rfl rfl rfl rfl hmx qK rfl qK (fun _ h=>List.mem_cons_of_mem _ h) (fun g o ho=>List.mem_cons_of_mem _ ho) qK ?_
 · exact JX.pnI (by rw[Z3Z hnn,hz1];show cmpP e z1.1 z1.2=none;unfold cmpP;rw[hop];dsimp only;rw[hbad];rfl)
 refine yz (Z1 rfl) (yz (ZcW (cc:=(cmpO.getD i (em,0)).2) rfl rfl (Ze3 qM)) ?_);refine yz (Z21 Z7 rfl) (yz (Z1 rfl) ?_);refine RT.biggP (Lq:=[⟨b3,Z4,.rep (ExR z1.1)⟩,⟨b2,Z4,.is (.agg #[.int .i64 0,.int .i64 0,.int .i64 0,.string ⟨#[]⟩,.string ⟨#[]⟩,.string ⟨#[]⟩,.int .i64 0,.slice none 0 0])⟩]) (Z3W rfl (hsum z1.2.tail (Zl ((Z2x he _ _ hz1).1.trans hts)) (by have:=(Zt hit).2;have:=(Z2x he _ _ hz1).2;omega)) (.refl _) qF qA) (fun g=>?_);refine yz (Z7o ZK rfl rfl) ?_;apply yn;obtain⟨z,hg2⟩:=g;try dsimp only
 refine Jq (ZV rfl (Z1B (cmpO.getD i (em,0)).2 [z1.1,z.1]) qA) ?_;refine JO.m (Z2 rfl rfl qU qC qO Zf) (by rfl) ?_;refine vS [2] ?_;refine vR ?_;refine JX.toP ?_;exact JX.retLCs (Lr:=[_,_]) rfl (nd (cmpO.getD i (em,0)).2 [z1.1,z.1],z.2) (by rw[Z3Z hnn,hz1];show cmpP e z1.1 z1.2=_;unfold cmpP;rw[hop];dsimp only;rw[hg2];rfl) (.refl _) rfl rfl hb0 rfl Z7 HasOwn.mem Z16 (Sub.refl _);apply yK
 repeat first|apply yX|apply yB
 rw[Z17 ht23];refine vQ ?_;refine Jq (ZB (cc:=((i+1:Nat):Int)) rfl rfl qM qM qM) ?_;refine Jm rfl ?_;apply yI
 repeat refine JX.normal_block ?_
 refine JX.roundG (x:=i) (i+1) ?_ ?_ [0,2,3,14,15,16] ?_ ?_ ?_ ?_
 · exact⟨by omega,by rw[<-hO,Z3f (ops:=cmpO) (i:=i) (by show i<6;omega),if_neg (by rw[ht23];decide)]⟩
 · exact qM
 · exact qS
 · exact qH
 · exact qG
 · exact fun _ _ _=>fun _ _=>trivial
 try simp only[yd,yf]at ht17
 repeat apply yQ
 refine J.exit ?_
 repeat first|refine yH ?_|refine yM rfl ?_|refine yE ?_
 repeat first|apply yX|apply yB
 have hno:opOf 5 cmpO z1.2=none:=by rw[<-hO,List.drop_eq_nil_of_le (by show 6<=i;omega)];rfl
 refine vQ ?_;refine Jm rfl (JO.callK (Lr:=[_,_]) (Za T hc b z1.2 ((Z2x he _ _ hz1).1.trans hts) w_IS) rfl (.swap _ _ _) qF qA ?_);intro _ _;refine vD ?_;refine Jq (Z5r rfl) (vS [0,2,3,34] ?_);refine yC rfl (fun ht34=>?_) (fun ht34=>?_);have his:isT 1 w_IS z1.2=false:=by simpa using ht34
 rw[Z17 his];refine vQ ?_;refine Jq (Z21 Z7 rfl) (JO.m (Z2 rfl rfl qU qC qO Zf) (by rfl) ?_);refine vS [2] ?_;refine vR ?_;refine JX.toP ?_;exact JX.retLCs (Lr:=[_,_]) rfl (z1.1,z1.2) (by rw[Z3Z hnn,hz1];show cmpP e z1.1 z1.2=_;unfold cmpP;rw[hno];dsimp only;rw[if_neg (by rw[his];decide)]) (.refl _) rfl rfl hb0 rfl Z7 HasOwn.mem Z16 (Sub.refl _);apply yK
 repeat first|apply yX|apply yB
 have his:isT 1 w_IS z1.2=true:=by simpa using ht34
 rw[ZU his];refine vQ ?_;refine Jm rfl (JO.callK (Lr:=[_,_]) (Za T hc b z1.2.tail (Zl ((Z2x he _ _ hz1).1.trans hts)) Z2l) rfl (.refl _) qF qA ?_);intro _ _;refine vD ?_;refine vS [0,2,3,37] ?_;refine yC rfl (fun ht37=>?_) (fun ht37=>?_);have hi2:isT 1 Z2l z1.2.tail=true:=ht37;rw[ZU hi2];refine vQ ?_;refine Jm rfl ?_;refine JO.callPK (Lr:=[_,_]) (Zg T hc b (z1.2.tail.tail) (Zl (Zl ((Z2x he _ _ hz1).1.trans hts))) Z4B (by decide+kernel) (by decide+kernel) (asc (by decide+kernel))) rfl (.refl _) qF qA (fun hbad=>?_) ?_
 · exact JX.pnI (by rw[Z3Z hnn,hz1];show cmpP e z1.1 z1.2=none;unfold cmpP;rw[hno];dsimp only;rw[if_pos his,if_pos hi2,hbad];rfl)
 intro z2 hz2;refine vD ?_;refine vP [2,3] ?_;refine Jq (Z21 Z7 rfl) (Jq (Z2y ZK rfl) (Jq (ZV rfl (Z1B 19 [z1.1]) qA) ?_));refine JO.m (Z2 rfl rfl qU qC qO Zf) (by rfl) ?_;refine vS [2] ?_;refine vR ?_;refine JX.toP ?_;exact JX.retLCs (Lr:=[_,_]) rfl (nd 19 [z1.1],z2.2) (by rw[Z3Z hnn,hz1];show cmpP e z1.1 z1.2=_;unfold cmpP;rw[hno];dsimp only;rw[if_pos his,if_pos hi2,hz2];rfl) (.refl _) rfl rfl hb0 rfl Z7 HasOwn.mem Z16 (Sub.refl _);apply yK
 repeat first|apply yX|apply yB
 have hi2:isT 1 Z2l z1.2.tail=false:=ht37;rw[Z17 hi2];refine vQ ?_;refine Jm rfl ?_;refine JO.callPK (Lr:=[_,_]) (Zg T hc b (z1.2.tail) (Zl ((Z2x he _ _ hz1).1.trans hts)) Z4B (by decide+kernel) (by decide+kernel) (asc (by decide+kernel))) rfl (.refl _) qF qA (fun hbad=>?_) ?_
 · exact JX.pnI (by rw[Z3Z hnn,hz1];show cmpP e z1.1 z1.2=none;unfold cmpP;rw[hno];dsimp only;rw[if_pos his,if_neg (by rw[hi2];decide),hbad];rfl)
 intro z2 hz2;refine vD ?_;refine vP [2,3] ?_;refine Jq (Z21 Z7 rfl) (Jq (Z2y ZK rfl) (Jq (ZV rfl (Z1B 18 [z1.1]) qA) ?_));refine JO.m (Z2 rfl rfl qU qC qO Zf) (by rfl) ?_;refine vS [2] ?_;refine vR ?_;refine JX.toP ?_;exact JX.retLCs (Lr:=[_,_]) rfl (nd 18 [z1.1],z2.2) (by rw[Z3Z hnn,hz1];show cmpP e z1.1 z1.2=_;unfold cmpP;rw[hno];dsimp only;rw[if_pos his,if_neg (by rw[hi2];decide),hz2];rfl) (.refl _) rfl rfl hb0 rfl Z7 HasOwn.mem Z16 (Sub.refl _)
theorem Z3r(T:Tk)(hc:T.ts.length<=T.cap)(b:Nat)(e:Ps Ex)(he:Dn0 e)(N:Nat)(hsum: ∀ts,ts<:+T.ts->ts.length<=N->CallP Tryd.prog Z1N [PB T b (ts)] [T.G,AF] [.is (.pointer (some ⟨b,0,none⟩))] (sumP e (ts)=none) flt (fun z:Ex×List T3=>sumP e (ts)=some z) (fun z=>[PB T b z.2]) (fun z=>.rep (ExR z.1))): ∀n ts,ts<:+T.ts->ts.length<=N->ts.length<=n->CallP Tryd.prog Z1d [PB T b (ts)] [T.G,AF] [.is (.pointer (some ⟨b,0,none⟩))] (notP e (ts)=none) flt (fun z:Ex×List T3=>notP e (ts)=some z) (fun z=>[PB T b z.2]) (fun z=>.rep (ExR z.1))
 |n,ts,hts,hN,hn=>Z4d T hc b ts hts e he (fun us hus hl=>hsum us hus qM) fun us hus hl=>by
  cases n with
  |zero=>omega
  |succ n=>exact Z3r T hc b e he N hsum n us hus qM qM
end Go.Proofs.YtbedigkncjbggaaDoor
