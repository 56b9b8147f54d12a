/- The parser: a source. No condition. -/
import Derived.Test.YtbedigkncjbggaaGreatDoorXQ6
import Derived.Test.YtbedigkncjbggaaGreatDoorXG7
import Derived.Test.YtbedigkncjbggaaGreatDoorXQ1
set_option maxRecDepth 20000
namespace Go.Proofs.YtbedigkncjbggaaGreatDoor
open Go Go.Vc
open Go.Pz
abbrev srcV(s:Pz.Src):Value:=.agg #[.string s.tb,.string s.nm,.slice none 0 0]
theorem Zgq(z:List T3):(isT 1 w_AS z||(decide ((0:Int)<(((skT 1 w_AS z).length:Nat):Int))&&(((skT 1 w_AS z).headD t3D).k==2)))=(isT 1 w_AS z||isK 2 z):=by
 rw[Z79];cases h:isT 1 w_AS z with
 |true=>rfl
 |false=>rw[Z37 h]
theorem ZdZ{ts:List T3}{z:ByteArray×List T3}(hz:nameP ts=some z)(h:(isT 1 w_AS z.2||isK 2 z.2)=true):sourceP ts=(nameP (skT 1 w_AS z.2)).map fun m=>(⟨z.1,m.1,[]⟩,m.2):=by
 unfold sourceP;rw[hz,Option.bind_some];cases ha:isT 1 w_AS z.2 with
 |true=>rw[if_pos rfl,Z2C ha]
 |false=>
   rw[ha,Bool.false_or]at h;rw[if_neg qD,if_pos h,Z37 ha]
theorem ZiF{ts:List T3}{z:ByteArray×List T3}(hz:nameP ts=some z)(h:(isT 1 w_AS z.2||isK 2 z.2)=false):sourceP ts=some (⟨z.1,z.1,[]⟩,skT 1 w_AS z.2):=by
 unfold sourceP;rw[Bool.or_eq_false_iff]at h;rw[hz,Option.bind_some,if_neg (by rw[h.1];decide),if_neg (by rw[h.2];decide),Z37 h.1]
theorem Z5a(T:Tk)(hc:T.ts.length<=T.cap)(b:Nat)(ts:List T3)(hts:ts<:+T.ts):CallP Tryz.prog Z7V [PB T b ts] [T.G] [.is (.pointer (some ⟨b,0,none⟩))] (sourceP ts=none) flt (fun z:Pz.Src×List T3=>sourceP ts=some z) (fun z=>[PB T b z.2]) (fun z=>.is (srcV z.1)):=
CallP.of (fn:=Tryz.f116) Tryz.func116 (n:=34) rfl rfl rfl (fun _ _=>by kernel_rfl) fun E W hb0=>by
 refine vQ ?_;refine JO.alloc Z2W rfl fun b2=>(vP [0,2] ?_);refine Jm rfl ?_;refine JO.callPK (Lr:=[_]) (Z3f T hc b ts hts) rfl (.swap _ _ _) (Z7c qI) qA (fun hbad=>?_) ?_
 · exact JX.pnI (by unfold sourceP;rw[hbad];rfl)
 intro z hz;refine vD ?_;have hz2:z.2<:+T.ts:=(Z14 _ _ hz).1.trans hts;refine Ja rfl (vP [0,2,3] ?_);refine Jm rfl (Jm rfl (Jq (Zg (cs:=[_,_,_]) Z9R (.cons rfl (.cons rfl .nil)) rfl rfl) (JO.alloc Z2W rfl fun b4=>(JO.m (Z4 rfl rfl qU qC qO Z2s) (by rfl) ?_))));refine vP [0,2,4] ?_;refine Jm rfl (JO.callK (Lr:=[_,_]) (ZZ T hc b z.2 hz2 w_AS) rfl (.swap _ _ _) (Z7c qI) qA ?_);intro _ _;refine vD ?_;have hu:skT 1 w_AS z.2<:+T.ts:=(Z2p _ _ _).trans hz2;refine Jm rfl (JO.tg rfl rfl rfl rfl rfl (fun hg=>Z2 (.inl rfl)) (JO.tg rfl rfl rfl rfl rfl (fun hg=>Z5 (qR rfl)) ?_));refine JO.tg rfl rfl rfl rfl rfl (fun hg=>Z0 Zz (qR rfl)) ?_;refine JO.tg rfl rfl rfl rfl rfl (fun hg=>Z1 ZJ (qR rfl) rfl) ?_;refine JO.tg rfl rfl rfl rfl rfl (fun hg=>ZE Z12 (qR rfl)) ?_;refine JO.tg rfl rfl rfl rfl rfl (fun hg=>Z13 (qR rfl) (.inl rfl)) ?_;refine JO.tg rfl rfl rfl rfl rfl (fun hg=>Z2 (qR rfl)) ?_;refine JO.tgg rfl rfl rfl rfl rfl (fun hg=>Z2 (.inl rfl)) (JO.tgg rfl rfl rfl rfl rfl (fun hg=>Z5 (qR rfl)) ?_);refine JO.tgg rfl rfl rfl rfl rfl (fun hg=>Z0 Zz (qR rfl)) ?_;refine JO.tgg rfl rfl rfl rfl rfl (fun hg=>Z1 ZJ (qR rfl) rfl) ?_;refine JO.tgg rfl rfl rfl rfl rfl (fun hg=>Z9 Z1m (qR rfl) rfl (.inl rfl) qM (Z3z (Z43 hg.2))) ?_;refine JO.tgg rfl rfl rfl rfl rfl (fun hg=>Z0 Z1n (qR rfl)) ?_;refine JO.tgg rfl rfl rfl rfl rfl (fun hg=>ZK (enc:=T3.cells) (sz:=3) (i:=T.k (skT 1 w_AS z.2)) (j:=0) (y:=(skT 1 w_AS z.2).headD t3D) (u:=.int .i64 ((skT 1 w_AS z.2).headD t3D).k) Zq (qR rfl) qI rfl (Tk.head hu (Z43 hg.2)) (by rw[Tk.j_eq hc hu (Z43 hg.2)];omega) rfl) ?_;refine JO.tgg rfl rfl rfl rfl rfl (fun hg=>Zu (qR rfl) (.inl rfl)) ?_;refine JO.tg rfl rfl rfl rfl rfl (fun hg=>Zn (qR rfl) (.inl rfl) (.inl rfl) (fun h=>⟨hg,h⟩)) ?_;refine Jq (ZF rfl rfl rfl id) (vS [0,2,4,29] ?_);refine yC rfl (fun ht29=>?_) (fun ht29=>?_);have hv:(isT 1 w_AS z.2||isK 2 z.2)=true:=by rw[<-Zgq];exact ht29
 refine vQ ?_;refine Jm rfl ?_;refine JO.callPK (Lr:=[_,_]) (Z3f T hc b (skT 1 w_AS z.2) hu) rfl (.refl _) (Z7c qI) qA (fun hbad=>?_) ?_
 · exact JX.pnI (by rw[ZdZ hz hv,hbad];rfl)
 intro y hy;refine vD ?_;refine Jq (Z0 Z2A rfl) (JO.m (Zj (cs':=[_,_,_]) rfl rfl qU rfl rfl rfl rfl Z4a) (by rfl) ?_);refine vP [2,4] ?_;refine Jq (ZR (cs:=[_,_,_]) Z27 rfl rfl rfl) (JO.m (Z4 rfl rfl qU qC qO Z2s) (by rfl) ?_);refine vS [2] ?_;refine vR ?_;refine JX.toP ?_;exact JX.retLC (Lr:=[_,_]) rfl (⟨z.1,y.1,[]⟩,y.2) (by rw[ZdZ hz hv,hy];rfl) (.refl _) rfl hb0 rfl Z27 HasOwn.mem rfl rfl;apply yK;refine vN ?_;apply yN;refine Jq (ZR (cs:=[_,_,_]) Z27 rfl rfl rfl) (JO.m (Z4 rfl rfl qU qC qO Z2s) (by rfl) ?_);refine vS [2] ?_;refine vR ?_;refine JX.toP ?_;have hv:(isT 1 w_AS z.2||isK 2 z.2)=false:=by rw[<-Zgq];exact ht29
 exact JX.retLC (Lr:=[_,_]) rfl (⟨z.1,z.1,[]⟩,skT 1 w_AS z.2) (ZiF hz hv) (.refl _) rfl hb0 rfl Z27 HasOwn.mem rfl rfl
abbrev fv(f:FuncId):Value:=.func (.func f) #[] #[]
theorem Z7Z{k:Int}{ops:List (ByteArray×Int)}{i:Nat}(h:i<ops.length)(ts:List T3):opOf k (ops.drop i) ts=if isT k (ops.getD i (em,0)).1 ts then some (ops.getD i (em,0)).2 else opOf k (ops.drop (i+1)) ts:=by
 rw[List.drop_eq_getElem_cons h,List.getD_eq_getElem?_getD,List.getElem?_eq_getElem h]
 rfl
theorem ZmO{ops:List (ByteArray×Int)}{i:Nat}(h:i<ops.length):(ops.map (·.1))[i]? =some (ops.getD i (em,0)).1:=by
 rw[List.getElem?_map,List.getD_eq_getElem?_getD,List.getElem?_eq_getElem h];rfl
theorem Zmx{ops:List (ByteArray×Int)}{i:Nat}(h:i<ops.length):(ops.map (·.2))[i]? =some (ops.getD i (em,0)).2:=by
 rw[List.getElem?_map,List.getD_eq_getElem?_getD,List.getElem?_eq_getElem h];rfl
def chI(p:Ps Ex)(kd:Int)(ops:List (ByteArray×Int))(ts:List T3)(s:Bool×Ex×List T3):Prop:=if s.1=true then chainP p kd ops ts=chainC p kd ops s.2.1 s.2.2 else chainP p kd ops ts=some (s.2.1,s.2.2)
theorem Z3a(T:Tk)(hc:T.ts.length<=T.cap)(b:Nat)(ts:List T3)(hts:ts<:+T.ts)(p:Ps Ex)(hpd:Dn p)(kd:Int)(ops:List (ByteArray×Int))(h63:ops.length<=9223372036854775806)(fp:FuncId)(hpart: ∀us,us<:+T.ts->us.length<=ts.length->CallP Tryz.prog fp [PB T b (us)] [T.G,AF] [.is (.pointer (some ⟨b,0,none⟩))] (p (us)=none) flt (fun z:Ex×List T3=>p (us)=some z) (fun z=>[PB T b z.2]) (fun z=>.rep (ExR z.1))):CallP Tryz.prog Z8g [PB T b ts] [T.G,AF] [.is (.pointer (some ⟨b,0,none⟩)),.is (fv fp),.is (.int .i64 kd),.rep (SlG sC 1 (ops.map (·.1))),.rep (SlG iC 1 (ops.map (·.2)))] (chainP p kd ops ts=none) flt (fun z:Ex×List T3=>chainP p kd ops ts=some z) (fun z=>[PB T b z.2]) (fun z=>.rep (ExR z.1)):=
CallP.of (fn:=Tryz.f145) Tryz.func145 (n:=42) rfl rfl rfl (fun _ _=>by kernel_rfl) fun E W hb0=>by
 refine J.openSl (s:=3) rfl (fun a3 l3 c3 b3 o3 hl3 ha3=>?_);refine J.openSl (s:=4) rfl (fun a4 l4 c4 b4 o4 hl4 ha4=>?_);rw[List.length_map]at hl3 hl4;subst hl3 hl4;refine vQ ?_;refine JO.alloc ZT rfl fun b10=>(vP [0,1,2,3,4,10] ?_);refine Jm rfl (Jm rfl ?_);refine JO.callPvK (cp:=[]) (Lr:=[_]) rfl (hpart ts hts (Nat.le_refl _)) rfl (.swap _ _ _) qF (.one rfl .nil) (fun hbad=>?_) ?_
 · exact JX.pnI (by unfold chainP;rw[hbad];rfl)
 intro z1 hz1;refine vD ?_;refine JO.alloc ZT rfl fun b11=>(JO.m (Z4 rfl rfl qU qC qO Zc) (by rfl) ?_);refine vP [0,1,2,3,4,10,11] ?_;refine Ja rfl (vS [0,1,2,3,4,10,11,12] ?_);apply yk
 repeat apply yQ
 refine J.loopG (α:=Bool×Ex×List T3) (fun s=>[(0,.is (.pointer (some ⟨b,0,none⟩))),(1,.is (fv fp)),(2,.is (.int .i64 kd)),(3,.is (.slice a3 ops.length c3)),(4,.is (.slice a4 ops.length c4)),(10,.is (.pointer (some ⟨b10,0,none⟩))),(11,.is (.pointer (some ⟨b11,0,none⟩))),(12,.is (.bool s.1))]) (fun s=>[⟨b11,Zb,.rep (ExR s.2.1)⟩,PB T b s.2.2,⟨b10,Zb,.is (.agg #[.int .i64 0,.int .i64 0,.int .i64 0,.string ⟨#[]⟩,.string ⟨#[]⟩,.string ⟨#[]⟩,.int .i64 0,.slice none 0 0])⟩]) (fun s=>fun _=>True) (fun s=>s.2.2<:+T.ts/\s.2.2.length<=ts.length/\chI p kd ops ts s) (fun s=>2*s.2.2.length+s.1.toNat) (true,z1.1,z1.2) [0,1,2,3,4,10,11,12] (.cons rfl (.cons rfl (.cons rfl (.cons rfl (.cons rfl (.cons rfl (.cons rfl (.cons rfl .nil)))))))) rfl (fun _=>trivial) ⟨((hpd _ _ hz1).1.trans hts),(hpd _ _ hz1).1.length_le,by unfold chI;rw[if_pos rfl];unfold chainP;rw[hz1];rfl⟩ fun⟨mo,x,us⟩ ⟨hus,hul,hI⟩=>?_;try dsimp only
 try dsimp only at hus
 try dsimp only at hul
 refine vQ ?_;refine Jm rfl (vS [0,1,2,3,4,10,11,18] ?_);refine yC rfl (fun ht18=>?_) (fun ht18=>?_);apply yK;refine vN ?_;apply yk;obtain rfl:mo=true:=ht18;rw[chI,if_pos rfl]at hI;refine vQ ?_;refine Ja rfl (vP [0,1,2,3,4,10,11,12] ?_);refine Jm rfl (Jq (ZE ZD rfl) (Jm rfl (vS [0,1,2,3,4,10,11,12,19,20,21] ?_)));apply yk
 repeat apply yQ
 refine J.loopG (α:=Nat) (fun i=>[(0,.is (.pointer (some ⟨b,0,none⟩))),(1,.is (fv fp)),(2,.is (.int .i64 kd)),(3,.is (.slice a3 ops.length c3)),(4,.is (.slice a4 ops.length c4)),(10,.is (.pointer (some ⟨b10,0,none⟩))),(11,.is (.pointer (some ⟨b11,0,none⟩))),(12,.is (.bool false)),(19,.is (.slice a3 ops.length c3)),(20,.is (.int .i64 (ops.length:Int))),(21,.is (.int .i64 (i:Int)))]) (fun i=>[⟨b11,Zb,.rep (ExR x)⟩,PB T b us,⟨b10,Zb,.is (.agg #[.int .i64 0,.int .i64 0,.int .i64 0,.string ⟨#[]⟩,.string ⟨#[]⟩,.string ⟨#[]⟩,.int .i64 0,.slice none 0 0])⟩]) (fun i=>fun _=>True) (fun i=>i<=ops.length/\opOf kd (ops.drop i) us=opOf kd ops us) (fun i=>ops.length-i) 0 [0,1,2,3,4,10,11,12,19,20,21] (.cons rfl (.cons rfl (.cons rfl (.cons rfl (.cons rfl (.cons rfl (.cons rfl (.cons rfl (.cons rfl (.cons rfl (.cons rfl .nil))))))))))) rfl (fun _=>trivial) ⟨by omega,rfl⟩ fun i ⟨hi,hO⟩=>?_;refine vQ ?_;refine Jq (ZC rfl rfl) (vS [0,1,2,3,4,10,11,12,19,20,21,22] ?_);refine yC rfl (fun ht22=>?_) (fun ht22=>?_)
 try simp only[yd,yf]at ht22
 apply yK;refine vN ?_;apply yk;refine vQ ?_;refine Jm rfl (Jq (Z9 Z1Y rfl (ha3 qM) rfl qM qM) ?_);refine Jq (ZK (enc:=sC) (sz:=1) (i:=i) (j:=0) (y:=(ops.getD i (em,0)).1) (u:=.string (ops.getD i (em,0)).1) Za rfl qI (ha3 qM) (ZmO qM) qM rfl) ?_;refine Ja rfl (Ja rfl (vP [0,1,2,3,4,10,11,12,13,14,19,20,21] ?_));refine Jm rfl (Jm rfl (Jm rfl (JO.callK (Lr:=[_,_]) (Z44 T hc b us hus kd (ops.getD i (em,0)).1) rfl (.swap _ _ _) qF qA ?_)));intro _ _;refine vD ?_;refine vS [0,1,2,3,4,10,11,12,13,19,20,21,29] ?_;refine yC rfl (fun ht29=>?_) (fun ht29=>?_);have hit:isT kd (ops.getD i (em,0)).1 us=true:=ht29;have hop:opOf kd ops us=some (ops.getD i (em,0)).2:=by rw[<-hO,Z7Z qM,if_pos hit]
 rw[Z2C hit]
 repeat apply yQ
 refine J.regBgPm (Bad:=p us.tail=none) (ch:=flt) (G:={z:Ex×List T3 // p us.tail=some z}) 7 9 (fun hbad=>?_) (fun g=>.rep (ExR g.1.1)) (fun g=>[PB T b g.1.2]++[⟨b11,Zb,.rep (ExR x)⟩,⟨b10,Zb,.is (.agg #[.int .i64 0,.int .i64 0,.int .i64 0,.string ⟨#[]⟩,.string ⟨#[]⟩,.string ⟨#[]⟩,.int .i64 0,.slice none 0 0])⟩]) ([⟨b11,Zb,.rep (ExR x)⟩,⟨b10,Zb,.is (.agg #[.int .i64 0,.int .i64 0,.int .i64 0,.string ⟨#[]⟩,.string ⟨#[]⟩,.string ⟨#[]⟩,.int .i64 0,.slice none 0 0])⟩]) rfl rfl rfl rfl hmx qK rfl qK (fun _ h=>List.mem_cons_of_mem _ h) (fun g o ho=>List.mem_cons_of_mem _ ho) qK ?_
 · exact JX.pnI (by show chainP p kd ops ts=none;rw[hI,Z3O hpd hop,hbad];rfl)
 refine yz (Z2 rfl) (yz (Z2 rfl) (yz (Z9 Zhv rfl (ha4 qM) rfl qM qM) ?_));refine yz (ZK (enc:=iC) (sz:=1) (i:=i) (j:=0) (y:=(ops.getD i (em,0)).2) (u:=.int .i64 (ops.getD i (em,0)).2) Zq rfl qI (ha4 qM) (Zmx qM) qM rfl) ?_;refine yz (Z1J Z6 rfl) (yz (Z2 rfl) (yz (Z2 rfl) ?_));refine RT.biggP (Lq:=[⟨b11,Zb,.rep (ExR x)⟩,⟨b10,Zb,.is (.agg #[.int .i64 0,.int .i64 0,.int .i64 0,.string ⟨#[]⟩,.string ⟨#[]⟩,.string ⟨#[]⟩,.int .i64 0,.slice none 0 0])⟩]) (Zcc (cp:=[]) rfl (hpart us.tail (Z1h hus) (by have:=(ZG hit).2;omega)) (.refl _) qF (.one rfl .nil)) (fun g=>?_);refine yz (Z6s ZB rfl rfl) ?_;apply yn;obtain⟨z,hg2⟩:=g;try dsimp only
 have hlt:=(ZG hit).2;refine Jq (Zo rfl (Z3d (ops.getD i (em,0)).2 [x,z.1]) qA) ?_;refine JO.m (Z4 rfl rfl qU qC qO Zc) (by rfl) ?_;refine Ja rfl (vS [0,1,2,3,4,10,11,12] ?_);refine J.exit ?_
 repeat first|refine yH ?_|refine yM rfl ?_|refine yE ?_
 repeat first|apply yX|apply yB
 repeat refine JX.normal_block ?_
 refine JX.roundG (x:=(true,x,us)) (true,nd (ops.getD i (em,0)).2 [x,z.1],z.2) ?_ ?_ [0,1,2,3,4,10,11,12] ?_ ?_ ?_ ?_
 · exact⟨((hpd _ _ hg2).1.trans (Z1h hus)),(by have:=(hpd _ _ hg2).2;show z.2.length<=ts.length;omega),by unfold chI;rw[if_pos rfl];rw[hI,Z3O hpd hop,hg2];rfl⟩
 · exact(by have:=(hpd _ _ hg2).2;show 2*z.2.length+1<2*us.length+true.toNat;simp;omega)
 · exact qS
 · exact qH
 · exact qG
 · exact fun _ _ _=>fun _ _=>trivial
 apply yK
 repeat first|apply yX|apply yB
 rw[Z37 ht29];refine vQ ?_;refine Jq (Zv (cc:=((i+1:Nat):Int)) rfl rfl qM qM qM) ?_;refine Jm rfl ?_;apply yI
 repeat refine JX.normal_block ?_
 refine JX.roundG (x:=i) (i+1) ?_ ?_ [0,1,2,3,4,10,11,12,19,20,21] ?_ ?_ ?_ ?_
 · exact⟨by omega,by rw[<-hO,Z7Z (i:=i) qM,if_neg (by rw[ht29];decide)]⟩
 · exact qM
 · exact qS
 · exact qH
 · exact qG
 · exact fun _ _ _=>fun _ _=>trivial
 try simp only[yd,yf]at ht22
 repeat apply yQ
 refine J.exit ?_
 repeat first|refine yH ?_|refine yM rfl ?_|refine yE ?_
 repeat first|apply yX|apply yB
 repeat refine JX.normal_block ?_
 refine JX.roundG (x:=(true,x,us)) (false,x,us) ?_ ?_ [0,1,2,3,4,10,11,12] ?_ ?_ ?_ ?_
 · exact⟨hus,hul,by unfold chI;rw[if_neg (by exact Bool.false_ne_true)];rw[hI];exact Z1Z (by rw[<-hO,List.drop_eq_nil_of_le qM];rfl)⟩
 · exact(by show 2*us.length+0<2*us.length+true.toNat;simp)
 · exact qS
 · exact qH
 · exact qG
 · exact fun _ _ _=>fun _ _=>trivial
 repeat apply yQ
 refine J.exit ?_
 repeat first|refine yH ?_|refine yM rfl ?_|refine yE ?_
 repeat first|apply yX|apply yB
 obtain rfl:mo=false:=ht18;rw[chI,if_neg (by exact Bool.false_ne_true)]at hI;refine vQ ?_;refine Jq (Z1J Z6 rfl) (JO.m (Z4 rfl rfl qU qC qO Zc) (by rfl) ?_);refine vS [10] ?_;refine vR ?_;refine JX.toP ?_;exact JX.retLCs (Lr:=[_,_]) rfl (x,us) hI (.swap _ _ _) rfl rfl hb0 rfl Z6 HasOwn.mem Z1S (Sub.refl _)
theorem Z7r(T:Tk)(hc:T.ts.length<=T.cap)(b:Nat)(ts:List T3)(hts:ts<:+T.ts)(e:Ps Ex)(he:Dn0 e)(hpart: ∀us,us<:+T.ts->us.length<=ts.length->CallP Tryz.prog Z2f [PB T b (us)] [T.G,AF] [.is (.pointer (some ⟨b,0,none⟩))] (factorP e (us)=none) flt (fun z:Ex×List T3=>factorP e (us)=some z) (fun z=>[PB T b z.2]) (fun z=>.rep (ExR z.1))):CallP Tryz.prog Z2R [PB T b ts] [T.G,AF] [.is (.pointer (some ⟨b,0,none⟩))] (prodP e ts=none) flt (fun z:Ex×List T3=>prodP e ts=some z) (fun z=>[PB T b z.2]) (fun z=>.rep (ExR z.1)):=
CallP.of (fn:=Tryz.f189) Tryz.func189 (n:=7) rfl rfl rfl (fun _ _=>by kernel_rfl) fun E W hb0=>by
 refine vQ ?_;refine JO.alloc ZT rfl fun b2=>(vP [0,2] ?_);refine Jm rfl (Jq (Zx (cs:=[_,_,_]) ZS qM qM (.cons rfl (.cons rfl (.cons rfl .nil))) rfl rfl rfl) ?_);refine Jq (Zx (cs:=[_,_,_]) Z8a qM qM (.cons rfl (.cons rfl (.cons rfl .nil))) rfl rfl rfl) ?_;refine JO.callPK (Lr:=[_]) (Z3a T hc b ts hts (factorP e) (Z4k he) 5 mulO qD Z2f hpart) rfl (.swap _ _ _) qF (.one rfl (.one rfl (.one rfl (.sub rfl (Sub.newSlG (en:=sC) (sz:=1) (xs:=[Z1g,Z2F,Z3E]) (fun _=>rfl) rfl rfl) (.sub rfl (Sub.newSlG (en:=iC) (sz:=1) (xs:=[7,8,9]) (fun _=>rfl) rfl rfl) .nil))))) (fun hbad=>?_) ?_
 · exact JX.pnI (hbad)
 intro z hz;refine vD ?_;refine JO.m (Z4 rfl rfl qU qC qO Zc) (by rfl) ?_;refine vS [2] ?_;refine vR ?_;refine JX.toP ?_;exact JX.retLCs (Lr:=[_]) rfl z hz (.refl _) rfl rfl hb0 rfl Z6 HasOwn.mem Z1S (Sub.refl _)
theorem Z9K(T:Tk)(hc:T.ts.length<=T.cap)(b:Nat)(ts:List T3)(hts:ts<:+T.ts)(e:Ps Ex)(he:Dn0 e)(hpart: ∀us,us<:+T.ts->us.length<=ts.length->CallP Tryz.prog Z2R [PB T b (us)] [T.G,AF] [.is (.pointer (some ⟨b,0,none⟩))] (prodP e (us)=none) flt (fun z:Ex×List T3=>prodP e (us)=some z) (fun z=>[PB T b z.2]) (fun z=>.rep (ExR z.1))):CallP Tryz.prog Z3u [PB T b ts] [T.G,AF] [.is (.pointer (some ⟨b,0,none⟩))] (sumP e ts=none) flt (fun z:Ex×List T3=>sumP e ts=some z) (fun z=>[PB T b z.2]) (fun z=>.rep (ExR z.1)):=
CallP.of (fn:=Tryz.f178) Tryz.func178 (n:=7) rfl rfl rfl (fun _ _=>by kernel_rfl) fun E W hb0=>by
 refine vQ ?_;refine JO.alloc ZT rfl fun b2=>(vP [0,2] ?_);refine Jm rfl (Jq (Zx (cs:=[_,_]) ZS qM qM (.cons rfl (.cons rfl .nil)) rfl rfl rfl) ?_);refine Jq (Zx (cs:=[_,_]) Z8a qM qM (.cons rfl (.cons rfl .nil)) rfl rfl rfl) ?_;refine JO.callPK (Lr:=[_]) (Z3a T hc b ts hts (prodP e) (Z5V he) 5 addO qD Z2R hpart) rfl (.swap _ _ _) qF (.one rfl (.one rfl (.one rfl (.sub rfl (Sub.newSlG (en:=sC) (sz:=1) (xs:=[Z30,Z1s]) (fun _=>rfl) rfl rfl) (.sub rfl (Sub.newSlG (en:=iC) (sz:=1) (xs:=[5,6]) (fun _=>rfl) rfl rfl) .nil))))) (fun hbad=>?_) ?_
 · exact JX.pnI (hbad)
 intro z hz;refine vD ?_;refine JO.m (Z4 rfl rfl qU qC qO Zc) (by rfl) ?_;refine vS [2] ?_;refine vR ?_;refine JX.toP ?_;exact JX.retLCs (Lr:=[_]) rfl z hz (.refl _) rfl rfl hb0 rfl Z6 HasOwn.mem Z1S (Sub.refl _)
theorem Z9w(T:Tk)(hc:T.ts.length<=T.cap)(b:Nat)(ts:List T3)(hts:ts<:+T.ts)(e:Ps Ex)(he:Dn0 e)(hpart: ∀us,us<:+T.ts->us.length<=ts.length->CallP Tryz.prog Z2u [PB T b (us)] [T.G,AF] [.is (.pointer (some ⟨b,0,none⟩))] (notP e (us)=none) flt (fun z:Ex×List T3=>notP e (us)=some z) (fun z=>[PB T b z.2]) (fun z=>.rep (ExR z.1))):CallP Tryz.prog Z3v [PB T b ts] [T.G,AF] [.is (.pointer (some ⟨b,0,none⟩))] (andP e ts=none) flt (fun z:Ex×List T3=>andP e ts=some z) (fun z=>[PB T b z.2]) (fun z=>.rep (ExR z.1)):=
CallP.of (fn:=Tryz.f146) Tryz.func146 (n:=7) rfl rfl rfl (fun _ _=>by kernel_rfl) fun E W hb0=>by
 refine vQ ?_;refine JO.alloc ZT rfl fun b2=>(vP [0,2] ?_);refine Jm rfl (Jq (Zx (cs:=[_]) ZS qM qM (.cons rfl .nil) rfl rfl rfl) ?_);refine Jq (Zx (cs:=[_]) Z8a qM qM (.cons rfl .nil) rfl rfl rfl) ?_;refine JO.callPK (Lr:=[_]) (Z3a T hc b ts hts (notP e) (Z6e he) 1 [(Z22,16)] qD Z2u hpart) rfl (.swap _ _ _) qF (.one rfl (.one rfl (.one rfl (.sub rfl (Sub.newSlG (en:=sC) (sz:=1) (xs:=[Z22]) (fun _=>rfl) rfl rfl) (.sub rfl (Sub.newSlG (en:=iC) (sz:=1) (xs:=[16]) (fun _=>rfl) rfl rfl) .nil))))) (fun hbad=>?_) ?_
 · exact JX.pnI (hbad)
 intro z hz;refine vD ?_;refine JO.m (Z4 rfl rfl qU qC qO Zc) (by rfl) ?_;refine vS [2] ?_;refine vR ?_;refine JX.toP ?_;exact JX.retLCs (Lr:=[_]) rfl z hz (.refl _) rfl rfl hb0 rfl Z6 HasOwn.mem Z1S (Sub.refl _)
theorem Z8F(T:Tk)(hc:T.ts.length<=T.cap)(b:Nat)(ts:List T3)(hts:ts<:+T.ts)(e:Ps Ex)(he:Dn0 e)(hpart: ∀us,us<:+T.ts->us.length<=ts.length->CallP Tryz.prog Z3v [PB T b (us)] [T.G,AF] [.is (.pointer (some ⟨b,0,none⟩))] (andP e (us)=none) flt (fun z:Ex×List T3=>andP e (us)=some z) (fun z=>[PB T b z.2]) (fun z=>.rep (ExR z.1))):CallP Tryz.prog Z1w [PB T b ts] [T.G,AF] [.is (.pointer (some ⟨b,0,none⟩))] (orP e ts=none) flt (fun z:Ex×List T3=>orP e ts=some z) (fun z=>[PB T b z.2]) (fun z=>.rep (ExR z.1)):=
CallP.of (fn:=Tryz.f113) Tryz.func113 (n:=7) rfl rfl rfl (fun _ _=>by kernel_rfl) fun E W hb0=>by
 refine vQ ?_;refine JO.alloc ZT rfl fun b2=>(vP [0,2] ?_);refine Jm rfl (Jq (Zx (cs:=[_]) ZS qM qM (.cons rfl .nil) rfl rfl rfl) ?_);refine Jq (Zx (cs:=[_]) Z8a qM qM (.cons rfl .nil) rfl rfl rfl) ?_;refine JO.callPK (Lr:=[_]) (Z3a T hc b ts hts (andP e) (Z74 he) 1 [(w_OR,17)] qD Z3v hpart) rfl (.swap _ _ _) qF (.one rfl (.one rfl (.one rfl (.sub rfl (Sub.newSlG (en:=sC) (sz:=1) (xs:=[w_OR]) (fun _=>rfl) rfl rfl) (.sub rfl (Sub.newSlG (en:=iC) (sz:=1) (xs:=[17]) (fun _=>rfl) rfl rfl) .nil))))) (fun hbad=>?_) ?_
 · exact JX.pnI (hbad)
 intro z hz;refine vD ?_;refine JO.m (Z4 rfl rfl qU qC qO Zc) (by rfl) ?_;refine vS [2] ?_;refine vR ?_;refine JX.toP ?_;exact JX.retLCs (Lr:=[_]) rfl z hz (.refl _) rfl rfl hb0 rfl Z6 HasOwn.mem Z1S (Sub.refl _)
theorem ZhJ{e:Ps Ex}{ts:List T3}(h:isT 1 Z1c ts=true):notP e ts=(notP e ts.tail).map fun z=>(nd 4 [z.1],z.2):=by
 obtain⟨t,r,rfl,_⟩:=Z5t h;rw[notP,if_pos h];rfl
theorem Z5n{e:Ps Ex}{ts:List T3}(h:isT 1 Z1c ts=false):notP e ts=(sumP e ts).bind fun z=>cmpP e z.1 z.2:=by
 cases ts with
 |nil=>rw[notP]
 |cons t r=>rw[notP,if_neg (by rw[h];decide)]
abbrev cmpV:List Value:=[.string s_eq,.string s_ne,.string s_lt,.string s_le,.string s_gt,.string s_ge]
theorem Zmp{i:Nat}(h:i<6):cmpV[0+((i:Nat):Int).toNat*1]? =some (.string (cmpO.getD i (em,0)).1):=by
 match i,h with
 |0,_=>rfl
 |1,_=>rfl
 |2,_=>rfl
 |3,_=>rfl
 |4,_=>rfl
 |5,_=>rfl
theorem ZmI{i:Nat}(h:i<6):IntKind.i64.wrap (10+((i:Nat):Int))=(cmpO.getD i (em,0)).2:=by
 match i,h with
 |0,_=>rfl
 |1,_=>rfl
 |2,_=>rfl
 |3,_=>rfl
 |4,_=>rfl
 |5,_=>rfl
theorem asc{s:ByteArray}(h:s.data.toList.all (fun b=>decide (b.toNat<128))=true)(j:Nat)(b:UInt8)(hb:s.data.toList[j]? =some b):b.toNat<128:=of_decide_eq_true (List.all_eq_true.1 h b (List.mem_of_getElem? hb))
theorem Z6Y(T:Tk)(hc:T.ts.length<=T.cap)(b:Nat)(ts:List T3)(hts:ts<:+T.ts)(e:Ps Ex)(he:Dn0 e)(hsum: ∀us,us<:+T.ts->us.length<=ts.length->CallP Tryz.prog Z3u [PB T b (us)] [T.G,AF] [.is (.pointer (some ⟨b,0,none⟩))] (sumP e (us)=none) flt (fun z:Ex×List T3=>sumP e (us)=some z) (fun z=>[PB T b z.2]) (fun z=>.rep (ExR z.1)))(ih: ∀us,us<:+T.ts->us.length<ts.length->CallP Tryz.prog Z2u [PB T b (us)] [T.G,AF] [.is (.pointer (some ⟨b,0,none⟩))] (notP e (us)=none) flt (fun z:Ex×List T3=>notP e (us)=some z) (fun z=>[PB T b z.2]) (fun z=>.rep (ExR z.1))):CallP Tryz.prog Z2u [PB T b ts] [T.G,AF] [.is (.pointer (some ⟨b,0,none⟩))] (notP e ts=none) flt (fun z:Ex×List T3=>notP e ts=some z) (fun z=>[PB T b z.2]) (fun z=>.rep (ExR z.1)):=
CallP.of (fn:=Tryz.f165) Tryz.func165 (n:=48) rfl rfl rfl (fun _ _=>by kernel_rfl) fun E W hb0=>by
 refine vQ ?_;refine JO.alloc ZT rfl fun b2=>(vP [0,2] ?_);refine Jm rfl (JO.callK (Lr:=[_]) (ZZ T hc b ts hts Z1c) rfl (.swap _ _ _) qF qA ?_);intro _ _;refine vD ?_;refine vS [0,2,7] ?_;refine yC rfl (fun ht7=>?_) (fun ht7=>?_);have hnn:isT 1 Z1c ts=true:=ht7;rw[Z2C hnn];refine vQ ?_;refine Jm rfl ?_;refine JO.callPK (Lr:=[_]) (ih ts.tail (Z1h hts) (ZG hnn).2) rfl (.refl _) qF qA (fun hbad=>?_) ?_
 · exact JX.pnI (by rw[ZhJ hnn,hbad];rfl)
 intro z hz;refine vD ?_;refine Jq (Z2b ZB rfl) (Jq (Zo rfl (Z3d 4 [z.1]) qA) ?_);refine JO.m (Z4 rfl rfl qU qC qO Zc) (by rfl) ?_;refine vS [2] ?_;refine vR ?_;refine JX.toP ?_;exact JX.retLCs (Lr:=[_]) rfl (nd 4 [z.1],z.2) (by rw[ZhJ hnn,hz];rfl) (.refl _) rfl rfl hb0 rfl Z6 HasOwn.mem Z1S (Sub.refl _);apply yK
 repeat first|apply yX|apply yB
 have hnn:isT 1 Z1c ts=false:=ht7;rw[Z37 hnn];refine vQ ?_;refine Jm rfl ?_;refine JO.callPK (Lr:=[_]) (hsum ts hts (Nat.le_refl _)) rfl (.refl _) qF qA (fun hbad=>?_) ?_
 · exact JX.pnI (by rw[Z5n hnn,hbad];rfl)
 intro z1 hz1;refine vD ?_;refine JO.alloc ZT rfl fun b3=>(JO.m (Z4 rfl rfl qU qC qO Zc) (by rfl) ?_);refine vP [0,2,3] ?_;refine Jq (Zx (cs:=[_,_,_,_,_,_]) ZS qM qM (.cons rfl (.cons rfl (.cons rfl (.cons rfl (.cons rfl (.cons rfl .nil)))))) rfl rfl rfl) ?_;refine JO.openNew (s:=14) rfl (fun r14=>?_);refine Jq (ZE ZD rfl) (Jm rfl (vS [0,2,3,14,15,16] ?_));apply yk
 repeat apply yQ
 refine J.loopG (α:=Nat) (fun i=>[(0,.is (.pointer (some ⟨b,0,none⟩))),(2,.is (.pointer (some ⟨b2,0,none⟩))),(3,.is (.pointer (some ⟨b3,0,none⟩))),(14,.is (.slice (some ⟨r14,0,none⟩) 6 6)),(15,.is (.int .i64 6)),(16,.is (.int .i64 (i:Int)))]) (fun i=>[⟨b3,Zb,.rep (ExR z1.1)⟩,PB T b z1.2,⟨b2,Zb,.is (.agg #[.int .i64 0,.int .i64 0,.int .i64 0,.string ⟨#[]⟩,.string ⟨#[]⟩,.string ⟨#[]⟩,.int .i64 0,.slice none 0 0])⟩]) (fun i=>fun _=>True) (fun i=>i<=6/\opOf 5 (cmpO.drop i) z1.2=opOf 5 cmpO z1.2) (fun i=>6-i) 0 [0,2,3,14,15,16] (.cons rfl (.cons rfl (.cons rfl (.cons rfl (.cons rfl (.cons rfl .nil)))))) rfl (fun _=>trivial) ⟨by omega,rfl⟩ fun i ⟨hi,hO⟩=>?_;refine vQ ?_;refine Jq (ZC rfl rfl) (vS [0,2,3,14,15,16,17] ?_);refine yC rfl (fun ht17=>?_) (fun ht17=>?_)
 try simp only[yd,yf]at ht17
 apply yK;refine vN ?_;apply yk;refine vQ ?_;refine Jm rfl (Jq (Z9 Z1Y rfl rfl rfl qM qM) ?_);refine Jq (Zcy (cs:=cmpV) (u:=.string (cmpO.getD i (em,0)).1) Za rfl qI (Zmp qM)) ?_;refine Ja rfl (Ja rfl (vP [0,2,3,4,5,14,15,16] ?_));refine Jm rfl (Jm rfl (JO.callK (Lr:=[_,_]) (ZX T hc b z1.2 ((Z31 he _ _ hz1).1.trans hts) (cmpO.getD i (em,0)).1) rfl (.swap _ _ _) qF qA ?_));intro _ _;refine vD ?_;refine vS [0,2,3,4,14,15,16,23] ?_;refine yC rfl (fun ht23=>?_) (fun ht23=>?_);have hit:isT 5 (cmpO.getD i (em,0)).1 z1.2=true:=ht23;have hop:opOf 5 cmpO z1.2=some (cmpO.getD i (em,0)).2:=by rw[<-hO,Z7Z (ops:=cmpO) (by show i<6;omega),if_pos hit]
 rw[Z2C hit]
 repeat apply yQ
 refine J.regBgPm (Bad:=sumP e z1.2.tail=none) (ch:=flt) (G:={z:Ex×List T3 // sumP e z1.2.tail=some z}) 4 6 (fun hbad=>?_) (fun g=>.rep (ExR g.1.1)) (fun g=>[PB T b g.1.2]++[⟨b3,Zb,.rep (ExR z1.1)⟩,⟨b2,Zb,.is (.agg #[.int .i64 0,.int .i64 0,.int .i64 0,.string ⟨#[]⟩,.string ⟨#[]⟩,.string ⟨#[]⟩,.int .i64 0,.slice none 0 0])⟩]) ([⟨b3,Zb,.rep (ExR z1.1)⟩,⟨b2,Zb,.is (.agg #[.int .i64 0,.int .i64 0,.int .i64 0,.string ⟨#[]⟩,.string ⟨#[]⟩,.string ⟨#[]⟩,.int .i64 0,.slice none 0 0])⟩]) rfl rfl rfl rfl hmx qK rfl qK (fun _ h=>List.mem_cons_of_mem _ h) (fun g o ho=>List.mem_cons_of_mem _ ho) qK ?_
 · exact JX.pnI (by rw[Z5n hnn,hz1];show cmpP e z1.1 z1.2=none;unfold cmpP;rw[hop];dsimp only;rw[hbad];rfl)
 refine yz (Z2 rfl) (yz (Zlo (cc:=(cmpO.getD i (em,0)).2) rfl rfl (ZmI qM)) ?_);refine yz (Z1J Z6 rfl) (yz (Z2 rfl) ?_);refine RT.biggP (Lq:=[⟨b3,Zb,.rep (ExR z1.1)⟩,⟨b2,Zb,.is (.agg #[.int .i64 0,.int .i64 0,.int .i64 0,.string ⟨#[]⟩,.string ⟨#[]⟩,.string ⟨#[]⟩,.int .i64 0,.slice none 0 0])⟩]) (Z87 rfl (hsum z1.2.tail (Z1h ((Z31 he _ _ hz1).1.trans hts)) (by have:=(ZG hit).2;have:=(Z31 he _ _ hz1).2;omega)) (.refl _) qF qA) (fun g=>?_);refine yz (Z6s ZB rfl rfl) ?_;apply yn;obtain⟨z,hg2⟩:=g;try dsimp only
 refine Jq (Zo rfl (Z3d (cmpO.getD i (em,0)).2 [z1.1,z.1]) qA) ?_;refine JO.m (Z4 rfl rfl qU qC qO Zc) (by rfl) ?_;refine vS [2] ?_;refine vR ?_;refine JX.toP ?_;exact JX.retLCs (Lr:=[_,_]) rfl (nd (cmpO.getD i (em,0)).2 [z1.1,z.1],z.2) (by rw[Z5n hnn,hz1];show cmpP e z1.1 z1.2=_;unfold cmpP;rw[hop];dsimp only;rw[hg2];rfl) (.refl _) rfl rfl hb0 rfl Z6 HasOwn.mem Z1S (Sub.refl _);apply yK
 repeat first|apply yX|apply yB
 rw[Z37 ht23];refine vQ ?_;refine Jq (Zv (cc:=((i+1:Nat):Int)) rfl rfl qM qM qM) ?_;refine Jm rfl ?_;apply yI
 repeat refine JX.normal_block ?_
 refine JX.roundG (x:=i) (i+1) ?_ ?_ [0,2,3,14,15,16] ?_ ?_ ?_ ?_
 · exact⟨by omega,by rw[<-hO,Z7Z (ops:=cmpO) (i:=i) (by show i<6;omega),if_neg (by rw[ht23];decide)]⟩
 · exact qM
 · exact qS
 · exact qH
 · exact qG
 · exact fun _ _ _=>fun _ _=>trivial
 try simp only[yd,yf]at ht17
 repeat apply yQ
 refine J.exit ?_
 repeat first|refine yH ?_|refine yM rfl ?_|refine yE ?_
 repeat first|apply yX|apply yB
 have hno:opOf 5 cmpO z1.2=none:=by rw[<-hO,List.drop_eq_nil_of_le (by show 6<=i;omega)];rfl
 refine vQ ?_;refine Jm rfl (JO.callK (Lr:=[_,_]) (ZZ T hc b z1.2 ((Z31 he _ _ hz1).1.trans hts) w_IS) rfl (.swap _ _ _) qF qA ?_);intro _ _;refine vD ?_;refine Jq (Z2e rfl) (vS [0,2,3,34] ?_);refine yC rfl (fun ht34=>?_) (fun ht34=>?_);have his:isT 1 w_IS z1.2=false:=by simpa using ht34
 rw[Z37 his];refine vQ ?_;refine Jq (Z1J Z6 rfl) (JO.m (Z4 rfl rfl qU qC qO Zc) (by rfl) ?_);refine vS [2] ?_;refine vR ?_;refine JX.toP ?_;exact JX.retLCs (Lr:=[_,_]) rfl (z1.1,z1.2) (by rw[Z5n hnn,hz1];show cmpP e z1.1 z1.2=_;unfold cmpP;rw[hno];dsimp only;rw[if_neg (by rw[his];decide)]) (.refl _) rfl rfl hb0 rfl Z6 HasOwn.mem Z1S (Sub.refl _);apply yK
 repeat first|apply yX|apply yB
 have his:isT 1 w_IS z1.2=true:=by simpa using ht34
 rw[Z2C his];refine vQ ?_;refine Jm rfl (JO.callK (Lr:=[_,_]) (ZZ T hc b z1.2.tail (Z1h ((Z31 he _ _ hz1).1.trans hts)) Z1c) rfl (.refl _) qF qA ?_);intro _ _;refine vD ?_;refine vS [0,2,3,37] ?_;refine yC rfl (fun ht37=>?_) (fun ht37=>?_);have hi2:isT 1 Z1c z1.2.tail=true:=ht37;rw[Z2C hi2];refine vQ ?_;refine Jm rfl ?_;refine JO.callPK (Lr:=[_,_]) (Z21 T hc b (z1.2.tail.tail) (Z1h (Z1h ((Z31 he _ _ hz1).1.trans hts))) Z1v (by decide+kernel) (by decide+kernel) (asc (by decide+kernel))) rfl (.refl _) qF qA (fun hbad=>?_) ?_
 · exact JX.pnI (by rw[Z5n hnn,hz1];show cmpP e z1.1 z1.2=none;unfold cmpP;rw[hno];dsimp only;rw[if_pos his,if_pos hi2,hbad];rfl)
 intro z2 hz2;refine vD ?_;refine vP [2,3] ?_;refine Jq (Z1J Z6 rfl) (Jq (Z2b ZB rfl) (Jq (Zo rfl (Z3d 19 [z1.1]) qA) ?_));refine JO.m (Z4 rfl rfl qU qC qO Zc) (by rfl) ?_;refine vS [2] ?_;refine vR ?_;refine JX.toP ?_;exact JX.retLCs (Lr:=[_,_]) rfl (nd 19 [z1.1],z2.2) (by rw[Z5n hnn,hz1];show cmpP e z1.1 z1.2=_;unfold cmpP;rw[hno];dsimp only;rw[if_pos his,if_pos hi2,hz2];rfl) (.refl _) rfl rfl hb0 rfl Z6 HasOwn.mem Z1S (Sub.refl _);apply yK
 repeat first|apply yX|apply yB
 have hi2:isT 1 Z1c z1.2.tail=false:=ht37;rw[Z37 hi2];refine vQ ?_;refine Jm rfl ?_;refine JO.callPK (Lr:=[_,_]) (Z21 T hc b (z1.2.tail) (Z1h ((Z31 he _ _ hz1).1.trans hts)) Z1v (by decide+kernel) (by decide+kernel) (asc (by decide+kernel))) rfl (.refl _) qF qA (fun hbad=>?_) ?_
 · exact JX.pnI (by rw[Z5n hnn,hz1];show cmpP e z1.1 z1.2=none;unfold cmpP;rw[hno];dsimp only;rw[if_pos his,if_neg (by rw[hi2];decide),hbad];rfl)
 intro z2 hz2;refine vD ?_;refine vP [2,3] ?_;refine Jq (Z1J Z6 rfl) (Jq (Z2b ZB rfl) (Jq (Zo rfl (Z3d 18 [z1.1]) qA) ?_));refine JO.m (Z4 rfl rfl qU qC qO Zc) (by rfl) ?_;refine vS [2] ?_;refine vR ?_;refine JX.toP ?_;exact JX.retLCs (Lr:=[_,_]) rfl (nd 18 [z1.1],z2.2) (by rw[Z5n hnn,hz1];show cmpP e z1.1 z1.2=_;unfold cmpP;rw[hno];dsimp only;rw[if_pos his,if_neg (by rw[hi2];decide),hz2];rfl) (.refl _) rfl rfl hb0 rfl Z6 HasOwn.mem Z1S (Sub.refl _)
theorem Z5N(T:Tk)(hc:T.ts.length<=T.cap)(b:Nat)(e:Ps Ex)(he:Dn0 e)(N:Nat)(hsum: ∀ts,ts<:+T.ts->ts.length<=N->CallP Tryz.prog Z3u [PB T b (ts)] [T.G,AF] [.is (.pointer (some ⟨b,0,none⟩))] (sumP e (ts)=none) flt (fun z:Ex×List T3=>sumP e (ts)=some z) (fun z=>[PB T b z.2]) (fun z=>.rep (ExR z.1))): ∀n ts,ts<:+T.ts->ts.length<=N->ts.length<=n->CallP Tryz.prog Z2u [PB T b (ts)] [T.G,AF] [.is (.pointer (some ⟨b,0,none⟩))] (notP e (ts)=none) flt (fun z:Ex×List T3=>notP e (ts)=some z) (fun z=>[PB T b z.2]) (fun z=>.rep (ExR z.1))
 |n,ts,hts,hN,hn=>Z6Y T hc b ts hts e he (fun us hus hl=>hsum us hus qM) fun us hus hl=>by
  cases n with
  |zero=>omega
  |succ n=>exact Z5N T hc b e he N hsum n us hus qM qM
theorem wantN{k:Int}{s:ByteArray}{ts:List T3}(h:isT k s ts=false):wantP k s ts=none:=by unfold wantP;rw[if_neg (by rw[h];decide)]
theorem wantY{k:Int}{s:ByteArray}{ts:List T3}(h:isT k s ts=true):wantP k s ts=some ((),ts.tail):=by unfold wantP;rw[if_pos h]
abbrev kvL:List (ByteArray×Value):=[(Z2E,.int .i64 20),(Z53,.int .i64 21),(Z5r,.int .i64 22),(Z5M,.int .i64 23)]
theorem ZaS{a b:ByteArray}(h:sq a b=true):a=b:=by
 cases a;cases b
 simpa [sq] using h
theorem Zgh{w:ByteArray}{q:Int}(h:aggK w=some q): ∃j,j<4/\kvL[j]? =some (w,.int .i64 q):=by
 unfold aggK at h
 split at h
 · rename_i e;injection h with h;subst h;have e:=ZaS e;subst e;exact⟨0,by decide,rfl⟩
 split at h
 · rename_i e;injection h with h;subst h;have e:=ZaS e;subst e;exact⟨1,by decide,rfl⟩
 split at h
 · rename_i e;injection h with h;subst h;have e:=ZaS e;subst e;exact⟨2,by decide,rfl⟩
 split at h
 · rename_i e;injection h with h;subst h;have e:=ZaS e;subst e;exact⟨3,by decide,rfl⟩
 · cases h
theorem Z6r:(kvL.map (·.1)).Nodup:=by decide
theorem Z71{a b:ByteArray}(h:seq a b=false): ¬sq a b=true:=by rw[<-Z1G,h];decide
theorem Z47{a b:ByteArray}(h:seq a b=true):sq a b=true:=by rw[<-Z1G];exact h
structure KwS where
 m:MapS
 z:Option (Ex×List T3)
abbrev KwS.x(s:KwS):Ex:=(s.z.getD (ex0,[])).1
def KwS.L(T:Tk)(b:Nat)(us:List T3)(Lr:List Own)(s:KwS):List Own:=PB T b (match s.z with|none=>us|some z=>z.2)::(mOwn s.m++Lr)
def KwS.T(b:Nat)(w:ByteArray)(q:Int)(s:KwS):Nat->Ty
 |0=>.is (.map s.m.mp)
 |5=>.is (.map s.m.mp)
 |6=>.is (.string w)
 |7=>.is (.int .i64 q)
 |8=>.is (.pointer (some ⟨b,0,none⟩))
 |9=>.rep (ExR s.x)
 |10=>.rep (ExsR [s.x])
 |_=>.any
structure KwS.inv (e:Ps Ex) (us:List T3) (s:KwS) (D:Array Bool):Prop where
 m:MInv kvL s.m fun j=>D.getD j false
 f:D.getD 5 false=true->∀j,j<5->D.getD j false=true
 z:D.getD 9 false=s.z.isSome
 r: ∀z,s.z=some z->e us=some z
 g:D.getD 10 false=true->D.getD 9 false=true
theorem ZdO{D:Array Bool}{i:Nat}(hi:i<D.size)(j:Nat):((fun j=>(D.setIfInBounds i true).getD j false) j=true)↔j=i\/((fun j=>D.getD j false) j=true):=Z2L hi
theorem Z49{D:Array Bool}{i j:Nat}(hi:i<D.size)(h:j≠i):(D.setIfInBounds i true).getD j false=D.getD j false:=by
 cases hq:D.getD j false with
 |true=>exact(Z2L hi).2 (.inr hq)
 |false=>
   cases hq':(D.setIfInBounds i true).getD j false with
   |false=>rfl
   | true => rcases(Z2L hi).1 hq' with e|e
             · exact absurd e h
             · rw[hq]at e;cases e
theorem KwS.inv.other{e:Ps Ex}{us:List T3}{s:KwS}{D:Array Bool}(h:s.inv e us D){i:Nat}(hs:i<D.size)(h4:4<i)(h9:i≠9)(h5:i=5->∀j,j<5->D.getD j false=true)(h10:i=10->D.getD 9 false=true):s.inv e us (D.setIfInBounds i true):=by
 refine⟨h.m.other h4 (ZdO hs),fun h1 j hj=>?_,by rw[Z49 hs (Ne.symm h9)];exact h.z,h.r,fun h1=>by
  rw[Z49 hs (Ne.symm h9)]
  by_cases hi:i=10
  · exact h10 hi
  · exact h.g (by rw[<-Z49 hs (Ne.symm hi)];exact h1)⟩
 rw[Z49 hs qM]
 by_cases hi:i=5
 · exact h5 hi j hj
 · exact h.f (by rw[<-Z49 hs (Ne.symm hi)];exact h1) j hj
theorem KwS.inv.make{e:Ps Ex}{us:List T3}{s:KwS}{D:Array Bool}(h:s.inv e us D)(hs:0<D.size)(h0:D.getD 0 false=false)(r:Nat):KwS.inv e us ⟨⟨some r,[],0⟩,s.z⟩ (D.setIfInBounds 0 true):=by
 refine⟨h.m.make h0 (ZdO hs) r,fun h1 j hj=>?_,by rw[Z49 hs qD];exact h.z,h.r,fun h1=>by rw[Z49 hs qD]at h1 ⊢;exact h.g h1⟩;rw[Z49 hs qD]at h1;have:=h.f h1 0 qD;rw[h0]at this;cases this
theorem KwS.inv.ins{e:Ps Ex}{us:List T3}{s:KwS}{D:Array Bool}(h:s.inv e us D){j:Nat}{kv:ByteArray×Value}(hs:j+1<D.size)(hj:kvL[j]? =some kv)(hj4:j<4)(h1:D.getD (j+1) false=false)(h0:D.getD 0 false=true):KwS.inv e us ⟨⟨s.m.mp,s.m.es++[(kv.1,kv.2,s.m.n)],s.m.n+1⟩,s.z⟩ (D.setIfInBounds (j+1) true):=by
 refine⟨h.m.ins hj h0 (ZdO hs),fun h2 k hk=>?_,by rw[Z49 hs qM];exact h.z,h.r,fun h3=>by rw[Z49 hs qM]at h3 ⊢;exact h.g h3⟩;rw[Z49 hs qM]at h2;have:=h.f h2 (j+1) qM;rw[h1]at this;cases this
theorem KwS.inv.call{e:Ps Ex}{us:List T3}{s:KwS}{D:Array Bool}(h:s.inv e us D)(hs:9<D.size){z:Ex×List T3}(hz:e us=some z):KwS.inv e us ⟨s.m,some z⟩ (D.setIfInBounds 9 true):=
 ⟨h.m.other qD (ZdO hs),fun h1 j hj=>by rw[Z49 hs qM];exact h.f (by rw[<-Z49 hs qD];exact h1) j hj,by rw[(Z2L hs).2 (.inl rfl)];rfl,fun y hy=>by injection hy with hy;subst hy;exact hz,fun _=>(Z2L hs).2 (.inl rfl)⟩
theorem aggY{w:ByteArray}(h:(seq w Z2E||(seq w Z53||(seq w Z5r||seq w Z5M)))=true): ∃q,aggK w=some q:=by
 simp only[Z1G]at h;unfold aggK
 repeat' split
 all_goals first|exact⟨_,rfl⟩|simp_all
theorem aggN{w:ByteArray}(h:(seq w Z2E||(seq w Z53||(seq w Z5r||seq w Z5M)))=false):aggK w=none:=by
 simp only[Z1G]at h;unfold aggK
 simp_all
theorem kwT0{b:Nat}{w:ByteArray}{q:Int}{m m':MapS}{zo:Option (Ex×List T3)}{D:Array Bool}(h5:D.getD 5 false=false)(hd:D.getD 0 false=false){j:Nat}(hj:D.getD j false=true):KwS.T b w q ⟨m',zo⟩ j=KwS.T b w q ⟨m,zo⟩ j:=by
 match j,hj with
 |0,hj=>rw[hd]at hj;cases hj
 |5,hj=>rw[h5]at hj;cases hj
 |1,_=>rfl
 |2,_=>rfl
 |3,_=>rfl
 |4,_=>rfl
 |6,_=>rfl
 |7,_=>rfl
 |8,_=>rfl
 |9,_=>rfl
 |10,_=>rfl
 |j+11,_=>rfl
theorem kwT9{b:Nat}{w:ByteArray}{q:Int}{m:MapS}{zo zo':Option (Ex×List T3)}{D:Array Bool}(h10:D.getD 10 false=false)(hd:D.getD 9 false=false){j:Nat}(hj:D.getD j false=true):KwS.T b w q ⟨m,zo'⟩ j=KwS.T b w q ⟨m,zo⟩ j:=by
 match j,hj with
 |9,hj=>rw[hd]at hj;cases hj
 |10,hj=>rw[h10]at hj;cases hj
 |0,_=>rfl
 |1,_=>rfl
 |2,_=>rfl
 |3,_=>rfl
 |4,_=>rfl
 |5,_=>rfl
 |6,_=>rfl
 |7,_=>rfl
 |8,_=>rfl
 |j+11,_=>rfl
theorem Z7a(T:Tk)(hc:T.ts.length<=T.cap)(b:Nat)(ts:List T3)(hts:ts<:+T.ts)(e:Ps Ex)(exprDn: ∀{us:List T3} {z:Ex×List T3},e us=some z->z.2<:+us)(hex: ∀us,us<:+T.ts->us.length<ts.length->CallP Tryz.prog Z1w [PB T b (us)] [T.G,AF] [.is (.pointer (some ⟨b,0,none⟩))] (e (us)=none) flt (fun z:Ex×List T3=>e (us)=some z) (fun z=>[PB T b z.2]) (fun z=>.rep (ExR z.1))):CallP Tryz.prog Z7b [PB T b ts] [T.G,AF] [.is (.pointer (some ⟨b,0,none⟩))] (kwP e ts=none) flt (fun z:Ex×List T3=>kwP e ts=some z) (fun z=>[PB T b z.2]) (fun z=>.rep (ExR z.1)):=
CallP.of (fn:=Tryz.f194) Tryz.func194 (n:=53) rfl rfl rfl (fun _ _=>by kernel_rfl) fun E W hb0=>by
 refine vQ ?_;refine JO.alloc ZT rfl fun b2=>(vP [0,2] ?_);refine Jm rfl ?_;refine JO.callPK (Lr:=[_]) (Z3l T hc b ts hts 1) rfl (.swap _ _ _) qF qA (fun hbad=>?_) ?_
 · exact JX.pnI (by unfold kwP;rw[hbad];rfl)
 rintro⟨⟨k1,w,n1⟩,r1⟩ hz1;refine vD ?_;refine Jq (Z4S (off:=1) qK rfl rfl) ?_;refine Ja rfl (vP [0,2,3] ?_);refine Jm rfl (vS [0,2,3,8] ?_);apply yk;refine vQ ?_;refine Jq (Z1L rfl rfl) (Ja rfl (vS [0,2,3,8,9] ?_));refine yC rfl (fun ht9=>?_) (fun ht9=>?_)
 try simp only[yd,yf]at ht9
 refine vQ ?_;refine Jq (Zg (cs:=[_,_,_]) Z2G (.cons rfl (.cons rfl .nil)) rfl rfl) (Jq (Zo rfl (Z3L 2 1 em) qA) ?_);refine JO.m (Z4 rfl rfl qU qC qO Zc) (by rfl) ?_;refine vS [2] ?_;refine vR ?_;refine JX.toP ?_;exact JX.retLCs (Lr:=[_]) rfl (lit 2 1 em,r1) (by unfold kwP;rw[hz1];simp only[Option.bind_some];rw[if_pos (Z47 ht9)]) (.refl _) rfl rfl hb0 rfl Z6 HasOwn.mem Z1S (Sub.refl _)
 try simp only[yd,yf]at ht9
 have hT:=Z71 ht9;refine vQ ?_;refine Jq (Z1L rfl rfl) (Ja rfl (vS [0,2,3,8,13] ?_));refine yC rfl (fun ht13=>?_) (fun ht13=>?_)
 try simp only[yd,yf]at ht13
 refine vQ ?_;refine Jq (Zg (cs:=[_,_,_]) Z2G (.cons rfl .nil) rfl rfl) (Jq (Zo rfl (Z3L 2 0 em) qA) ?_);refine JO.m (Z4 rfl rfl qU qC qO Zc) (by rfl) ?_;refine vS [2] ?_;refine vR ?_;refine JX.toP ?_;exact JX.retLCs (Lr:=[_]) rfl (lit 2 0 em,r1) (by unfold kwP;rw[hz1];simp only[Option.bind_some];rw[if_neg hT,if_pos (Z47 ht13)]) (.refl _) rfl rfl hb0 rfl Z6 HasOwn.mem Z1S (Sub.refl _)
 try simp only[yd,yf]at ht13
 have hF:=Z71 ht13;refine vQ ?_;refine Jq (Z1L rfl rfl) (Ja rfl (vS [0,2,3,8,17] ?_));refine yC rfl (fun ht17=>?_) (fun ht17=>?_)
 try simp only[yd,yf]at ht17
 refine vQ ?_;refine Jq (Zg (cs:=[_,_,_]) Z2G .nil rfl rfl) (Jq (Zo rfl (Z3L 0 0 em) qA) ?_);refine JO.m (Z4 rfl rfl qU qC qO Zc) (by rfl) ?_;refine vS [2] ?_;refine vR ?_;refine JX.toP ?_;exact JX.retLCs (Lr:=[_]) rfl (lit 0 0 em,r1) (by unfold kwP;rw[hz1];simp only[Option.bind_some];rw[if_neg hT,if_neg hF,if_pos (Z47 ht17)]) (.refl _) rfl rfl hb0 rfl Z6 HasOwn.mem Z1S (Sub.refl _)
 try simp only[yd,yf]at ht17
 have hN:=Z71 ht17;refine vQ ?_;refine Jq (Z1L rfl rfl) (Ja rfl (vS [0,2,3,8,21] ?_))
 first|apply J.or [0,2,3] rfl (.cons rfl (.cons rfl (.cons rfl .nil)))|apply J.orN [0,2,3] rfl qS
 · intro ht21
   refine vQ ?_;refine Jq (Z1L rfl rfl) (Ja rfl ?_);apply yI;refine JX.next ?_;apply J.orT [0,2,3] rfl qS
   · intro ht21
     refine vQ ?_;refine Jq (Z1L rfl rfl) (Ja rfl ?_);apply yI;refine JX.next ?_;apply J.orT [0,2,3] rfl qS
     · intro ht21
       refine vQ ?_;refine Jq (Z1L rfl rfl) (Ja rfl ?_);apply yI;exact JX.mids [21,0,2,3] qS
 repeat apply yQ
 refine yC rfl (fun ht21=>?_) (fun ht21=>?_)
 try simp only[yd,yf]at ht21
 obtain⟨q,hq⟩:=aggY ht21;refine vQ ?_;refine Jm rfl (Jm rfl (JO.callK (Lr:=[_]) (ZX T hc b r1 ((Z1N 1 _ _ hz1).1.trans hts) s_lp) rfl (.refl _) qF qA ?_));intro _ _;refine vD ?_;refine JO.callPK (Lr:=_) (ZP (.pointer (some ⟨b,0,none⟩)) (isT 5 s_lp r1)) rfl (Z3q _) Z3j qA (fun hbad=>?_) ?_
 · exact JX.pnI (by unfold kwP;rw[hz1];simp only[Option.bind_some];rw[if_neg hT,if_neg hF,if_neg hN,hq];dsimp only;rw[wantN hbad];rfl)
 intro _ hlp;refine vD ?_;refine vS [0,2,3] ?_;rw[Z2C hlp];refine vQ ?_;refine Jq (Ob.im (Zg (cs:=[_,_,_,_,_,_,_,_]) Z17 (.cons rfl .nil) rfl rfl) (Sub.leaf (k:=20) (vk:=0) (vn:=0) (vs:=em) (tb:=em) (nm:=em) (sl:=0))) (JO.alloc ZT rfl fun b4=>(JO.m (Z4 rfl rfl qU qC qO Zc) (by rfl) ?_));refine vS [0,2,3,4] ?_;rcases Bool.eq_false_or_eq_true (seq w Z2E)with hcnt|hcnt
 refine vQ ?_;refine Jm rfl (Jq (ZdY (cc:=false) rfl rfl (by rw[hcnt];rfl)) ?_);refine Jm rfl (JO.gd rfl rfl rfl (Jm rfl (JO.gd rfl rfl rfl (JO.callK (Lr:=[_,_]) (ZX T hc b r1.tail (Z1h ((Z1N 1 _ _ hz1).1.trans hts)) Z1g) rfl (.swap _ _ _) qF qA ?_))));intro _ _;refine vD ?_;refine JO.gd rfl rfl rfl (Jq (Z2e rfl) (Jq (ZiJ rfl rfl) (vS [0,2,3,4,37] ?_)));refine yC rfl (fun ht37=>?_) (fun ht37=>?_)
 try have hst:isT 5 Z1g r1.tail=false:=by simpa using ht37
 try rw[Z37 hst]
 refine J.has (L':=[PB T b r1.tail,⟨b4,Zb,.rep (ExR (nd 20 []))⟩,⟨b2,Zb,.is (.agg #[.int .i64 0,.int .i64 0,.int .i64 0,.string ⟨#[]⟩,.string ⟨#[]⟩,.string ⟨#[]⟩,.int .i64 0,.slice none 0 0])⟩]) (by repeat(first|exact .all|exact .nil|refine Has.cons (by repeat(first|exact .here|apply Pk.past|apply Pk.there)) ?_)) ?_
 repeat apply yQ
 refine J.regMach (Bad:=e r1.tail=none) (ch:=flt) 11 (KwS.L T b (r1.tail) [⟨b4,Zb,.rep (ExR (nd 20 []))⟩,⟨b2,Zb,.is (.agg #[.int .i64 0,.int .i64 0,.int .i64 0,.string ⟨#[]⟩,.string ⟨#[]⟩,.string ⟨#[]⟩,.int .i64 0,.slice none 0 0])⟩]) (KwS.T b w q) (KwS.inv e (r1.tail)) (fun i=>decide (i<5)||i==9) ⟨⟨none,[],0⟩,none⟩ rfl ?_ (fun hbad=>?_) hmx qK rfl qK ?_ ?_ ?_
 · exact⟨.start (fun j=>by rw[Array.getD_eq_getD_getElem?,Array.getElem?_replicate];split<;>rfl),(fun h=>by cases h),rfl,(fun z h=>by cases h),(fun h=>by cases h)⟩
 · exact JX.pnI (by first|(unfold kwP;rw[hz1];simp only[Option.bind_some];rw[if_neg hT,if_neg hF,if_neg hN,hq];dsimp only;rw[wantY hlp];simp only[Option.bind_some];rw[Z47 hcnt,hst];simp only[Bool.true_and,Bool.false_eq_true,if_false];rw[hbad];rfl)|(unfold kwP;rw[hz1];simp only[Option.bind_some];rw[if_neg hT,if_neg hF,if_neg hN,hq];dsimp only;rw[wantY hlp];simp only[Option.bind_some];rw[if_neg (by rw[Bool.and_eq_true];exact fun h=>Z71 hcnt h.1)];rw[hbad];rfl))
 · intro s D i o hs hinv hA hbg hd hr
   match i,hA,hbg,hd,hr with
   |0,_,hbg,_,_=>exact absurd hbg qD
   |1,_,hbg,_,_=>exact absurd hbg qD
   |2,_,hbg,_,_=>exact absurd hbg qD
   |3,_,hbg,_,_=>exact absurd hbg qD
   |4,_,hbg,_,_=>exact absurd hbg qD
   |5,hA,_,hd,hr=>
     obtain rfl:=Option.some.inj hA;have h9:=hinv.other (i:=5) qM qD qD (fun _ j hj=>by
       match j,hj with
       |0,_=>exact hr _ rfl ⟨0,.data⟩ (by simp) rfl
       |1,_=>exact hr _ rfl ⟨1,.data⟩ (by simp) rfl
       |2,_=>exact hr _ rfl ⟨2,.data⟩ (by simp) rfl
       |3,_=>exact hr _ rfl ⟨3,.data⟩ (by simp) rfl
       |4,_=>exact hr _ rfl ⟨4,.data⟩ (by simp) rfl) (fun h=>by cases h)
     exact⟨h9,rfl,(Z2 rfl)⟩
   |6,hA,_,hd,hr=>
     obtain rfl:=Option.some.inj hA;exact⟨hinv.other qM qD qD (fun h=>by cases h) (fun h=>by cases h),rfl,(Z2 rfl)⟩
   |7,hA,_,hd,hr=>
     obtain rfl:=Option.some.inj hA;have hall:=hinv.f (hr _ rfl ⟨5,.data⟩ (by simp) rfl);refine⟨hinv.other qM qD qD (fun h=>by cases h) (fun h=>by cases h),rfl,?_⟩;obtain⟨j,hj4,hj⟩:=Zgh hq;have hget:=hinv.m.get Z6r hj (hall (j+1) qM);obtain⟨r,hr0⟩:=hinv.m.some_ (hall 0 qD);obtain⟨⟨mp,es,n⟩,zo⟩:=s;dsimp only at hr0;subst hr0;exact Zgi Z1R Zd ZhH rfl rfl (List.mem_cons_of_mem _ List.mem_cons_self) (by dsimp only at hget;rw[hget];rfl)
   |8,hA,_,hd,hr=>
     obtain rfl:=Option.some.inj hA;exact⟨hinv.other qM qD qD (fun h=>by cases h) (fun h=>by cases h),rfl,(Z2 rfl)⟩
   |9,_,hbg,_,_=>exact absurd hbg qD
   |10,hA,_,hd,hr=>
     obtain rfl:=Option.some.inj hA;exact⟨hinv.other qM qD qD (fun h=>by cases h) (fun _=>hr _ rfl ⟨9,.data⟩ (by simp) rfl),rfl,(Z2b ZB rfl)⟩
   |i+11,hA,_,hd,hr=>simp at hA
 · intro s D i o hs hinv hA hbg hd hr
   match i,hA,hbg,hd,hr with
   |0,hA,_,hd,hr=>
     obtain rfl:=Option.some.inj hA;obtain⟨⟨mp,es,n⟩,zo⟩:=s;have hmp:mp=none:=by
       have:=hinv.m.a;dsimp only at this;rw[hd]at this;cases mp with
       |none=>rfl
       |some r=>cases this
     subst hmp;have h5:D.getD 5 false=false:=by
       cases h:D.getD 5 false with
       |false=>rfl
       |true=>have:=hinv.f h 0 qD;rw[hd]at this;cases this
     exact⟨rfl,.inl (Zdu.to (fun r=>⟨⟨⟨some r,[],0⟩,zo⟩,hinv.make qM hd r,fun j hj=>kwT0 h5 hd hj⟩) (fun _=>rfl) (fun _=>.swap _ _ _))⟩
   |1,hA,_,hd,hr=>
     obtain rfl:=Option.some.inj hA;obtain⟨⟨mp,es,n⟩,zo⟩:=s;obtain⟨r,hr0⟩:=hinv.m.some_ (hr _ rfl ⟨0,.data⟩ (by simp) rfl);dsimp only at hr0;subst hr0;have hg:=hinv.m.fresh Z6r (j:=0) rfl hd;have hi:=hinv.ins (j:=0) qM rfl qD hd (hr _ rfl ⟨0,.data⟩ (by simp) rfl);exact⟨rfl,.inl ((BigOb.ofM (Z2z Z1R Zd rfl rfl rfl hg (.there .here)) rfl).to (fun _=>⟨_,hi,fun j hj=>rfl⟩) (fun _=>rfl) (fun _=>.refl _))⟩
   |2,hA,_,hd,hr=>
     obtain rfl:=Option.some.inj hA;obtain⟨⟨mp,es,n⟩,zo⟩:=s;obtain⟨r,hr0⟩:=hinv.m.some_ (hr _ rfl ⟨0,.data⟩ (by simp) rfl);dsimp only at hr0;subst hr0;have hg:=hinv.m.fresh Z6r (j:=1) rfl hd;have hi:=hinv.ins (j:=1) qM rfl qD hd (hr _ rfl ⟨0,.data⟩ (by simp) rfl);exact⟨rfl,.inl ((BigOb.ofM (Z2z Z1R Zd rfl rfl rfl hg (.there .here)) rfl).to (fun _=>⟨_,hi,fun j hj=>rfl⟩) (fun _=>rfl) (fun _=>.refl _))⟩
   |3,hA,_,hd,hr=>
     obtain rfl:=Option.some.inj hA;obtain⟨⟨mp,es,n⟩,zo⟩:=s;obtain⟨r,hr0⟩:=hinv.m.some_ (hr _ rfl ⟨0,.data⟩ (by simp) rfl);dsimp only at hr0;subst hr0;have hg:=hinv.m.fresh Z6r (j:=2) rfl hd;have hi:=hinv.ins (j:=2) qM rfl qD hd (hr _ rfl ⟨0,.data⟩ (by simp) rfl);exact⟨rfl,.inl ((BigOb.ofM (Z2z Z1R Zd rfl rfl rfl hg (.there .here)) rfl).to (fun _=>⟨_,hi,fun j hj=>rfl⟩) (fun _=>rfl) (fun _=>.refl _))⟩
   |4,hA,_,hd,hr=>
     obtain rfl:=Option.some.inj hA;obtain⟨⟨mp,es,n⟩,zo⟩:=s;obtain⟨r,hr0⟩:=hinv.m.some_ (hr _ rfl ⟨0,.data⟩ (by simp) rfl);dsimp only at hr0;subst hr0;have hg:=hinv.m.fresh Z6r (j:=3) rfl hd;have hi:=hinv.ins (j:=3) qM rfl qD hd (hr _ rfl ⟨0,.data⟩ (by simp) rfl);exact⟨rfl,.inl ((BigOb.ofM (Z2z Z1R Zd rfl rfl rfl hg (.there .here)) rfl).to (fun _=>⟨_,hi,fun j hj=>rfl⟩) (fun _=>rfl) (fun _=>.refl _))⟩
   |5,_,hbg,_,_=>exact absurd hbg qD
   |6,_,hbg,_,_=>exact absurd hbg qD
   |7,_,hbg,_,_=>exact absurd hbg qD
   |8,_,hbg,_,_=>exact absurd hbg qD
   |9,hA,_,hd,hr=>
     obtain rfl:=Option.some.inj hA;obtain⟨m,zo⟩:=s;have hzo:zo=none:=by
       have:=hinv.z;dsimp only at this;rw[hd]at this;cases zo with
       |none=>rfl
       |some r=>cases this
     subst hzo;have h10:D.getD 10 false=false:=by
       cases h:D.getD 10 false with
       |false=>rfl
       |true=>have:=hinv.g h;rw[hd]at this;cases this
     exact⟨rfl,.inr ((Z87 rfl (hex r1.tail (Z1h ((Z1N 1 _ _ hz1).1.trans hts)) (by have:=(ZG hlp).2;have h1:r1.length<ts.length:=(Z1N 1 _ _ hz1).2;omega)) (.refl _) qF qA).to (fun z=>⟨⟨m,some z.1⟩,hinv.call qM z.2,fun j hj=>kwT9 h10 hd hj⟩) (fun _=>rfl) (fun _=>.refl _))⟩
   |10,_,hbg,_,_=>exact absurd hbg qD
   |i+11,hA,_,hd,hr=>simp at hA
 intro s D hs hall hinv;obtain⟨⟨mp,es,n⟩,zo⟩:=s;obtain⟨r,hr0⟩:=hinv.m.some_ (hall 0 qD);dsimp only at hr0;subst hr0;have hzz:=hinv.z;rw[hall 9 qD]at hzz;obtain⟨z,hzo⟩:=Option.isSome_iff_exists.1 hzz.symm;dsimp only at hzo;subst hzo;have hzr:e (r1.tail)=some z:=hinv.r z rfl;refine JO.subL (L':=[PB T b z.2]++(⟨r,0,.ob (sObj es n)⟩::[⟨b4,Zb,.rep (ExR (nd 20 []))⟩,⟨b2,Zb,.is (.agg #[.int .i64 0,.int .i64 0,.int .i64 0,.string ⟨#[]⟩,.string ⟨#[]⟩,.string ⟨#[]⟩,.int .i64 0,.slice none 0 0])⟩])) (.refl _) (vD ?_);refine Jq (Zo rfl (Z3d q [z.1]) qA) ?_;refine JO.m (Z4 rfl rfl qU qC qO Zc) (by rfl) ?_;refine vS [0,2,4] ?_
 first|(refine J.has (L':=[PB T b z.2,⟨b4,Zb,.rep (ExR (nd q [z.1]))⟩,⟨b2,Zb,.is (.agg #[.int .i64 0,.int .i64 0,.int .i64 0,.string ⟨#[]⟩,.string ⟨#[]⟩,.string ⟨#[]⟩,.int .i64 0,.slice none 0 0])⟩]) (by repeat(first|exact .all|exact .nil|refine Has.cons (by repeat(first|exact .here|apply Pk.past|apply Pk.there)) ?_)) ?_;have husx:=(exprDn hzr).trans (Z1h ((Z1N 1 _ _ hz1).1.trans hts)))|(have hst:isT 5 Z1g r1.tail=true:=(by simpa using ht37);rw[Z2C hst];have husx:=Z1h (Z1h ((Z1N 1 _ _ hz1).1.trans hts)))
 refine vQ ?_;refine Jm rfl (Jm rfl (JO.callK (Lr:=[_,_]) (ZX T hc b _ husx s_rp) rfl (.refl _) qF qA ?_));intro _ _;refine vD ?_;refine JO.callPK (Lr:=_) (ZP (.pointer (some ⟨b,0,none⟩)) (isT 5 s_rp _)) rfl (Z3q _) Z3j qA (fun hbad=>?_) ?_
 · exact JX.pnI (by first|(unfold kwP;rw[hz1];simp only[Option.bind_some];rw[if_neg hT,if_neg hF,if_neg hN,hq];dsimp only;rw[wantY hlp];simp only[Option.bind_some];rw[Z47 hcnt,hst];simp only[Bool.true_and,if_true];rw[wantN hbad];rfl)|(first|(unfold kwP;rw[hz1];simp only[Option.bind_some];rw[if_neg hT,if_neg hF,if_neg hN,hq];dsimp only;rw[wantY hlp];simp only[Option.bind_some];rw[Z47 hcnt,hst];simp only[Bool.true_and,Bool.false_eq_true,if_false];rw[hzr];simp only[Option.bind_some];rw[wantN hbad];rfl)|(unfold kwP;rw[hz1];simp only[Option.bind_some];rw[if_neg hT,if_neg hF,if_neg hN,hq];dsimp only;rw[wantY hlp];simp only[Option.bind_some];rw[if_neg (by rw[Bool.and_eq_true];exact fun h=>Z71 hcnt h.1)];rw[hzr];simp only[Option.bind_some];rw[wantN hbad];rfl)))
 intro _ hrp;refine vD ?_;refine vS [2,4] ?_;rw[Z2C hrp];refine vQ ?_;refine Jq (Z1J Z6 rfl) (JO.m (Z4 rfl rfl qU qC qO Zc) (by rfl) ?_);refine vS [2] ?_;refine vR ?_;refine JX.toP ?_;exact JX.retLCs (Lr:=[_,_]) rfl (nd q [z.1],z.2.tail) (by unfold kwP;rw[hz1];simp only[Option.bind_some];rw[if_neg hT,if_neg hF,if_neg hN,hq];dsimp only;rw[wantY hlp];simp only[Option.bind_some];rw[Z47 hcnt,hst];simp only[Bool.true_and,Bool.false_eq_true,if_false];rw[hzr];simp only[Option.bind_some];rw[wantY hrp];rfl) (.refl _) rfl rfl hb0 rfl Z6 HasOwn.mem Z1S (Sub.refl _);apply yK
 repeat first|apply yX|apply yB
 first|(refine J.has (L':=[PB T b z.2,⟨b4,Zb,.rep (ExR (nd q [z.1]))⟩,⟨b2,Zb,.is (.agg #[.int .i64 0,.int .i64 0,.int .i64 0,.string ⟨#[]⟩,.string ⟨#[]⟩,.string ⟨#[]⟩,.int .i64 0,.slice none 0 0])⟩]) (by repeat(first|exact .all|exact .nil|refine Has.cons (by repeat(first|exact .here|apply Pk.past|apply Pk.there)) ?_)) ?_;have husx:=(exprDn hzr).trans (Z1h ((Z1N 1 _ _ hz1).1.trans hts)))|(have hst:isT 5 Z1g r1.tail=true:=(by simpa using ht37);rw[Z2C hst];have husx:=Z1h (Z1h ((Z1N 1 _ _ hz1).1.trans hts)))
 refine vQ ?_;refine Jm rfl (Jm rfl (JO.callK (Lr:=[_,_]) (ZX T hc b _ husx s_rp) rfl (.refl _) qF qA ?_));intro _ _;refine vD ?_;refine JO.callPK (Lr:=_) (ZP (.pointer (some ⟨b,0,none⟩)) (isT 5 s_rp _)) rfl (Z3q _) Z3j qA (fun hbad=>?_) ?_
 · exact JX.pnI (by first|(unfold kwP;rw[hz1];simp only[Option.bind_some];rw[if_neg hT,if_neg hF,if_neg hN,hq];dsimp only;rw[wantY hlp];simp only[Option.bind_some];rw[Z47 hcnt,hst];simp only[Bool.true_and,if_true];rw[wantN hbad];rfl)|(first|(unfold kwP;rw[hz1];simp only[Option.bind_some];rw[if_neg hT,if_neg hF,if_neg hN,hq];dsimp only;rw[wantY hlp];simp only[Option.bind_some];rw[Z47 hcnt,hst];simp only[Bool.true_and,Bool.false_eq_true,if_false];rw[hzr];simp only[Option.bind_some];rw[wantN hbad];rfl)|(unfold kwP;rw[hz1];simp only[Option.bind_some];rw[if_neg hT,if_neg hF,if_neg hN,hq];dsimp only;rw[wantY hlp];simp only[Option.bind_some];rw[if_neg (by rw[Bool.and_eq_true];exact fun h=>Z71 hcnt h.1)];rw[hzr];simp only[Option.bind_some];rw[wantN hbad];rfl)))
 intro _ hrp;refine vD ?_;refine vS [2,4] ?_;rw[Z2C hrp];refine vQ ?_;refine Jq (Z1J Z6 rfl) (JO.m (Z4 rfl rfl qU qC qO Zc) (by rfl) ?_);refine vS [2] ?_;refine vR ?_;refine JX.toP ?_;exact JX.retLCs (Lr:=[_,_]) rfl (nd 20 [],r1.tail.tail.tail) (by unfold kwP;rw[hz1];simp only[Option.bind_some];rw[if_neg hT,if_neg hF,if_neg hN,hq];dsimp only;rw[wantY hlp];simp only[Option.bind_some];rw[Z47 hcnt,hst];simp only[Bool.true_and,if_true];rw[wantY hrp];rfl) (.refl _) rfl rfl hb0 rfl Z6 HasOwn.mem Z1S (Sub.refl _);refine vQ ?_;refine Jm rfl (Jq (ZdY (cc:=true) rfl rfl (by rw[hcnt];rfl)) ?_);refine Jm rfl (JO.gn rfl rfl rfl rfl rfl (JO.gn rfl rfl rfl rfl rfl (JO.gn rfl rfl rfl rfl rfl (Jq (ZiR rfl rfl) (vS [0,2,3,4,37] ?_)))));refine yC rfl (fun ht37=>?_) (fun ht37=>?_)
 try simp only[yd,yf]at ht37
 try have hst:isT 5 Z1g r1.tail=false:=by simpa using ht37
 refine J.has (L':=[PB T b r1.tail,⟨b4,Zb,.rep (ExR (nd 20 []))⟩,⟨b2,Zb,.is (.agg #[.int .i64 0,.int .i64 0,.int .i64 0,.string ⟨#[]⟩,.string ⟨#[]⟩,.string ⟨#[]⟩,.int .i64 0,.slice none 0 0])⟩]) (by repeat(first|exact .all|exact .nil|refine Has.cons (by repeat(first|exact .here|apply Pk.past|apply Pk.there)) ?_)) ?_
 repeat apply yQ
 refine J.regMach (Bad:=e r1.tail=none) (ch:=flt) 11 (KwS.L T b (r1.tail) [⟨b4,Zb,.rep (ExR (nd 20 []))⟩,⟨b2,Zb,.is (.agg #[.int .i64 0,.int .i64 0,.int .i64 0,.string ⟨#[]⟩,.string ⟨#[]⟩,.string ⟨#[]⟩,.int .i64 0,.slice none 0 0])⟩]) (KwS.T b w q) (KwS.inv e (r1.tail)) (fun i=>decide (i<5)||i==9) ⟨⟨none,[],0⟩,none⟩ rfl ?_ (fun hbad=>?_) hmx qK rfl qK ?_ ?_ ?_
 · exact⟨.start (fun j=>by rw[Array.getD_eq_getD_getElem?,Array.getElem?_replicate];split<;>rfl),(fun h=>by cases h),rfl,(fun z h=>by cases h),(fun h=>by cases h)⟩
 · exact JX.pnI (by first|(unfold kwP;rw[hz1];simp only[Option.bind_some];rw[if_neg hT,if_neg hF,if_neg hN,hq];dsimp only;rw[wantY hlp];simp only[Option.bind_some];rw[Z47 hcnt,hst];simp only[Bool.true_and,Bool.false_eq_true,if_false];rw[hbad];rfl)|(unfold kwP;rw[hz1];simp only[Option.bind_some];rw[if_neg hT,if_neg hF,if_neg hN,hq];dsimp only;rw[wantY hlp];simp only[Option.bind_some];rw[if_neg (by rw[Bool.and_eq_true];exact fun h=>Z71 hcnt h.1)];rw[hbad];rfl))
 · intro s D i o hs hinv hA hbg hd hr
   match i,hA,hbg,hd,hr with
   |0,_,hbg,_,_=>exact absurd hbg qD
   |1,_,hbg,_,_=>exact absurd hbg qD
   |2,_,hbg,_,_=>exact absurd hbg qD
   |3,_,hbg,_,_=>exact absurd hbg qD
   |4,_,hbg,_,_=>exact absurd hbg qD
   |5,hA,_,hd,hr=>
     obtain rfl:=Option.some.inj hA;have h9:=hinv.other (i:=5) qM qD qD (fun _ j hj=>by
       match j,hj with
       |0,_=>exact hr _ rfl ⟨0,.data⟩ (by simp) rfl
       |1,_=>exact hr _ rfl ⟨1,.data⟩ (by simp) rfl
       |2,_=>exact hr _ rfl ⟨2,.data⟩ (by simp) rfl
       |3,_=>exact hr _ rfl ⟨3,.data⟩ (by simp) rfl
       |4,_=>exact hr _ rfl ⟨4,.data⟩ (by simp) rfl) (fun h=>by cases h)
     exact⟨h9,rfl,(Z2 rfl)⟩
   |6,hA,_,hd,hr=>
     obtain rfl:=Option.some.inj hA;exact⟨hinv.other qM qD qD (fun h=>by cases h) (fun h=>by cases h),rfl,(Z2 rfl)⟩
   |7,hA,_,hd,hr=>
     obtain rfl:=Option.some.inj hA;have hall:=hinv.f (hr _ rfl ⟨5,.data⟩ (by simp) rfl);refine⟨hinv.other qM qD qD (fun h=>by cases h) (fun h=>by cases h),rfl,?_⟩;obtain⟨j,hj4,hj⟩:=Zgh hq;have hget:=hinv.m.get Z6r hj (hall (j+1) qM);obtain⟨r,hr0⟩:=hinv.m.some_ (hall 0 qD);obtain⟨⟨mp,es,n⟩,zo⟩:=s;dsimp only at hr0;subst hr0;exact Zgi Z1R Zd ZhH rfl rfl (List.mem_cons_of_mem _ List.mem_cons_self) (by dsimp only at hget;rw[hget];rfl)
   |8,hA,_,hd,hr=>
     obtain rfl:=Option.some.inj hA;exact⟨hinv.other qM qD qD (fun h=>by cases h) (fun h=>by cases h),rfl,(Z2 rfl)⟩
   |9,_,hbg,_,_=>exact absurd hbg qD
   |10,hA,_,hd,hr=>
     obtain rfl:=Option.some.inj hA;exact⟨hinv.other qM qD qD (fun h=>by cases h) (fun _=>hr _ rfl ⟨9,.data⟩ (by simp) rfl),rfl,(Z2b ZB rfl)⟩
   |i+11,hA,_,hd,hr=>simp at hA
 · intro s D i o hs hinv hA hbg hd hr
   match i,hA,hbg,hd,hr with
   |0,hA,_,hd,hr=>
     obtain rfl:=Option.some.inj hA;obtain⟨⟨mp,es,n⟩,zo⟩:=s;have hmp:mp=none:=by
       have:=hinv.m.a;dsimp only at this;rw[hd]at this;cases mp with
       |none=>rfl
       |some r=>cases this
     subst hmp;have h5:D.getD 5 false=false:=by
       cases h:D.getD 5 false with
       |false=>rfl
       |true=>have:=hinv.f h 0 qD;rw[hd]at this;cases this
     exact⟨rfl,.inl (Zdu.to (fun r=>⟨⟨⟨some r,[],0⟩,zo⟩,hinv.make qM hd r,fun j hj=>kwT0 h5 hd hj⟩) (fun _=>rfl) (fun _=>.swap _ _ _))⟩
   |1,hA,_,hd,hr=>
     obtain rfl:=Option.some.inj hA;obtain⟨⟨mp,es,n⟩,zo⟩:=s;obtain⟨r,hr0⟩:=hinv.m.some_ (hr _ rfl ⟨0,.data⟩ (by simp) rfl);dsimp only at hr0;subst hr0;have hg:=hinv.m.fresh Z6r (j:=0) rfl hd;have hi:=hinv.ins (j:=0) qM rfl qD hd (hr _ rfl ⟨0,.data⟩ (by simp) rfl);exact⟨rfl,.inl ((BigOb.ofM (Z2z Z1R Zd rfl rfl rfl hg (.there .here)) rfl).to (fun _=>⟨_,hi,fun j hj=>rfl⟩) (fun _=>rfl) (fun _=>.refl _))⟩
   |2,hA,_,hd,hr=>
     obtain rfl:=Option.some.inj hA;obtain⟨⟨mp,es,n⟩,zo⟩:=s;obtain⟨r,hr0⟩:=hinv.m.some_ (hr _ rfl ⟨0,.data⟩ (by simp) rfl);dsimp only at hr0;subst hr0;have hg:=hinv.m.fresh Z6r (j:=1) rfl hd;have hi:=hinv.ins (j:=1) qM rfl qD hd (hr _ rfl ⟨0,.data⟩ (by simp) rfl);exact⟨rfl,.inl ((BigOb.ofM (Z2z Z1R Zd rfl rfl rfl hg (.there .here)) rfl).to (fun _=>⟨_,hi,fun j hj=>rfl⟩) (fun _=>rfl) (fun _=>.refl _))⟩
   |3,hA,_,hd,hr=>
     obtain rfl:=Option.some.inj hA;obtain⟨⟨mp,es,n⟩,zo⟩:=s;obtain⟨r,hr0⟩:=hinv.m.some_ (hr _ rfl ⟨0,.data⟩ (by simp) rfl);dsimp only at hr0;subst hr0;have hg:=hinv.m.fresh Z6r (j:=2) rfl hd;have hi:=hinv.ins (j:=2) qM rfl qD hd (hr _ rfl ⟨0,.data⟩ (by simp) rfl);exact⟨rfl,.inl ((BigOb.ofM (Z2z Z1R Zd rfl rfl rfl hg (.there .here)) rfl).to (fun _=>⟨_,hi,fun j hj=>rfl⟩) (fun _=>rfl) (fun _=>.refl _))⟩
   |4,hA,_,hd,hr=>
     obtain rfl:=Option.some.inj hA;obtain⟨⟨mp,es,n⟩,zo⟩:=s;obtain⟨r,hr0⟩:=hinv.m.some_ (hr _ rfl ⟨0,.data⟩ (by simp) rfl);dsimp only at hr0;subst hr0;have hg:=hinv.m.fresh Z6r (j:=3) rfl hd;have hi:=hinv.ins (j:=3) qM rfl qD hd (hr _ rfl ⟨0,.data⟩ (by simp) rfl);exact⟨rfl,.inl ((BigOb.ofM (Z2z Z1R Zd rfl rfl rfl hg (.there .here)) rfl).to (fun _=>⟨_,hi,fun j hj=>rfl⟩) (fun _=>rfl) (fun _=>.refl _))⟩
   |5,_,hbg,_,_=>exact absurd hbg qD
   |6,_,hbg,_,_=>exact absurd hbg qD
   |7,_,hbg,_,_=>exact absurd hbg qD
   |8,_,hbg,_,_=>exact absurd hbg qD
   |9,hA,_,hd,hr=>
     obtain rfl:=Option.some.inj hA;obtain⟨m,zo⟩:=s;have hzo:zo=none:=by
       have:=hinv.z;dsimp only at this;rw[hd]at this;cases zo with
       |none=>rfl
       |some r=>cases this
     subst hzo;have h10:D.getD 10 false=false:=by
       cases h:D.getD 10 false with
       |false=>rfl
       |true=>have:=hinv.g h;rw[hd]at this;cases this
     exact⟨rfl,.inr ((Z87 rfl (hex r1.tail (Z1h ((Z1N 1 _ _ hz1).1.trans hts)) (by have:=(ZG hlp).2;have h1:r1.length<ts.length:=(Z1N 1 _ _ hz1).2;omega)) (.refl _) qF qA).to (fun z=>⟨⟨m,some z.1⟩,hinv.call qM z.2,fun j hj=>kwT9 h10 hd hj⟩) (fun _=>rfl) (fun _=>.refl _))⟩
   |10,_,hbg,_,_=>exact absurd hbg qD
   |i+11,hA,_,hd,hr=>simp at hA
 intro s D hs hall hinv;obtain⟨⟨mp,es,n⟩,zo⟩:=s;obtain⟨r,hr0⟩:=hinv.m.some_ (hall 0 qD);dsimp only at hr0;subst hr0;have hzz:=hinv.z;rw[hall 9 qD]at hzz;obtain⟨z,hzo⟩:=Option.isSome_iff_exists.1 hzz.symm;dsimp only at hzo;subst hzo;have hzr:e (r1.tail)=some z:=hinv.r z rfl;refine JO.subL (L':=[PB T b z.2]++(⟨r,0,.ob (sObj es n)⟩::[⟨b4,Zb,.rep (ExR (nd 20 []))⟩,⟨b2,Zb,.is (.agg #[.int .i64 0,.int .i64 0,.int .i64 0,.string ⟨#[]⟩,.string ⟨#[]⟩,.string ⟨#[]⟩,.int .i64 0,.slice none 0 0])⟩])) (.refl _) (vD ?_);refine Jq (Zo rfl (Z3d q [z.1]) qA) ?_;refine JO.m (Z4 rfl rfl qU qC qO Zc) (by rfl) ?_;refine vS [0,2,4] ?_
 first|(refine J.has (L':=[PB T b z.2,⟨b4,Zb,.rep (ExR (nd q [z.1]))⟩,⟨b2,Zb,.is (.agg #[.int .i64 0,.int .i64 0,.int .i64 0,.string ⟨#[]⟩,.string ⟨#[]⟩,.string ⟨#[]⟩,.int .i64 0,.slice none 0 0])⟩]) (by repeat(first|exact .all|exact .nil|refine Has.cons (by repeat(first|exact .here|apply Pk.past|apply Pk.there)) ?_)) ?_;have husx:=(exprDn hzr).trans (Z1h ((Z1N 1 _ _ hz1).1.trans hts)))|(have hst:isT 5 Z1g r1.tail=true:=(by simpa using ht37);rw[Z2C hst];have husx:=Z1h (Z1h ((Z1N 1 _ _ hz1).1.trans hts)))
 refine vQ ?_;refine Jm rfl (Jm rfl (JO.callK (Lr:=[_,_]) (ZX T hc b _ husx s_rp) rfl (.refl _) qF qA ?_));intro _ _;refine vD ?_;refine JO.callPK (Lr:=_) (ZP (.pointer (some ⟨b,0,none⟩)) (isT 5 s_rp _)) rfl (Z3q _) Z3j qA (fun hbad=>?_) ?_
 · exact JX.pnI (by first|(unfold kwP;rw[hz1];simp only[Option.bind_some];rw[if_neg hT,if_neg hF,if_neg hN,hq];dsimp only;rw[wantY hlp];simp only[Option.bind_some];rw[Z47 hcnt,hst];simp only[Bool.true_and,if_true];rw[wantN hbad];rfl)|(first|(unfold kwP;rw[hz1];simp only[Option.bind_some];rw[if_neg hT,if_neg hF,if_neg hN,hq];dsimp only;rw[wantY hlp];simp only[Option.bind_some];rw[Z47 hcnt,hst];simp only[Bool.true_and,Bool.false_eq_true,if_false];rw[hzr];simp only[Option.bind_some];rw[wantN hbad];rfl)|(unfold kwP;rw[hz1];simp only[Option.bind_some];rw[if_neg hT,if_neg hF,if_neg hN,hq];dsimp only;rw[wantY hlp];simp only[Option.bind_some];rw[if_neg (by rw[Bool.and_eq_true];exact fun h=>Z71 hcnt h.1)];rw[hzr];simp only[Option.bind_some];rw[wantN hbad];rfl)))
 intro _ hrp;refine vD ?_;refine vS [2,4] ?_;rw[Z2C hrp];refine vQ ?_;refine Jq (Z1J Z6 rfl) (JO.m (Z4 rfl rfl qU qC qO Zc) (by rfl) ?_);refine vS [2] ?_;refine vR ?_;refine JX.toP ?_;exact JX.retLCs (Lr:=[_,_]) rfl (nd q [z.1],z.2.tail) (by unfold kwP;rw[hz1];simp only[Option.bind_some];rw[if_neg hT,if_neg hF,if_neg hN,hq];dsimp only;rw[wantY hlp];simp only[Option.bind_some];rw[if_neg (by rw[Bool.and_eq_true];exact fun h=>Z71 hcnt h.1)];rw[hzr];simp only[Option.bind_some];rw[wantY hrp];rfl) (.refl _) rfl rfl hb0 rfl Z6 HasOwn.mem Z1S (Sub.refl _)
 exfalso
 cases ht37
 try simp only[yd,yf]at ht21
 apply yK;refine vN ?_;apply yN;refine Jq (Zg (cs:=[]) Z8V .nil rfl rfl) (Jq (Zf0 (d:=.struct #[]) qK rfl rfl) ?_);refine JO.pan rfl ?_;exact JX.pnI (by unfold kwP;rw[hz1];simp only[Option.bind_some];rw[if_neg hT,if_neg hF,if_neg hN,aggN ht21])
end Go.Proofs.YtbedigkncjbggaaGreatDoor
