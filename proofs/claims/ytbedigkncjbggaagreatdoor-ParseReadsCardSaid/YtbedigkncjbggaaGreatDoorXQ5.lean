/- The parser: updates. No condition. -/
import Derived.Test.YtbedigkncjbggaaGreatDoorXQ4
import Derived.Test.YtbedigkncjbggaaGreatDoorXQ1
set_option maxRecDepth 20000
namespace Go.Proofs.YtbedigkncjbggaaGreatDoor
open Go Go.Vc
open Go.Pz
def pcE:Enc (ByteArray×Cel exE) where
 sz:=1
 R x cs w:=cs=[.string x.1]/\CelR x.2 w
 v:=hdv
 pos:=by decide
 len:=by rintro x cs w ⟨rfl,_⟩;rfl
 one:=by rintro x cs w ⟨rfl,_⟩ u hu;rw[List.mem_singleton.1 hu];rfl
 nu:=by rintro x cs w ⟨rfl,_⟩;exact⟨_,rfl,by simp[undef]⟩
 inj:=Zbh
theorem Zg6:pcE.flat:=fun p=>Zat p.h p.o
abbrev pcX(z:ByteArray×Cel exE):ByteArray×Ex:=(z.1,z.2.x)
theorem ZfU{G:GoS}{xs:List (ByteArray×Cel exE)}{v:Value}{w:World}(h:SlE pcE G xs v w):SlE stE G ((xs.map pcX).map (·.1)) v w:=by
 obtain⟨ps,a,len,cap,hm,hv,hlc,hR,hF,hG⟩:=h
 let f:Cel pcE->Cel stE:=fun p=>⟨p.x.1,p.cs,p.h,p.o⟩
 refine⟨ps.map f,a,len,cap,?_,hv,hlc,⟨by rw[List.length_map];exact hR.1,fun hn=>?_⟩,fun q hq=>?_,hG⟩
 · rw[<-hm,List.map_map,List.map_map,List.map_map];rfl
 · obtain⟨b,o,ha,hr⟩:=hR.2 hn
   refine⟨b,o,ha,fun i q hq=>?_⟩;rw[List.getElem?_map]at hq;obtain⟨p,hp,rfl⟩:=Option.map_eq_some_iff.1 hq;exact hr i p hp
 · obtain⟨p,hp,rfl⟩:=List.mem_map.1 hq
   exact(hF p hp).1
theorem ZgZ{G:GoS}{xs:List (ByteArray×Cel exE)}{v:Value}{w:World}(h:SlE pcE G xs v w):CelF exE (xs.map (·.2)) w:=by
 obtain⟨ps,a,len,cap,hm,hv,hlc,hR,hF,hG⟩:=h;intro p hp;rw[<-hm]at hp;obtain⟨x,hx,rfl⟩:=List.mem_map.1 hp;obtain⟨q,hq,rfl⟩:=List.mem_map.1 hx;exact(hF q hq).2
theorem Sub.pcT{L:List Own}{Φ:List (World->Prop)}{n:ByteArray}{p:Cel exE}(hF:CelR p∈Φ):Sub L Φ (.is (.string n)) (.rep (pcE.T (n,p))):=fun X v w hf e=>by
 rw[show v=_ from e];exact fun w' hk=>⟨[.string n],rfl,rfl,hf.2 _ hF w' hk⟩
def p0E:Cel exE:=⟨ex0,exCells 0 0 0 em em em 0 none 0 0,rfl,by
 intro u hu;simp only[exCells,List.mem_cons,List.mem_nil_iff,or_false]at hu;rcases hu with rfl|rfl|rfl|rfl|rfl|rfl|rfl|rfl<;>rfl⟩
abbrev UpS:=List (Cel exE)×Option (Nat×List Value)×Nat
abbrev upX(nm:ByteArray)(b3:Nat)(s:UpS):List Own:=⟨b3,Z3,.is (.agg #[.int .i64 5,.string nm,.string ⟨#[]⟩,.slice none 0 0,.slice none 0 0,.slice none 0 0,.slice none 0 0,.slice none 0 0,.slice none 0 0,.slice none 0 0,.slice none 0 0,.int .i64 (-1),sliceO s.2.1 s.1.length s.2.2,.bool false])⟩::ownO s.2.1 Z7 []
def upI(s:UpS)(l:List (ByteArray×Cel exE)):Prop:=s.1=l.map (·.2)/\Grows Cel.cs 8 s.1 s.2.1 s.2.2
structure UpM where
 z:Option ((Ex×List T3)×Cel exE)
 ap:Option (Nat×List Value×Nat)
 e8:Bool
 e10:Bool
abbrev UpM.p(s:UpM):Cel exE:=match s.z with|none=>p0E|some z=>z.2
def UpM.cur(ps:List (Cel exE))(st:Option (Nat×List Value))(s:UpM):Option (Nat×List Value):=match s.ap with|none=>st|some a=>some (a.1,if s.e8=true then splice a.2.1 (ps.length*8) s.p.cs else a.2.1)
abbrev apV(ps:List (Cel exE)):Option (Nat×List Value×Nat)->Value
 |none=>.slice none 0 0
 |some a=>.slice (some ⟨a.1,0,none⟩) (ps.length+1) a.2.2
def UpM.fld(ps:List (Cel exE))(st:Option (Nat×List Value))(cap:Nat)(s:UpM):Value:=if s.e10=true then apV ps s.ap else sliceO st ps.length cap
abbrev upB(nm:ByteArray)(b3:Nat)(v:Value):Own:=⟨b3,Z3,.is (.agg #[.int .i64 5,.string nm,.string ⟨#[]⟩,.slice none 0 0,.slice none 0 0,.slice none 0 0,.slice none 0 0,.slice none 0 0,.slice none 0 0,.slice none 0 0,.slice none 0 0,.int .i64 (-1),v,.bool false])⟩
def usO(us:List T3):Option ((Ex×List T3)×Cel exE)->List T3
 |none=>us
 |some z=>z.1.2
def UpM.L(T:Tk)(b:Nat)(us:List T3)(nm:ByteArray)(b3:Nat)(ps:List (Cel exE))(st:Option (Nat×List Value))(cap:Nat)(s:UpM):List Own:=PB T b (usO us s.z)::upB nm b3 (s.fld ps st cap)::ownO (s.cur ps st) Z7 []
def UpM.T(b b3:Nat)(ps:List (Cel exE))(st:Option (Nat×List Value))(cap:Nat)(s:UpM):Nat->Ty
 |0=>.is (.pointer (some ⟨b3,12,none⟩))
 |1=>.is (sliceO st ps.length cap)
 |2=>.is (.pointer (some ⟨b,0,none⟩))
 |3=>TC s.p
 |4=>.is (.int .i64 (ps.length:Nat))
 |5=>.newSl (.cells p0E.cs.toArray 42 (0,0)) 1 1
 |6=>.is (apV ps s.ap)
 |7=>match s.ap with|none=>.any|some a=>.is (.pointer (some ⟨a.1,0+((ps.length:Nat):Int).toNat*8,none⟩))
 |9=>.is (.pointer (some ⟨b3,12,none⟩))
 |_=>.any
structure UpM.inv (e:Ps Ex) (us:List T3) (ps:List (Cel exE)) (s:UpM) (D:Array Bool):Prop where
 z:D.getD 3 false=s.z.isSome
 r: ∀z,s.z=some z->e us=some z.1/\z.2.x=z.1.1
 a:D.getD 6 false=s.ap.isSome
 g: ∀a,s.ap=some a->Grows Cel.cs 8 (ps++[p0E]) (some (a.1,a.2.1)) a.2.2
 e8:D.getD 8 false=s.e8
 e10:D.getD 10 false=s.e10
 c6:D.getD 6 false=true->∀j,j<6->D.getD j false=true
 c7:D.getD 7 false=true->D.getD 6 false=true
 c8:D.getD 8 false=true->D.getD 6 false=true
 c10:D.getD 10 false=true->D.getD 6 false=true
theorem UpM.inv.quiet{e:Ps Ex}{us:List T3}{ps:List (Cel exE)}{s:UpM}{D:Array Bool}(h:s.inv e us ps D){i:Nat}(hs:i<D.size)(hi:i≠3/\i≠6/\i≠8/\i≠10)(h7:i=7->D.getD 6 false=true):s.inv e us ps (D.setIfInBounds i true):=by
 obtain⟨h3,h6,h8,h10⟩:=hi;refine⟨by rw[ZX hs (Ne.symm h3)];exact h.z,h.r,by rw[ZX hs (Ne.symm h6)];exact h.a,h.g,by rw[ZX hs (Ne.symm h8)];exact h.e8,by rw[ZX hs (Ne.symm h10)];exact h.e10,fun h1 j hj=>(Z1n hs).2 (.inr (h.c6 (by rw[<-ZX hs (Ne.symm h6)];exact h1) j hj)),fun h1=>?_,fun h1=>?_,fun h1=>?_⟩
 · rw[ZX hs (Ne.symm h6)]
   by_cases e7:i=7
   · exact h7 e7
   · exact h.c7 (by rw[<-ZX hs (Ne.symm e7)];exact h1)
 · rw[ZX hs (Ne.symm h6)]
   exact h.c8 (by rw[<-ZX hs (Ne.symm h8)];exact h1)
 · rw[ZX hs (Ne.symm h6)]
   exact h.c10 (by rw[<-ZX hs (Ne.symm h10)];exact h1)
theorem Z7t{D:Array Bool}{i j:Nat}(h:D.getD i false=true->D.getD j false=true)(hj:D.getD j false=false):D.getD i false=false:=by
 cases hq:D.getD i false with
 |false=>rfl
 |true=>rw[h hq]at hj;cases hj
theorem UpM.inv.call{e:Ps Ex}{us:List T3}{ps:List (Cel exE)}{s:UpM}{D:Array Bool}(h:s.inv e us ps D)(hs:3<D.size){z:(Ex×List T3)×Cel exE}(hz:e us=some z.1)(hx:z.2.x=z.1.1):UpM.inv e us ps {s with z:=some z} (D.setIfInBounds 3 true):=
 ⟨by rw[(Z1n hs).2 (.inl rfl)];rfl,fun y hy=>by injection hy with hy;subst hy;exact⟨hz,hx⟩,by rw[ZX hs qD];exact h.a,h.g,by rw[ZX hs qD];exact h.e8,by rw[ZX hs qD];exact h.e10,
  fun h1 j hj=>(Z1n hs).2 (.inr (h.c6 (by rw[<-ZX hs qD];exact h1) j hj)),fun h1=>by rw[ZX hs qD]at h1 ⊢;exact h.c7 h1,fun h1=>by rw[ZX hs qD]at h1 ⊢;exact h.c8 h1,fun h1=>by rw[ZX hs qD]at h1 ⊢;exact h.c10 h1⟩
theorem UpM.inv.app{e:Ps Ex}{us:List T3}{ps:List (Cel exE)}{s:UpM}{D:Array Bool}(h:s.inv e us ps D)(hs:6<D.size)(hall: ∀j,j<6->D.getD j false=true){a:Nat×List Value×Nat}(hG:Grows Cel.cs 8 (ps++[p0E]) (some (a.1,a.2.1)) a.2.2):UpM.inv e us ps {s with ap:=some a} (D.setIfInBounds 6 true):=
 ⟨by rw[ZX hs qD];exact h.z,h.r,by rw[(Z1n hs).2 (.inl rfl)];rfl,fun y hy=>by injection hy with hy;subst hy;exact hG,by rw[ZX hs qD];exact h.e8,by rw[ZX hs qD];exact h.e10,
  fun _ j hj=>(Z1n hs).2 (.inr (hall j hj)),fun _=>(Z1n hs).2 (.inl rfl),fun _=>(Z1n hs).2 (.inl rfl),fun _=>(Z1n hs).2 (.inl rfl)⟩
theorem UpM.inv.st8{e:Ps Ex}{us:List T3}{ps:List (Cel exE)}{s:UpM}{D:Array Bool}(h:s.inv e us ps D)(hs:8<D.size)(h6:D.getD 6 false=true):UpM.inv e us ps {s with e8:=true} (D.setIfInBounds 8 true):=
 ⟨by rw[ZX hs qD];exact h.z,h.r,by rw[ZX hs qD];exact h.a,h.g,(Z1n hs).2 (.inl rfl),by rw[ZX hs qD];exact h.e10,
  fun h1 j hj=>(Z1n hs).2 (.inr (h.c6 (by rw[<-ZX hs qD];exact h1) j hj)),fun h1=>by rw[ZX hs qD]at h1 ⊢;exact h.c7 h1,fun _=>by rw[ZX hs qD];exact h6,fun h1=>by rw[ZX hs qD]at h1 ⊢;exact h.c10 h1⟩
theorem UpM.inv.st10{e:Ps Ex}{us:List T3}{ps:List (Cel exE)}{s:UpM}{D:Array Bool}(h:s.inv e us ps D)(hs:10<D.size)(h6:D.getD 6 false=true):UpM.inv e us ps {s with e10:=true} (D.setIfInBounds 10 true):=
 ⟨by rw[ZX hs qD];exact h.z,h.r,by rw[ZX hs qD];exact h.a,h.g,by rw[ZX hs qD];exact h.e8,(Z1n hs).2 (.inl rfl),
  fun h1 j hj=>(Z1n hs).2 (.inr (h.c6 (by rw[<-ZX hs qD];exact h1) j hj)),fun h1=>by rw[ZX hs qD]at h1 ⊢;exact h.c7 h1,fun h1=>by rw[ZX hs qD]at h1 ⊢;exact h.c8 h1,fun _=>by rw[ZX hs qD];exact h6⟩
theorem UpM.T_same{b b3:Nat}{ps:List (Cel exE)}{st:Option (Nat×List Value)}{cap:Nat}{s s':UpM}{D:Array Bool}(h3:D.getD 3 false=true->s'.p=s.p)(h6:D.getD 6 false=true\/D.getD 7 false=true->s'.ap=s.ap){j:Nat}(hj:D.getD j false=true):s'.T b b3 ps st cap j=s.T b b3 ps st cap j:=by
 match j,hj with
 |3,hj=>show TC s'.p=TC s.p;rw[h3 hj]
 |6,hj=>show Ty.is (apV ps s'.ap)=Ty.is (apV ps s.ap);rw[h6 (.inl hj)]
 |7,hj=>simp only[UpM.T];rw[h6 (.inr hj)]
 |0,_=>rfl
 |1,_=>rfl
 |2,_=>rfl
 |4,_=>rfl
 |5,_=>rfl
 |8,_=>rfl
 |9,_=>rfl
 |j+10,_=>rfl
theorem pickEx{P:Program}{L:List Own}{Φ:List (World->Prop)}{H:Know}{o:Oper}{Bad:Prop}{ch:List PanicEntry}{G:Type}{f:G->Ex}{Lg:G->List Own}(h:BigObP P L Φ H o Bad ch (fun g=>.rep (ExR (f g))) Lg):BigObP P L Φ H o Bad ch (G:={q:G×Cel exE // q.2.x=f q.1}) (fun q=>TC q.1.2) (fun q=>Lg q.1.1):=by
 simp only[Z5Z]at h;exact h.pick
attribute [local irreducible] SlE ExsR
theorem Z6A(N:Nat)(T:Tk)(hc:T.ts.length<=T.cap)(h9:T.ts.length<=2049)(b:Nat)(ts:List T3)(hts:ts<:+T.ts)(e:Ps Ex)(hex: ∀us,us<:+T.ts->us.length<=ts.length->CallP Tryz.prog ZO [PB T b (us)] [T.G,AF] [.is (.pointer (some ⟨b,0,none⟩))] (e (us)=none) flt (fun z:Ex×List T3=>e (us)=some z) (fun z=>[PB T b z.2]) (fun z=>.rep (ExR z.1)))(nm:ByteArray)(b3:Nat)(s:UpS)(l:List (ByteArray×Cel exE))(hI:upI s l)(hl:l.length+ts.length<=4096):CallP Tryz.prog Z4h (PB T b ts::upX nm b3 s) [T.G,AF,NH N] ([.is (.pointer (some ⟨b,0,none⟩))]++[Value.pointer (some ⟨b3,0,none⟩)].map Ty.is) (setP e ts=none) flt (fun z:(ByteArray×Cel exE)×List T3×UpS=>setP e ts=some (pcX z.1,z.2.1)/\upI z.2.2 (l++[z.1])) (fun z=>PB T b z.2.1::upX nm b3 z.2.2) (fun z=>.rep (pcE.T z.1)):=
CallP.of (fn:=Tryz.f122) Tryz.func122 (n:=21) rfl rfl rfl (fun _ _=>by kernel_rfl) fun E W hb0=>by
 obtain⟨ps,st,cap⟩:=s;obtain⟨hps,hG⟩:=hI;dsimp only at hps hG;have hpl:ps.length=l.length:=by rw[hps,List.length_map]
 refine vQ ?_;refine Ja rfl (vP [0,1] ?_);refine Jm rfl ?_;refine JO.callPK (Lr:=⟨b3,Z3,.is (.agg #[.int .i64 5,.string nm,.string ⟨#[]⟩,.slice none 0 0,.slice none 0 0,.slice none 0 0,.slice none 0 0,.slice none 0 0,.slice none 0 0,.slice none 0 0,.slice none 0 0,.int .i64 (-1),sliceO st ps.length cap,.bool false])⟩::ownO st Z7 []) (ZS T hc b ts hts) rfl (.refl _) qF qA (fun hbad=>?_) ?_
 · exact JX.pnI (by unfold setP;rw[hbad];rfl)
 intro z1 hz1;have h1:Lt z1.2 ts:=ZV _ _ hz1;refine vD ?_;refine Ja rfl (vP [0,1,4] ?_);refine Jm rfl (Jm rfl (JO.callK (Lr:=⟨b3,Z3,.is (.agg #[.int .i64 5,.string nm,.string ⟨#[]⟩,.slice none 0 0,.slice none 0 0,.slice none 0 0,.slice none 0 0,.slice none 0 0,.slice none 0 0,.slice none 0 0,.slice none 0 0,.int .i64 (-1),sliceO st ps.length cap,.bool false])⟩::ownO st Z7 []) (ZE T hc b (z1.2) ((show z1.2<:+T.ts from(ZV _ _ hz1).1.trans hts)) s_eq) rfl (.refl _) qF qA ?_));intro _ _;refine vD ?_;refine JO.callPK (Lr:=_) (Zt (.pointer (some ⟨b,0,none⟩)) (isT 5 s_eq z1.2)) rfl (Z2a _) Z1Z qA (fun hbad=>?_) ?_
 · exact JX.pnI (by unfold setP;rw[hz1,Option.bind_some,wantN hbad];rfl)
 intro _ heq;refine vD ?_;refine vS [0,1,4] ?_;rw[Z1z heq];have hlt:=(ZG heq).2
 repeat apply yQ
 refine J.regMach (Bad:=e z1.2.tail=none) (ch:=flt) 11 (UpM.L T b z1.2.tail nm b3 ps st cap) (UpM.T b b3 ps st cap) (UpM.inv e z1.2.tail ps) (fun i=>i==3||i==6||i==8||i==10) ⟨none,none,false,false⟩ rfl ?_ (fun hbad=>?_) hmx qK rfl qK ?_ ?_ ?_
 · exact⟨rfl,(fun z h=>by cases h),rfl,(fun z h=>by cases h),rfl,rfl,(fun h=>by cases h),(fun h=>by cases h),(fun h=>by cases h),(fun h=>by cases h)⟩
 · exact JX.pnI (by unfold setP;rw[hz1,Option.bind_some,wantY heq,Option.bind_some,hbad];rfl)
 · intro s D i o hs hinv hA hbg hd hr
   match i,hA,hbg,hd,hr with
   |0,hA,_,hd,hr=>
     obtain rfl:=Option.some.inj hA;exact⟨hinv.quiet qM qD (fun h=>by cases h),rfl,(Z0 Z3j rfl)⟩
   |1,hA,_,hd,hr=>
     obtain rfl:=Option.some.inj hA;have h6:D.getD 6 false=false:=Z7t (fun h=>hinv.c6 h 1 qD) hd;have h10:s.e10=false:=by rw[<-hinv.e10];exact Z7t hinv.c10 h6
     refine⟨hinv.quiet qM qD (fun h=>by cases h),rfl,?_⟩;have hL:upB nm b3 (sliceO st ps.length cap)∈s.L T b z1.2.tail nm b3 ps st cap:=by
       refine List.mem_cons_of_mem _ (List.mem_cons.2 (.inl ?_));unfold UpM.fld;rw[h10];rfl
     haveI:HasOwn (s.L T b z1.2.tail nm b3 ps st cap) b3 Z3 (upB nm b3 (sliceO st ps.length cap)).T:=⟨hL⟩
     exact Z5 (V:=.agg #[.int .i64 5,.string nm,.string ⟨#[]⟩,.slice none 0 0,.slice none 0 0,.slice none 0 0,.slice none 0 0,.slice none 0 0,.slice none 0 0,.slice none 0 0,.slice none 0 0,.int .i64 (-1),sliceO st ps.length cap,.bool false]) ZB rfl rfl
   |2,hA,_,hd,hr=>
     obtain rfl:=Option.some.inj hA;exact⟨hinv.quiet qM qD (fun h=>by cases h),rfl,(Z1 rfl)⟩
   |3,_,hbg,_,_=>exact absurd hbg qD
   |4,hA,_,hd,hr=>
     obtain rfl:=Option.some.inj hA;exact⟨hinv.quiet qM qD (fun h=>by cases h),rfl,(Z5e hG Zs rfl)⟩
   |5,hA,_,hd,hr=>
     obtain rfl:=Option.some.inj hA;exact⟨hinv.quiet qM qD (fun h=>by cases h),rfl,((show Ob _ _ _ _ _ (.newSl (.cells p0E.cs.toArray 42 (0,0)) 1 1)from ZI (cs:=p0E.cs) Zy qM qM (.cons rfl .nil) rfl rfl rfl))⟩
   |6,_,hbg,_,_=>exact absurd hbg qD
   |7,hA,_,hd,hr=>
     obtain rfl:=Option.some.inj hA;have h6:=hr _ rfl ⟨6,.data⟩ (by simp) rfl;refine⟨hinv.quiet qM qD (fun _=>h6),rfl,?_⟩;obtain⟨zo,ap,e8,e10⟩:=s;have ha:=hinv.a;rw[h6]at ha;cases ap with
     |none=>cases ha
     |some a=>exact Zi Z2A rfl rfl rfl qM qM
   |8,_,hbg,_,_=>exact absurd hbg qD
   |9,hA,_,hd,hr=>
     obtain rfl:=Option.some.inj hA;exact⟨hinv.quiet qM qD (fun h=>by cases h),rfl,(Z0 Z3j rfl)⟩
   |10,_,hbg,_,_=>exact absurd hbg qD
   |i+11,hA,_,hd,hr=>simp at hA
 · intro s D i o hs hinv hA hbg hd hr
   match i,hA,hbg,hd,hr with
   |0,_,hbg,_,_=>exact absurd hbg qD
   |1,_,hbg,_,_=>exact absurd hbg qD
   |2,_,hbg,_,_=>exact absurd hbg qD
   |3,hA,_,hd,hr=>
     obtain rfl:=Option.some.inj hA;obtain⟨zo,ap,e8,e10⟩:=s;have h6:D.getD 6 false=false:=Z7t (fun h=>hinv.c6 h 3 qD) hd;have h7:=Z7t hinv.c7 h6;have h8:=Z7t hinv.c8 h6;have hap:ap=none:=by
       have ha:=hinv.a;rw[h6]at ha;cases ap with
       |none=>rfl
       |some a=>cases ha
     subst hap;have hzo:zo=none:=by
       have:=hinv.z;rw[hd]at this;cases zo with
       |none=>rfl
       |some r=>cases this
     subst hzo;refine⟨rfl,.inr (BigObP.to (G:={q:{z:Ex×List T3 // e z1.2.tail=some z}×Cel exE // q.2.x=q.1.1.1}) (Tg:=fun q=>TC q.1.2) (Lg:=fun q=>[PB T b q.1.1.1.2]++(upB nm b3 (UpM.fld ps st cap ⟨none,none,e8,e10⟩)::ownO st Z7 [])) ?_ (fun q=>⟨⟨some (q.1.1.1,q.1.2),none,e8,e10⟩,hinv.call qM q.1.1.2 q.2,fun j hj=>UpM.T_same (s:=⟨none,none,e8,e10⟩) (s':=⟨some (q.1.1.1,q.1.2),none,e8,e10⟩) (fun h=>absurd h (by rw[hd];decide)) (fun h=>rfl) hj⟩) (fun _=>rfl) (fun _=>.refl _))⟩;exact pickEx (f:=fun g:{z:Ex×List T3 // e z1.2.tail=some z}=>g.1.1) (Z6g rfl (hex z1.2.tail (ZH (show z1.2<:+T.ts from(ZV _ _ hz1).1.trans hts)) (by have:=h1.2;have:=(ZG heq).2;omega)) (.refl _) qF qA)
   |4,_,hbg,_,_=>exact absurd hbg qD
   |5,_,hbg,_,_=>exact absurd hbg qD
   |6,hA,_,hd,hr=>
     obtain rfl:=Option.some.inj hA;have hall: ∀j,j<6->D.getD j false=true:=fun j hj=>by
       match j,hj with
       |0,_=>exact hr _ rfl ⟨0,.phase⟩ (by simp) rfl
       |1,_=>exact hr _ rfl ⟨1,.data⟩ (by simp) rfl
       |2,_=>exact hr _ rfl ⟨2,.phase⟩ (by simp) rfl
       |3,_=>exact hr _ rfl ⟨3,.chain⟩ (by simp) rfl
       |4,_=>exact hr _ rfl ⟨4,.phase⟩ (by simp) rfl
       |5,_=>exact hr _ rfl ⟨5,.data⟩ (by simp) rfl
     obtain⟨zo,ap,e8,e10⟩:=s;have h7:=Z7t hinv.c7 hd;have h8:=Z7t hinv.c8 hd;have h10:=Z7t hinv.c10 hd;have hap:ap=none:=by
       have ha:=hinv.a;rw[hd]at ha;cases ap with
       |none=>rfl
       |some a=>cases ha
     subst hap;obtain rfl:e8=false:=by have:=hinv.e8;rw[h8]at this;exact this.symm
     obtain rfl:e10=false:=by have:=hinv.e10;rw[h10]at this;exact this.symm
     have hXX: ∀(q:GrG Cel.cs 8 (ps++[p0E])),∃b17 cs17,q.1.1=some (b17,cs17):=fun q=>Z5F q.2 (by simp);refine⟨rfl,.inl (BigOb.to (G:=GrG Cel.cs 8 (ps++[p0E])) (Tg:=fun g=>.is (sliceO g.1.1 (ps++[p0E]).length g.1.2)) (Lg:=fun g=>PB T b (usO z1.2.tail zo)::upB nm b3 (sliceO st ps.length cap)::ownO g.1.1 Z7 []) ?_ (fun q=>⟨⟨zo,some ((q.1.1.getD (0,[])).1,(q.1.1.getD (0,[])).2,q.1.2),false,false⟩,hinv.app qM hall ?_,fun j hj=>UpM.T_same (s:=⟨zo,none,false,false⟩) (s':=⟨zo,some ((q.1.1.getD (0,[])).1,(q.1.1.getD (0,[])).2,q.1.2),false,false⟩) (fun _=>rfl) (fun h=>absurd h (by rw[hd,h7];decide)) hj⟩) (fun q=>?_) (fun q=>?_))⟩
     · have hLq:UpM.L T b z1.2.tail nm b3 ps st cap ⟨zo,none,false,false⟩=PB T b (usO z1.2.tail zo)::upB nm b3 (sliceO st ps.length cap)::ownO st Z7 []:=rfl
       rw[hLq];exact ZhY [p0E] Z1j (.there (.there .here)) hG rfl rfl (srcE p0E Zs) (by simp) (by show(ps.length+1)*104<=140737488355328;omega) (by show ps.length+1<=9223372036854775807;omega)
     · obtain⟨⟨go,gc⟩,hq⟩:=q
       obtain⟨b17,cs17,rfl⟩:=Z5F hq (by simp);exact hq
     · obtain⟨⟨go,gc⟩,hq⟩:=q
       obtain⟨b17,cs17,rfl⟩:=Z5F hq (by simp);show Ty.is (Value.slice (some ⟨b17,0,none⟩) (ps.length+1) gc)=Ty.is (sliceO (some (b17,cs17)) (ps++[p0E]).length gc);rw[List.length_append];rfl
     · obtain⟨⟨go,gc⟩,hq⟩:=q
       obtain⟨b17,cs17,rfl⟩:=Z5F hq (by simp);exact .refl _
   |7,_,hbg,_,_=>exact absurd hbg qD
   |8,hA,_,hd,hr=>
     obtain rfl:=Option.some.inj hA;have h3:=hr _ rfl ⟨3,.data⟩ (by simp) rfl;have h6:=hr _ rfl ⟨6,.chain⟩ (by simp) rfl;have h7:=hr _ rfl ⟨7,.data⟩ (by simp) rfl;obtain⟨zo,ap,e8,e10⟩:=s;have ha:=hinv.a;rw[h6]at ha;cases ap with
     |none=>cases ha
     |some a=>
     obtain rfl:e8=false:=by have:=hinv.e8;rw[hd]at this;exact this.symm
     have hG6:=hinv.g a rfl;refine⟨rfl,.inl ((BigOb.ofM (Zit (T:=TC (UpM.p ⟨zo,some a,false,e10⟩)) rfl (by simp[Op.operands]) TC.is (Zdv Cel.hlen (fun x=>List.all_eq_true.2 x.o) Zc (.inl rfl) (.inr ⟨rfl,rfl⟩) hG6 (i:=ps.length) (v:=UpM.p ⟨zo,some a,false,e10⟩) (by simp) (by show 0+((ps.length:Nat):Int).toNat*8=ps.length*8;omega) (.there (.there .here)))) rfl).to (fun _=>⟨⟨zo,some a,true,e10⟩,hinv.st8 qM h6,fun j hj=>UpM.T_same (fun _=>rfl) (fun _=>rfl) hj⟩) (fun _=>rfl) (fun _=>.refl _))⟩
   |9,_,hbg,_,_=>exact absurd hbg qD
   |10,hA,_,hd,hr=>
     obtain rfl:=Option.some.inj hA;have h6:=hr _ rfl ⟨6,.data⟩ (by simp) rfl;obtain⟨zo,ap,e8,e10⟩:=s;have ha:=hinv.a;rw[h6]at ha;cases ap with
     |none=>cases ha
     |some a=>
     obtain rfl:e10=false:=by have:=hinv.e10;rw[hd]at this;exact this.symm
     refine⟨rfl,.inl (BigOb.to (G:=Unit) (Tg:=fun _=>.any) (Lg:=fun _=>PB T b (usO z1.2.tail zo)::upB nm b3 (apV ps (some a))::ownO (UpM.cur ps st ⟨zo,some a,e8,false⟩) Z7 []) ?_ (fun _=>⟨⟨zo,some a,e8,true⟩,hinv.st10 qM h6,fun j hj=>UpM.T_same (s:=⟨zo,some a,e8,false⟩) (s':=⟨zo,some a,e8,true⟩) (fun _=>rfl) (fun _=>rfl) hj⟩) (fun _=>rfl) (fun _=>.refl _))⟩;have hLq:UpM.L T b z1.2.tail nm b3 ps st cap ⟨zo,some a,e8,false⟩=PB T b (usO z1.2.tail zo)::upB nm b3 (sliceO st ps.length cap)::ownO (UpM.cur ps st ⟨zo,some a,e8,false⟩) Z7 []:=rfl;rw[hLq];exact BigOb.ofM (Z9 (V:=apV ps (some a)) rfl rfl (.there .here) rfl rfl rfl rfl Z1I) rfl
   |i+11,hA,_,hd,hr=>simp at hA
 intro s D hs hall hinv;obtain⟨zo,ap,e8,e10⟩:=s;obtain rfl:e8=true:=by have:=hinv.e8;rw[hall 8 qD]at this;exact this.symm
 obtain rfl:e10=true:=by have:=hinv.e10;rw[hall 10 qD]at this;exact this.symm
 have ha:=hinv.a;rw[hall 6 qD]at ha;have hz3:=hinv.z;rw[hall 3 qD]at hz3;obtain⟨⟨b17,cs17,cap2⟩,rfl⟩:=Option.isSome_iff_exists.1 ha.symm;obtain⟨⟨z,p1⟩,rfl⟩:=Option.isSome_iff_exists.1 hz3.symm;obtain⟨hz,hp1⟩:=hinv.r _ rfl;dsimp only at hz hp1;have hG3:=ZfE Cel.hlen (hinv.g _ rfl) (i:=ps.length) (by simp) p1;rw[Zgz]at hG3;refine JO.subL (L':=PB T b z.2::upX nm b3 (ps++[p1],some (b17,splice cs17 (ps.length*8) p1.cs),cap2)) (.of_eq (by simp only[UpM.L,UpM.fld,UpM.cur,upX,if_true,List.length_append];rfl)) ?_;refine JO.open_ (s:=14) (R:=fun v w=>v=exE.v p1.cs/\CelR p1 w) rfl ?_;rintro _ ⟨_,rfl,_⟩;refine JO.fact (CelR p1) (fun X w hf _=>fun w' hk=>(hf _ List.mem_cons_self w' hk).2) (vP [4] ?_);refine Jm rfl (Ja rfl (vS [3] ?_));refine vR ?_;refine JX.toP ?_;exact JX.retL1 (Lr:=[]) rfl ((z1.1,p1),z.2,(ps++[p1],some (b17,splice cs17 (ps.length*8) p1.cs),cap2)) ⟨by unfold setP;rw[hz1,Option.bind_some,wantY heq,Option.bind_some,hz];simp only[Option.map_some,pcX,hp1],by rw[List.map_append,<-hps];rfl,hG3⟩ (.of_eq (List.append_nil _).symm) rfl rfl hb0 rfl (Sub.pcT qI)
end Go.Proofs.YtbedigkncjbggaaGreatDoor
set_option maxRecDepth 20000
namespace Go.Proofs.YtbedigkncjbggaaGreatDoor
open Go Go.Vc
open Go.Pz
theorem ZbU:TEq Tryz.prog Z1h Z48 ZJ Zd0:=⟨by kernel_rfl,by kernel_rfl,by kernel_rfl,by kernel_rfl,by kernel_rfl,by kernel_rfl,by kernel_rfl⟩
theorem Zgo{ps:List (Cel exE)}{st:Option (Nat×List Value)}{cap:Nat}{w:World}(hG:Grows Cel.cs 8 ps st cap)(hR:RowG Cel.cs 8 ps (adO st) ps.length w)(hF:CelF exE ps w):ExsR (ps.map Cel.x) (sliceO st ps.length cap) w:=SlE.exs (SlE.ofGr0 hG hR hF)
theorem Zh7(l:List (ByteArray×Cel exE)):(l.map pcX).map (·.2)=(l.map (·.2)).map Cel.x:=by rw[List.map_map,List.map_map];rfl
abbrev stC(s:ByteArray):Cel stE:=⟨s,[.string s],rfl,fun u h=>by rw[List.mem_singleton.1 h];rfl⟩
theorem ZiA(s:ByteArray)(w:World):CelF stE [stC s] w:=fun p hp=>by rw[List.mem_singleton.1 hp];rfl
theorem Sub.rwT{L:List Own}{Φ:List (World->Prop)}{G:GoS}{xs:List Ex}{V:Value}(hF:SlE exE G xs V∈Φ):Sub L Φ (.is V) (.rep (rwE.T xs)):=fun X v w hf e=>by
 rw[show v=_ from e];exact fun w' hk=>⟨[V],rfl,V,rfl,SlE.exs (hf.2 _ hF w' hk)⟩
theorem Zan(ts:List T3):(decide ((0:Int)<((ts.length:Nat):Int))&&teq (ts.headD t3D) ⟨5,s_lp,0⟩)=isLp ts:=by
 cases ts with
 |nil=>rfl
 |cons t r=>
   rw[decide_eq_true (show(0:Int)<(((t::r).length:Nat):Int) by simp),Bool.true_and];show((t.k==5)&&(seq t.t s_lp&&(t.n==0)))=((t.k==5)&&(sq t.t s_lp&&(t.n==0)));rw[Z2D]
attribute [local irreducible] SlE ExsR
theorem Z7g(N:Nat)(T:Tk)(hc:T.ts.length<=T.cap)(h9:T.ts.length<=2049)(b:Nat)(ts:List T3)(hts:ts<:+T.ts)(e:Ps Ex)(hed:Dn e)(hex: ∀us,us<:+T.ts->us.length<=ts.length->CallP Tryz.prog ZO [PB T b (us)] [T.G,AF] [.is (.pointer (some ⟨b,0,none⟩))] (e (us)=none) flt (fun z:Ex×List T3=>e (us)=some z) (fun z=>[PB T b z.2]) (fun z=>.rep (ExR z.1))):CallP Tryz.prog Z3p [PB T b ts] [T.G,AF,NH N] [.is (.pointer (some ⟨b,0,none⟩))] (updateP e ts=none) flt (fun z:Pz.St×List T3=>updateP e ts=some z) (fun z=>[PB T b z.2]) (fun z=>.rep (StR N z.1)):=
CallP.ofN (N:=N) (List.mem_cons_of_mem _ (List.mem_cons_of_mem _ List.mem_cons_self)) (fn:=Tryz.f61) Tryz.func61 (n:=17) rfl rfl rfl (fun _ _=>by kernel_rfl) fun E W hNW hb0=>by
 refine vQ ?_;refine JO.alloc ZT rfl fun b2=>(vP [0,2] ?_);refine Jm rfl ?_;refine JO.callPK (Lr:=[_]) (ZS T hc b ts hts) rfl (List.perm_append_comm (l₁:=[_]) (l₂:=[_])) qF qA (fun hbad=>?_) ?_
 · exact JX.pnI (by unfold updateP;rw[hbad];rfl)
 intro z1 hz1;have h1:Lt z1.2 ts:=ZV _ _ hz1;refine vD ?_;refine Jq (Zd (cs:=[_,_,_,_,_,_,_,_,_,_,_,_,_,_]) Z1w (.cons rfl (.cons rfl (.cons rfl .nil))) rfl rfl) (JO.alloc ZT rfl fun b3=>(JO.m (Z2 rfl rfl qU qC qO Zo) (by rfl) ?_));refine vP [0,2,3] ?_;refine Jm rfl ?_;refine JO.callPK (Lr:=[_,_]) (ZA T hc b (z1.2) (h1.1.trans hts) Zc4 (by decide+kernel) (by decide+kernel) (asc (by decide+kernel))) rfl (.swap _ _ _) qF qA (fun hbad=>?_) ?_
 · exact JX.pnI (by unfold updateP;rw[hz1,Option.bind_some,hbad];rfl)
 intro z2 hz2;have h2:Lt z2.2 ts:=Lt.trans (Zk _ _ _ _ hz2) h1.1;refine vD ?_;refine vP [0,2,3] ?_;refine Jm rfl (Jq (Z3J .nil (.cons rfl .nil)) ?_);refine JO.callPK (Lr:=[_]) (ZeX .st (S:=UpS) N T hc h9 b z2.2 (h2.1.trans hts) pcE Zg6 rfl (setP e) pcX (Z6I hed) (upX z1.1 b3) upI ([],none,0) ⟨rfl,rfl⟩ (fun s o ho=>by rw[List.mem_singleton.1 ho];exact⟨_,List.mem_cons_self,rfl⟩) (fun s=>by obtain⟨ps,st,cap⟩:=s;cases st<;>rfl) 16 Z4h [.pointer (some ⟨b3,0,none⟩)] (fun us s l hus hu hI=>Z6A N T hc h9 b us hus e (fun vs hvs hv=>hex vs hvs (by have:=h2.2;omega)) z1.1 b3 s l hI (by have:=h2.2;have:=hts.length_le;omega))) rfl (.refl _) qF qA (fun hbad=>?_) ?_
 · exact JX.pnI (by unfold updateP;rw[hz1,Option.bind_some,hz2,Option.bind_some,hbad];rfl)
 rintro⟨l3,us3,⟨ps,st,cap⟩⟩ ⟨hz3,hps,hG⟩;dsimp only at hz3 hps hG;have h3:Lt us3 ts:=Lt.trans (show Lt us3 z2.2 from Z8U (Z6I hed) 16 _ _ hz3) h2.1;refine vD ?_;rw[Zcm];refine vD ?_;refine JO.openEv (s:=11) rfl (fun a11 l11 c11 _ _=>?_);refine Jq (Z0 Z1k rfl) (JO.m (Z9 (cs':=[_,_,_,_,_,_,_,_,_,_,_,_,_,_]) rfl rfl qU rfl rfl rfl rfl Z3P) (by rfl) ?_);refine vP [0,2,3] ?_;refine Jm rfl ?_;refine JO.callPK (Lr:=_) (Z3n N T hc h9 b us3 (h3.1.trans hts) e (fun vs hvs hv=>hex vs hvs (by have:=h3.2;omega))) rfl (.refl _) qF qA (fun hbad=>?_) ?_
 · exact JX.pnI (by unfold updateP;rw[hz1,Option.bind_some,hz2,Option.bind_some,hz3,Option.bind_some,hbad];rfl)
 intro z4 hz4;refine vD ?_;refine JO.openEv (s:=14) rfl (fun a14 l14 c14 _ _=>?_);refine Jq (Z0 Z26 rfl) (JO.m (Z9 (cs':=[_,_,_,_,_,_,_,_,_,_,_,_,_,_]) rfl rfl qU rfl rfl rfl rfl Z1I) (by rfl) ?_);refine vS [2,3] ?_;refine J.freezeOMW (e:=Z7) (sz:=8) hNW Cel.hlen hG (.there (.there .here)) (fun q hq=>by simp only[List.map_cons,List.map_nil,List.mem_singleton]at hq;exact⟨_,List.mem_cons_self,hq.symm⟩) rfl rfl ?_;rw[hG.sl.1];refine vQ ?_;refine Jq (ZU (cs:=[_,_,_,_,_,_,_,_,_,_,_,_,_,_]) Zj rfl rfl rfl) (JO.m (Z2 rfl rfl qU qC qO Zo) (by rfl) ?_);refine vS [2] ?_;refine vR ?_;refine JX.toP ?_;exact JX.retLCs (Lr:=[_,_]) rfl ({stK 5 with tb:=z1.1,names:=(l3.map pcX).map (·.1),sets:=(l3.map pcX).map (·.2),where_:=z4.1},z4.2) (by unfold updateP;rw[hz1,Option.bind_some,hz2,Option.bind_some,hz3,Option.bind_some,hz4];rfl) (.refl _) rfl rfl hb0 rfl Zj HasOwn.mem (ZQ rfl) (Sub.st rfl fun X w hf w' hk=>⟨Za (FrS.nil _),ZfU (hf _ qI w' hk),Za trivial,Za trivial,Za trivial,hf _ qI w' hk,Z16,Za trivial,(by show ExsR ((l3.map pcX).map (·.2)) (.slice (adO st) ps.length (capO st cap)) w';rw[Zh7,<-hps,<-hG.sl.1];exact Zgo hG (hf _ qI w' hk) (by rw[hps];exact ZgZ (hf _ qI w' hk)))⟩)
theorem Z4f(N:Nat)(T:Tk)(hc:T.ts.length<=T.cap)(h9:T.ts.length<=2049)(b:Nat)(ts:List T3)(hts:ts<:+T.ts)(e:Ps Ex)(hed:Dn e)(hex: ∀us,us<:+T.ts->us.length<=ts.length->CallP Tryz.prog ZO [PB T b (us)] [T.G,AF] [.is (.pointer (some ⟨b,0,none⟩))] (e (us)=none) flt (fun z:Ex×List T3=>e (us)=some z) (fun z=>[PB T b z.2]) (fun z=>.rep (ExR z.1))):CallP Tryz.prog Z37 [PB T b ts] [T.G,AF,NH N] [.is (.pointer (some ⟨b,0,none⟩))] (withinP e ts=none) flt (fun z:List Ex×List T3=>withinP e ts=some z) (fun z=>[PB T b z.2]) (fun z=>.rep (rwE.T z.1)):=
CallP.of (fn:=Tryz.f111) Tryz.func111 (n:=5) rfl rfl rfl (fun _ _=>by kernel_rfl) fun E W hb0=>by
 refine vQ ?_;refine Ja rfl (vP [0] ?_);refine Jm rfl ?_;refine JO.callPK (Lr:=[]) (Zaq .ex N T hc h9 b ts hts exE Z3F rfl e hed ZO (fun us hus hu=>by have:=hex us hus hu;simp only[Z5Z]at this;exact this.weak qF)) rfl (.refl _) qF qA (fun hbad=>?_) ?_
 · exact JX.pnI (hbad)
 intro z hz;refine vD ?_;refine JO.openEv (s:=4) rfl (fun a4 l4 c4 _ _=>?_);refine Ja rfl (vS [2] ?_);refine vR ?_;refine JX.toP ?_;exact JX.retL1 (Lr:=[]) rfl z hz (.refl _) rfl rfl hb0 rfl (Sub.rwT qI)
theorem Z7a(N:Nat)(T:Tk)(hc:T.ts.length<=T.cap)(h9:T.ts.length<=2049)(b:Nat)(ts:List T3)(hts:ts<:+T.ts):CallP Tryz.prog Z3q [PB T b ts] [T.G,AF,NH N] [.is (.pointer (some ⟨b,0,none⟩))] (createP ts=none) flt (fun z:Pz.St×List T3=>createP ts=some z) (fun z=>[PB T b z.2]) (fun z=>.rep (StR N z.1)):=
CallP.ofN (N:=N) (List.mem_cons_of_mem _ (List.mem_cons_of_mem _ List.mem_cons_self)) (fn:=Tryz.f58) Tryz.func58 (n:=43) rfl rfl rfl (fun _ _=>by kernel_rfl) fun E W hNW hb0=>by
 refine vQ ?_;refine JO.alloc ZT rfl fun b2=>(vP [0,2] ?_);refine Jq (Zd (cs:=[_,_,_,_,_,_,_,_,_,_,_,_,_,_]) Z1w (.cons rfl (.cons rfl .nil)) rfl rfl) (JO.alloc ZT rfl fun b3=>(JO.m (Z2 rfl rfl qU qC qO Zo) (by rfl) ?_));refine vP [0,2,3] ?_;refine Jm rfl (JO.callK (Lr:=[_,_]) (Zu T hc b (ts) (hts) Z6G) rfl (List.perm_append_comm (l₁:=[_,_]) (l₂:=[_])) qF qA ?_);intro _ _;refine vD ?_;refine vS [0,2,3,6] ?_;refine yC rfl (fun ht6=>?_) (fun ht6=>?_);have htb:isT 1 Z6G ts=true:=ht6;rw[Z1z htb];refine vQ ?_;refine Jm rfl ?_;refine JO.callPK (Lr:=[_,_]) (ZS T hc b ts.tail (ZH hts)) rfl (.refl _) qF qA (fun hbad=>?_) ?_
 · exact JX.pnI (by unfold createP;rw[if_pos htb,hbad];rfl)
 intro z1 hz1;have h1:z1.2<:+T.ts:=(ZV _ _ hz1).1.trans (ZH hts);refine vD ?_;refine Jq (Z0 Z32 rfl) (JO.m (Z9 (cs':=[_,_,_,_,_,_,_,_,_,_,_,_,_,_]) rfl rfl qU rfl rfl rfl rfl Z2Q) (by rfl) ?_);refine vP [0,2,3] ?_;refine Jm rfl ?_;refine JO.callPK (Lr:=[_,_]) (Zaq .co N T hc h9 b z1.2 h1 coE Zca rfl colP Zb8 Z4K (fun us hus hu=>Z7b N T hc h9 b us hus)) rfl (.refl _) qF qA (fun hbad=>?_) ?_
 · exact JX.pnI (by unfold createP;rw[if_pos htb,hz1,Option.bind_some,hbad];rfl)
 intro z2 hz2;refine vD ?_;refine JO.openEv (s:=11) rfl (fun a11 l11 c11 _ _=>?_);refine Jq (Z0 Z2s rfl) (JO.m (Z9 (cs':=[_,_,_,_,_,_,_,_,_,_,_,_,_,_]) rfl rfl qU rfl rfl rfl rfl Z6P) (by rfl) ?_);refine vP [2,3] ?_;refine Jq (ZU (cs:=[_,_,_,_,_,_,_,_,_,_,_,_,_,_]) Zj rfl rfl rfl) (JO.m (Z2 rfl rfl qU qC qO Zo) (by rfl) ?_);refine vS [2] ?_;refine vR ?_;refine JX.toP ?_;exact JX.retLCs (Lr:=[_,_]) rfl ({stK 1 with tb:=z1.1,cols:=z2.1},z2.2) (by unfold createP;rw[if_pos htb,hz1,Option.bind_some,hz2];rfl) (.refl _) rfl rfl hb0 rfl Zj HasOwn.mem (ZQ rfl) (Sub.st rfl fun X w hf w' hk=>⟨hf _ qI w' hk,Za (FrS.nil _),Za trivial,Za trivial,Za trivial,Za (FrS.nil _),Z16,Za trivial,Z16⟩);apply yK
 repeat first|apply yX|apply yB
 have htb:isT 1 Z6G ts=false:=ht6;rw[Z21 htb];refine vQ ?_;refine Jm rfl ?_;refine JO.callPK (Lr:=[_,_]) (ZA T hc b (ts) (hts) Z9Y (by decide+kernel) (by decide+kernel) (asc (by decide+kernel))) rfl (.refl _) qF qA (fun hbad=>?_) ?_
 · exact JX.pnI (by unfold createP;rw[if_neg (by rw[htb];decide),hbad];rfl)
 intro z1 hz1;have h1:z1.2<:+T.ts:=(Zk _ _ _ _ hz1).1.trans hts;refine vD ?_;refine vP [0,2,3] ?_;refine Jm rfl ?_;refine JO.callPK (Lr:=[_,_]) (ZS T hc b z1.2 h1) rfl (.refl _) qF qA (fun hbad=>?_) ?_
 · exact JX.pnI (by unfold createP;rw[if_neg (by rw[htb];decide),hz1,Option.bind_some,hbad];rfl)
 intro z2 hz2;have h2:z2.2<:+T.ts:=(ZV _ _ hz2).1.trans h1;refine vD ?_;refine Jq (Z0 Z2r rfl) (JO.m (Z9 (cs':=[_,_,_,_,_,_,_,_,_,_,_,_,_,_]) rfl rfl qU rfl rfl rfl rfl Z29) (by rfl) ?_);refine Jq (Z0 Z53 rfl) (JO.m (Z9 (cs':=[_,_,_,_,_,_,_,_,_,_,_,_,_,_]) rfl rfl qU rfl rfl rfl rfl Z2Q) (by rfl) ?_);refine vP [0,2,3] ?_;refine Jm rfl ?_;refine JO.callPK (Lr:=[_,_]) (ZA T hc b (z2.2) (h2) w_ON (by decide+kernel) (by decide+kernel) (asc (by decide+kernel))) rfl (.refl _) qF qA (fun hbad=>?_) ?_
 · exact JX.pnI (by unfold createP;rw[if_neg (by rw[htb];decide),hz1,Option.bind_some,hz2,Option.bind_some,hbad];rfl)
 intro z3 hz3;have h3:z3.2<:+T.ts:=(Zk _ _ _ _ hz3).1.trans h2;refine vD ?_;refine vP [0,2,3] ?_;refine Jm rfl ?_;refine JO.callPK (Lr:=[_,_]) (ZS T hc b z3.2 h3) rfl (.refl _) qF qA (fun hbad=>?_) ?_
 · exact JX.pnI (by unfold createP;rw[if_neg (by rw[htb];decide),hz1,Option.bind_some,hz2,Option.bind_some,hz3,Option.bind_some,hbad];rfl)
 intro z4 hz4;have h4:z4.2<:+T.ts:=(ZV _ _ hz4).1.trans h3;refine vD ?_;refine Jq (Z0 Z32 rfl) (JO.m (Z9 (cs':=[_,_,_,_,_,_,_,_,_,_,_,_,_,_]) rfl rfl qU rfl rfl rfl rfl Z2Q) (by rfl) ?_);refine vP [0,2,3] ?_;refine Jm rfl (Jm rfl (JO.callK (Lr:=[_,_]) (ZE T hc b (z4.2) (h4) s_lp) rfl (.refl _) qF qA ?_));intro _ _;refine vD ?_;refine JO.callPK (Lr:=_) (Zt (.pointer (some ⟨b,0,none⟩)) (isT 5 s_lp z4.2)) rfl (Z2a _) Z1Z qA (fun hbad=>?_) ?_
 · exact JX.pnI (by unfold createP;rw[if_neg (by rw[htb];decide),hz1,Option.bind_some,hz2,Option.bind_some,hz3,Option.bind_some,hz4,Option.bind_some,wantN hbad];rfl)
 intro _ hlp;refine vD ?_;refine vS [0,2,3] ?_;rw[Z1z hlp];refine vQ ?_;refine Jm rfl ?_;refine JO.callPK (Lr:=[_,_]) (ZS T hc b z4.2.tail (ZH h4)) rfl (.refl _) qF qA (fun hbad=>?_) ?_
 · exact JX.pnI (by unfold createP;rw[if_neg (by rw[htb];decide),hz1,Option.bind_some,hz2,Option.bind_some,hz3,Option.bind_some,hz4,Option.bind_some,wantY hlp,Option.bind_some,hbad];rfl)
 intro z5 hz5;have h5:z5.2<:+T.ts:=(ZV _ _ hz5).1.trans (ZH h4);refine vD ?_;refine JO.buildE (p:=stC z5.1) Z6M Z25 rfl qD rfl rfl (fun b31=>?_);refine Jq (Z0 Z1k rfl) (JO.m (Z9 (cs':=[_,_,_,_,_,_,_,_,_,_,_,_,_,_]) rfl rfl qU rfl rfl rfl rfl Z3P) (by rfl) ?_);refine vS [0,2,3] ?_;refine J.freezeOMW (L':=[PB T b z5.2,_,_]) (e:=ZJ) (sz:=1) hNW Cel.hlen (growE (stC z5.1)) (Tl.here (st:=some (b31,(stC z5.1).cs))) (fun q hq=>by simp only[List.map_cons,List.map_nil,List.mem_singleton]at hq;exact⟨_,List.mem_cons_self,hq.symm⟩) rfl rfl ?_;refine J.fact (CelF stE [stC z5.1]) (fun X w hf _=>fun w' _=>ZiA _ _) ?_;refine vQ ?_;refine Jm rfl (Jm rfl (JO.callK (Lr:=[_,_]) (ZE T hc b (z5.2) (h5) s_rp) rfl (.refl _) qF qA ?_));intro _ _;refine vD ?_;refine JO.callPK (Lr:=_) (Zt (.pointer (some ⟨b,0,none⟩)) (isT 5 s_rp z5.2)) rfl (Z2a _) Z1Z qA (fun hbad=>?_) ?_
 · exact JX.pnI (by unfold createP;rw[if_neg (by rw[htb];decide),hz1,Option.bind_some,hz2,Option.bind_some,hz3,Option.bind_some,hz4,Option.bind_some,wantY hlp,Option.bind_some,hz5,Option.bind_some,wantN hbad];rfl)
 intro _ hrp;refine vD ?_;refine vS [0,2,3] ?_;rw[Z1z hrp];refine vQ ?_;refine Jm rfl (JO.callK (Lr:=[_,_]) (Zu T hc b (z5.2.tail) (ZH h5) Z5W) rfl (.refl _) qF qA ?_);intro _ _;refine vD ?_;refine vS [0,2,3,38] ?_;refine yC rfl (fun ht38=>?_) (fun ht38=>?_);have hus:isT 1 Z5W z5.2.tail=true:=ht38;rw[Z1z hus];refine vQ ?_;refine Jm rfl ?_;refine JO.callPK (Lr:=[_,_]) (ZA T hc b (z5.2.tail.tail) (ZH (ZH h5)) Zay (by decide+kernel) (by decide+kernel) (asc (by decide+kernel))) rfl (.refl _) qF qA (fun hbad=>?_) ?_
 · exact JX.pnI (by unfold createP;rw[if_neg (by rw[htb];decide),hz1,Option.bind_some,hz2,Option.bind_some,hz3,Option.bind_some,hz4,Option.bind_some,wantY hlp,Option.bind_some,hz5,Option.bind_some,wantY hrp,Option.bind_some];dsimp only;rw[if_pos hus,hbad];rfl)
 intro z6 hz6;refine vD ?_;refine vP [2,3] ?_;refine Jq (Z0 Z4z rfl) (JO.m (Z9 (cs':=[_,_,_,_,_,_,_,_,_,_,_,_,_,_]) rfl rfl qU rfl rfl rfl rfl Z1A) (by rfl) ?_);refine vS [2,3] ?_
 first|(have hus:isT 1 Z5W z5.2.tail=false:=ht38;rw[Z21 hus])|skip
 refine vQ ?_;refine Jq (ZU (cs:=[_,_,_,_,_,_,_,_,_,_,_,_,_,_]) Zj rfl rfl rfl) (JO.m (Z2 rfl rfl qU qC qO Zo) (by rfl) ?_);refine vS [2] ?_;refine vR ?_;refine JX.toP ?_;exact JX.retLCs (Lr:=[_,_]) rfl ({stK 2 with nm:=z2.1,tb:=z4.1,names:=[z5.1],hash:=true},z6.2) (by unfold createP;rw[if_neg (by rw[htb];decide),hz1,Option.bind_some,hz2,Option.bind_some,hz3,Option.bind_some,hz4,Option.bind_some,wantY hlp,Option.bind_some,hz5,Option.bind_some,wantY hrp,Option.bind_some];dsimp only;rw[if_pos hus,hz6];rfl) (.refl _) rfl rfl hb0 rfl Zj HasOwn.mem (ZQ rfl) (Sub.st rfl fun X w hf w' hk=>⟨Za (FrS.nil _),SlE.ofGr (growE (stC z5.1)) (hf _ qI w' hk) (hf _ qI w' hk) (hf _ qI w' hk),Za trivial,Za trivial,Za trivial,Za (FrS.nil _),Z16,Za trivial,Z16⟩);apply yK
 repeat first|apply yX|apply yB
 first|(have hus:isT 1 Z5W z5.2.tail=false:=ht38;rw[Z21 hus])|skip
 refine vQ ?_;refine Jq (ZU (cs:=[_,_,_,_,_,_,_,_,_,_,_,_,_,_]) Zj rfl rfl rfl) (JO.m (Z2 rfl rfl qU qC qO Zo) (by rfl) ?_);refine vS [2] ?_;refine vR ?_;refine JX.toP ?_;exact JX.retLCs (Lr:=[_,_]) rfl ({stK 2 with nm:=z2.1,tb:=z4.1,names:=[z5.1]},z5.2.tail) (by unfold createP;rw[if_neg (by rw[htb];decide),hz1,Option.bind_some,hz2,Option.bind_some,hz3,Option.bind_some,hz4,Option.bind_some,wantY hlp,Option.bind_some,hz5,Option.bind_some,wantY hrp,Option.bind_some];dsimp only;rw[if_neg (by rw[hus];decide)]) (.refl _) rfl rfl hb0 rfl Zj HasOwn.mem (ZQ rfl) (Sub.st rfl fun X w hf w' hk=>⟨Za (FrS.nil _),SlE.ofGr (growE (stC z5.1)) (hf _ qI w' hk) (hf _ qI w' hk) (hf _ qI w' hk),Za trivial,Za trivial,Za trivial,Za (FrS.nil _),Z16,Za trivial,Z16⟩)
end Go.Proofs.YtbedigkncjbggaaGreatDoor
set_option maxRecDepth 20000
namespace Go.Proofs.YtbedigkncjbggaaGreatDoor
open Go Go.Vc
open Go.Pz
theorem Sub.stT{s:ByteArray}:Sub [] [] (.is (.string s)) (.rep (stE.T s)):=fun X v w _ e=>by
 rw[show v=_ from e];exact fun w' _=>⟨[.string s],rfl,rfl⟩
attribute [local irreducible] SlE ExsR
theorem Z76(N:Nat)(T:Tk)(hc:T.ts.length<=T.cap)(h9:T.ts.length<=2049)(b:Nat)(ts:List T3)(hts:ts<:+T.ts)(e:Ps Ex)(hed:Dn e)(hex: ∀us,us<:+T.ts->us.length<=ts.length->CallP Tryz.prog ZO [PB T b (us)] [T.G,AF] [.is (.pointer (some ⟨b,0,none⟩))] (e (us)=none) flt (fun z:Ex×List T3=>e (us)=some z) (fun z=>[PB T b z.2]) (fun z=>.rep (ExR z.1))):CallP Tryz.prog Z3s [PB T b ts] [T.G,AF,NH N] [.is (.pointer (some ⟨b,0,none⟩))] (insertP e ts=none) flt (fun z:Pz.St×List T3=>insertP e ts=some z) (fun z=>[PB T b z.2]) (fun z=>.rep (StR N z.1)):=
CallP.ofN (N:=N) (List.mem_cons_of_mem _ (List.mem_cons_of_mem _ List.mem_cons_self)) (fn:=Tryz.f59) Tryz.func59 (n:=34) rfl rfl rfl (fun _ _=>by kernel_rfl) fun E W hNW hb0=>by
 refine vQ ?_;refine JO.alloc ZT rfl fun b2=>(vP [0,2] ?_);refine Jm rfl ?_;refine JO.callPK (Lr:=[_]) (ZA T hc b (ts) (hts) Zaz (by decide+kernel) (by decide+kernel) (asc (by decide+kernel))) rfl (List.perm_append_comm (l₁:=[_]) (l₂:=[_])) qF qA (fun hbad=>?_) ?_
 · exact JX.pnI (by unfold insertP;rw[hbad];rfl)
 intro z0 hz0;have h0:Lt z0.2 ts:=Zk _ _ _ _ hz0;refine vD ?_;refine vP [0,2] ?_;refine Jm rfl ?_;refine JO.callPK (Lr:=[_]) (ZS T hc b z0.2 (h0.1.trans hts)) rfl (.refl _) qF qA (fun hbad=>?_) ?_
 · exact JX.pnI (by unfold insertP;rw[hz0,Option.bind_some,hbad];rfl)
 intro z1 hz1;have h1:Lt z1.2 ts:=Lt.trans (ZV _ _ hz1) h0.1;have h1s:z1.2<:+T.ts:=h1.1.trans hts;refine vD ?_;refine Jq (Zd (cs:=[_,_,_,_,_,_,_,_,_,_,_,_,_,_]) Z1w (.cons rfl (.cons rfl (.cons rfl .nil))) rfl rfl) (JO.alloc ZT rfl fun b3=>(JO.m (Z2 rfl rfl qU qC qO Zo) (by rfl) ?_));refine vP [0,2,3] ?_;refine Jm rfl (Jq (Z4 rfl) (Jq (Z0 Zq rfl) (Jq (Z5 ZC rfl rfl) (Jq (ZD ZR rfl) (Jq (Z1r rfl rfl) (Jm rfl (JO.tg rfl rfl rfl rfl rfl (fun hg=>Z1 (.inl rfl)) (JO.tg rfl rfl rfl rfl rfl (fun hg=>Z4 (qR rfl)) ?_))))))));refine JO.tg rfl rfl rfl rfl rfl (fun hg=>Z0 Zq (qR rfl)) ?_;refine JO.tg rfl rfl rfl rfl rfl (fun hg=>Z5 ZC (qR rfl) rfl) ?_;refine JO.tg rfl rfl rfl rfl rfl (fun hg=>Zi Z1f (qR rfl) rfl (.inl rfl) qM (Z2T (Z3b hg))) ?_;refine JO.tg rfl rfl rfl rfl rfl (fun hg=>Z3W (enc:=T3.cells) (sz:=3) (i:=T.k z1.2) (y:=z1.2.headD t3D) (cs:=T3.cells (z1.2.headD t3D)) ZM (qR rfl) qI rfl (Tk.head h1s (Z3b hg)) (by rw[Tk.j_eq hc h1s (Z3b hg)];rfl) rfl) ?_;refine JO.tg rfl rfl rfl rfl rfl (fun hg=>Zd (cs:=[_,_,_]) Z1b (.cons (.inl rfl) (.cons (.inl rfl) .nil)) rfl rfl) (JO.tg rfl rfl rfl rfl rfl (fun hg=>Zil (b:=⟨5,s_lp,0⟩) ZbU (qR rfl) (qR rfl)) ?_);refine Jq (Zl rfl rfl rfl id) (vS [0,2,3,24] ?_);refine yC rfl (fun ht24=>?_) (fun ht24=>?_);have hlp:isLp z1.2=true:=by rw[<-Zan];exact ht24
 refine vQ ?_;refine Jm rfl ?_;refine JO.callPK (Lr:=[_,_]) (Zaq .st N T hc h9 b z1.2 h1s stE Z6M rfl nameP ZV Z5i (fun us hus hu=>((ZS T hc b us hus).weak (fun F hF=>by rw[List.mem_singleton.1 hF];exact List.mem_cons_self)).sub (fun z=>Sub.stT))) rfl (.swap _ _ _) qF qA (fun hbad=>?_) ?_
 · exact JX.pnI (by unfold insertP;rw[hz0,Option.bind_some,hz1,Option.bind_some];rw[if_pos hlp,hbad];rfl)
 intro z2 hz2;have h2:Lt z2.2 ts:=Lt.trans (Z39 ZV.le _ _ hz2) h1.1;refine vD ?_;refine JO.openEv (s:=26) rfl (fun a26 l26 c26 _ _=>?_);refine Jq (Z0 Z1k rfl) (JO.m (Z9 (cs':=[_,_,_,_,_,_,_,_,_,_,_,_,_,_]) rfl rfl qU rfl rfl rfl rfl Z3P) (by rfl) ?_);refine vS [0,2,3] ?_
 first|(have hlp:isLp z1.2=false:=(by rw[<-Zan];exact ht24);refine J.has (L':=[PB T b z1.2,⟨b3,_,_⟩,⟨b2,_,_⟩]) (by repeat(first|exact .all|exact .nil|refine Has.cons (by repeat(first|exact .here|apply Pk.past|apply Pk.there)) ?_)) ?_;have hx:=h1)|(have hx:=h2)
 refine vQ ?_;refine Jm rfl ?_;refine JO.callPK (Lr:=[_,_]) (ZA T hc b _ (hx.1.trans hts) Z5M (by decide+kernel) (by decide+kernel) (asc (by decide+kernel))) rfl (.refl _) qF qA (fun hbad=>?_) ?_
 · exact JX.pnI (by first|(unfold insertP;rw[hz0,Option.bind_some,hz1,Option.bind_some];rw[if_pos hlp,hz2,Option.bind_some];unfold insRows;rw[hbad];rfl)|(unfold insertP;rw[hz0,Option.bind_some,hz1,Option.bind_some];rw[if_neg (by rw[hlp];decide)];unfold insRows;rw[hbad];rfl))
 intro z3 hz3;have h3:Lt z3.2 ts:=Lt.trans (Zk _ _ _ _ hz3) hx.1;refine vD ?_;refine vP [0,2,3] ?_;refine Jm rfl ?_;refine JO.callPK (Lr:=[_,_]) (Z8n .rw N T hc h9 b z3.2 (h3.1.trans hts) rwE Zai rfl (withinP e) (Z39 hed.le) 32 Z37 (fun us hus hu=>Z4f N T hc h9 b us hus e hed (fun vs hvs hv=>hex vs hvs (by have:=h3.2;omega)))) rfl (.refl _) qF qA (fun hbad=>?_) ?_
 · exact JX.pnI (by first|(unfold insertP;rw[hz0,Option.bind_some,hz1,Option.bind_some];rw[if_pos hlp,hz2,Option.bind_some];unfold insRows;rw[hz3,Option.bind_some,hbad];rfl)|(unfold insertP;rw[hz0,Option.bind_some,hz1,Option.bind_some];rw[if_neg (by rw[hlp];decide)];unfold insRows;rw[hz3,Option.bind_some,hbad];rfl))
 intro z4 hz4;refine vD ?_;refine JO.openEv (s:=31) rfl (fun a31 l31 c31 _ _=>?_);refine Jq (Z0 Z1G rfl) (JO.m (Z9 (cs':=[_,_,_,_,_,_,_,_,_,_,_,_,_,_]) rfl rfl qU rfl rfl rfl rfl Z4M) (by rfl) ?_);refine vP [2,3] ?_;refine Jq (ZU (cs:=[_,_,_,_,_,_,_,_,_,_,_,_,_,_]) Zj rfl rfl rfl) (JO.m (Z2 rfl rfl qU qC qO Zo) (by rfl) ?_);refine vS [2] ?_;refine vR ?_;refine JX.toP ?_;exact JX.retLCs (Lr:=[_,_]) rfl ({stK 3 with tb:=z1.1,names:=z2.1,rows:=z4.1},z4.2) (by unfold insertP;rw[hz0,Option.bind_some,hz1,Option.bind_some];rw[if_pos hlp,hz2,Option.bind_some];unfold insRows;rw[hz3,Option.bind_some,hz4];rfl) (.refl _) rfl rfl hb0 rfl Zj HasOwn.mem (ZQ rfl) (Sub.st rfl fun X w hf w' hk=>⟨Za (FrS.nil _),hf _ qI w' hk,SlE.weak (hf _ qI w' hk) (fun _ _ _ _=>trivial),Za trivial,Za trivial,Za (FrS.nil _),Z16,Za trivial,Z16⟩);apply yK
 repeat first|apply yX|apply yB
 first|(have hlp:isLp z1.2=false:=(by rw[<-Zan];exact ht24);refine J.has (L':=[PB T b z1.2,⟨b3,_,_⟩,⟨b2,_,_⟩]) (by repeat(first|exact .all|exact .nil|refine Has.cons (by repeat(first|exact .here|apply Pk.past|apply Pk.there)) ?_)) ?_;have hx:=h1)|(have hx:=h2)
 refine vQ ?_;refine Jm rfl ?_;refine JO.callPK (Lr:=[_,_]) (ZA T hc b _ (hx.1.trans hts) Z5M (by decide+kernel) (by decide+kernel) (asc (by decide+kernel))) rfl (.refl _) qF qA (fun hbad=>?_) ?_
 · exact JX.pnI (by first|(unfold insertP;rw[hz0,Option.bind_some,hz1,Option.bind_some];rw[if_pos hlp,hz2,Option.bind_some];unfold insRows;rw[hbad];rfl)|(unfold insertP;rw[hz0,Option.bind_some,hz1,Option.bind_some];rw[if_neg (by rw[hlp];decide)];unfold insRows;rw[hbad];rfl))
 intro z3 hz3;have h3:Lt z3.2 ts:=Lt.trans (Zk _ _ _ _ hz3) hx.1;refine vD ?_;refine vP [0,2,3] ?_;refine Jm rfl ?_;refine JO.callPK (Lr:=[_,_]) (Z8n .rw N T hc h9 b z3.2 (h3.1.trans hts) rwE Zai rfl (withinP e) (Z39 hed.le) 32 Z37 (fun us hus hu=>Z4f N T hc h9 b us hus e hed (fun vs hvs hv=>hex vs hvs (by have:=h3.2;omega)))) rfl (.refl _) qF qA (fun hbad=>?_) ?_
 · exact JX.pnI (by first|(unfold insertP;rw[hz0,Option.bind_some,hz1,Option.bind_some];rw[if_pos hlp,hz2,Option.bind_some];unfold insRows;rw[hz3,Option.bind_some,hbad];rfl)|(unfold insertP;rw[hz0,Option.bind_some,hz1,Option.bind_some];rw[if_neg (by rw[hlp];decide)];unfold insRows;rw[hz3,Option.bind_some,hbad];rfl))
 intro z4 hz4;refine vD ?_;refine JO.openEv (s:=31) rfl (fun a31 l31 c31 _ _=>?_);refine Jq (Z0 Z1G rfl) (JO.m (Z9 (cs':=[_,_,_,_,_,_,_,_,_,_,_,_,_,_]) rfl rfl qU rfl rfl rfl rfl Z4M) (by rfl) ?_);refine vP [2,3] ?_;refine Jq (ZU (cs:=[_,_,_,_,_,_,_,_,_,_,_,_,_,_]) Zj rfl rfl rfl) (JO.m (Z2 rfl rfl qU qC qO Zo) (by rfl) ?_);refine vS [2] ?_;refine vR ?_;refine JX.toP ?_;exact JX.retLCs (Lr:=[_,_]) rfl ({stK 3 with tb:=z1.1,names:=[],rows:=z4.1},z4.2) (by unfold insertP;rw[hz0,Option.bind_some,hz1,Option.bind_some];rw[if_neg (by rw[hlp];decide)];unfold insRows;rw[hz3,Option.bind_some,hz4];rfl) (.refl _) rfl rfl hb0 rfl Zj HasOwn.mem (ZQ rfl) (Sub.st rfl fun X w hf w' hk=>⟨Za (FrS.nil _),Za (FrS.nil _),SlE.weak (hf _ qI w' hk) (fun _ _ _ _=>trivial),Za trivial,Za trivial,Za (FrS.nil _),Z16,Za trivial,Z16⟩)
end Go.Proofs.YtbedigkncjbggaaGreatDoor
namespace Go.Pz
open Go Go.Vc
theorem Z7J{e:Ps Ex}(he:Dn e): ∀(n m:Nat) (ts:List T3),ts.length<=n->ts.length<=m->joinsG e n ts=joinsG e m ts
 |0,m,ts,h,_=>by
   have:ts=[]:=List.length_eq_zero_iff.1 qM;subst this;cases m with
   |zero=>rfl
   |succ m=>rw[joinsG,joinsG,if_neg (by exact Bool.false_ne_true)]
 |n+1,0,ts,_,h=>by
   have:ts=[]:=List.length_eq_zero_iff.1 qM;subst this;rw[joinsG,joinsG,if_neg (by exact Bool.false_ne_true)]
 |n+1,m+1,ts,h,h'=>by
   rw[joinsG,joinsG]
   split
   · exact Zm fun y hy=>by
       have h2:=(Z64 he _ _ hy).2;have h3:=(Z2o 1 Z15 ts).length_le;rw[Z7J he n m y.2 qM qM]
   · rfl
def joinsC(e:Ps Ex):Ps (List Src):=fun ts=>joinsG e ts.length ts
def isJ(us:List T3):Bool:=isT 1 Z15 us||isT 1 Z35 us
theorem ZbL{e:Ps Ex}{ts:List T3}(h:isJ ts=false):joinsC e ts=some ([],ts):=by
 unfold joinsC;cases ts.length with
 |zero=>rfl
 |succ n=>rw[joinsG,if_neg (by rw[show(isT 1 Z15 ts||isT 1 Z35 ts)=false from h];decide)]
theorem ZaI{e:Ps Ex}(he:Dn e){ts:List T3}(h:isJ ts=true):joinsC e ts=(joinP e (skT 1 Z15 ts)).bind fun s=>(joinsC e s.2).map fun y=>(s.1::y.1,y.2):=by
 unfold joinsC;rw[Z7J he _ (ts.length+1) ts qM qM,joinsG,if_pos (by exact h)];exact Zm fun y hy=>by
   have h2:=(Z64 he _ _ hy).2;have h3:=(Z2o 1 Z15 ts).length_le;rw[Z7J he _ y.2.length y.2 qM qM]
def joinI(e:Ps Ex)(xs:List Src):Ps (List Src):=fun us=>(joinsC e us).map fun y=>(xs++y.1,y.2)
theorem Z4w{e:Ps Ex}{xs:List Src}{us:List T3}(h:isJ us=false):joinI e xs us=some (xs,us):=by
 unfold joinI;rw[ZbL h];simp
theorem Z6e{e:Ps Ex}(he:Dn e){xs:List Src}{us:List T3}(h:isJ us=true):joinI e xs us=(joinP e (skT 1 Z15 us)).bind fun s=>joinI e (xs++[s.1]) s.2:=by
 unfold joinI;rw[ZaI he h,Option.map_bind];refine Zm fun s _=>?_;simp only[Function.comp];cases joinsC e s.2 with
 |none=>rfl
 |some y=>simp
def qTail(e:Ps Ex)(is:List Itm)(xs:List Src):Ps St:=fun us=>
 if xs.length<=4 then(whereP e us).bind fun w=>(groupP e w.2).bind fun g=>(orderP e g.2).bind fun o=>(limitP o.2).map fun l=>
  ({stK 4 with items:=is,from_:=xs,where_:=w.1,group:=g.1,order:=o.1,limit:=l.1},l.2)
 else none
theorem Z2t(e:Ps Ex)(ts:List T3):queryP e ts=(listP 16 (itemP e) ts).bind fun i=>(wantP 1 Z5G i.2).bind fun a=>(sourceP a.2).bind fun s=>(joinI e [s.1] s.2).bind fun j=>qTail e i.1 j.1 j.2:=by
 unfold queryP joinI;refine Zm fun i _=>Zm fun a _=>Zm fun s _=>?_;show(joinsC e s.2).bind _=_;cases joinsC e s.2 with
 |none=>rfl
 |some j=>simp only[Option.bind_some,Option.map_some,qTail,List.singleton_append,List.length_cons]
theorem ZaY{e:Ps Ex}{us:List T3}(h:isT 1 Z5p us=true):groupP e us=(wantP 1 w_BY us.tail).bind fun a=>listP 16 e a.2:=by unfold groupP;rw[if_pos h]
theorem Zhm{e:Ps Ex}{us:List T3}(h:isT 1 Z5p us=false):groupP e us=some ([],us):=by unfold groupP;rw[if_neg (by rw[h];decide)]
theorem Zba{e:Ps Ex}{us:List T3}(h:isT 1 Z4y us=true):orderP e us=(wantP 1 w_BY us.tail).bind fun a=>listP 16 (keyP e) a.2:=by unfold orderP;rw[if_pos h]
theorem ZhU{e:Ps Ex}{us:List T3}(h:isT 1 Z4y us=false):orderP e us=some ([],us):=by unfold orderP;rw[if_neg (by rw[h];decide)]
theorem Zec{us:List T3}(h:isT 1 Z5Y us=true):limitP us=(takeP 3 us.tail).map fun z=>(z.1.n,z.2):=by unfold limitP;rw[if_pos h]
theorem Zhu{us:List T3}(h:isT 1 Z5Y us=false):limitP us=some (-1,us):=by unfold limitP;rw[if_neg (by rw[h];decide)]
theorem Zby{us:List T3}{z:Src×List T3}(h:sourceP us=some z):z.1.on=[]:=by
 unfold sourceP at h;obtain⟨n,_,h⟩:=bnd h
 split at h
 · obtain⟨m,_,rfl⟩:=mpd h;rfl
 split at h
 · obtain⟨m,_,rfl⟩:=mpd h;rfl
 · injection h with h;subst h;rfl
theorem ZfA(us:List T3):(isT 1 Z15 us||((decide ((0:Int)<(((skT 1 Z15 us).length:Nat):Int))&&seq ((skT 1 Z15 us).headD t3D).t Z35)&&(((skT 1 Z15 us).headD t3D).k==1)))=isJ us:=by
 unfold isJ;cases h:isT 1 Z15 us with
 |true=>rfl
 |false=>
   have hs:skT 1 Z15 us=us:=by unfold skT;rw[h];rfl
   rw[hs];cases us with
   |nil=>rfl
   |cons t r=>
     rw[decide_eq_true (show(0:Int)<(((t::r).length:Nat):Int) by simp),Bool.true_and,Z2D];show(false||(sq t.t Z35&&(t.k==1)))=(false||((t.k==1)&&sq t.t Z35));rw[Bool.and_comm]
end Go.Pz
namespace Go.Pz
open Go Go.Vc
theorem Z7w{e:Ps Ex}(he:Dn e){us:List T3}{z:List Ex×List T3}(h:whereP e us=some z):z.2<:+us:=by
 unfold whereP at h
 split at h
 · rename_i hi
   obtain⟨v,h5,rfl⟩:=mpd h;exact(he _ _ h5).1.trans (ZG hi).1
 · injection h with h;subst h;exact List.suffix_refl us
end Go.Pz
