/- The parser: keywords. No condition. -/
import Derived.Test.YtbedigkncjbggaaDoorXQ2
import Derived.Test.YtbedigkncjbggaaDoorXG7
import Derived.Test.YtbedigkncjbggaaDoorXQ1
set_option maxRecDepth 20000
namespace Go.Proofs.YtbedigkncjbggaaDoor
open Go Go.Vc
open Go.Pz
theorem wantN{k:Int}{s:ByteArray}{ts:List T3}(h:isT k s ts=false):wantP k s ts=none:=by unfold wantP;rw[if_neg (by rw[h];decide)]
theorem wantY{k:Int}{s:ByteArray}{ts:List T3}(h:isT k s ts=true):wantP k s ts=some ((),ts.tail):=by unfold wantP;rw[if_pos h]
abbrev kvL:List (ByteArray×Value):=[(Z4k,.int .i64 20),(Z96,.int .i64 21),(Z99,.int .i64 22),(Z98,.int .i64 23)]
theorem Z7Y{a b:ByteArray}(h:sq a b=true):a=b:=by
 cases a;cases b
 simpa [sq] using h
theorem ZaC{w:ByteArray}{q:Int}(h:aggK w=some q): ∃j,j<4/\kvL[j]? =some (w,.int .i64 q):=by
 unfold aggK at h
 split at h
 · rename_i e;injection h with h;subst h;have e:=Z7Y e;subst e;exact⟨0,by decide,rfl⟩
 split at h
 · rename_i e;injection h with h;subst h;have e:=Z7Y e;subst e;exact⟨1,by decide,rfl⟩
 split at h
 · rename_i e;injection h with h;subst h;have e:=Z7Y e;subst e;exact⟨2,by decide,rfl⟩
 split at h
 · rename_i e;injection h with h;subst h;have e:=Z7Y e;subst e;exact⟨3,by decide,rfl⟩
 · cases h
theorem Z3R:(kvL.map (·.1)).Nodup:=by decide
theorem Z4c{a b:ByteArray}(h:seq a b=false): ¬sq a b=true:=by rw[<-Z4G,h];decide
theorem Z2b{a b:ByteArray}(h:seq a b=true):sq a b=true:=by rw[<-Z4G];exact h
structure KwS where
 m:MapS
 z:Option (Ex×List T3)
abbrev KwS.x(s:KwS):Ex:=(s.z.getD (ex0,[])).1
def KwS.L(T:Tk)(b:Nat)(us:List T3)(Lr:List Own)(s:KwS):List Own:=PB T b (match s.z with|none=>us|some z=>z.2)::(mOwn s.m++Lr)
def KwS.T(b:Nat)(w:ByteArray)(q:Int)(s:KwS):Nat->Ty
 |0=>.is (.map s.m.mp)
 |5=>.is (.map s.m.mp)
 |6=>.is (.string w)
 |7=>.is (.int .i64 q)
 |8=>.is (.pointer (some ⟨b,0,none⟩))
 |9=>.rep (ExR s.x)
 |10=>.rep (ExsR [s.x])
 |_=>.any
structure KwS.inv (e:Ps Ex) (us:List T3) (s:KwS) (D:Array Bool):Prop where
 m:MInv kvL s.m fun j=>D.getD j false
 f:D.getD 5 false=true->∀j,j<5->D.getD j false=true
 z:D.getD 9 false=s.z.isSome
 r: ∀z,s.z=some z->e us=some z
 g:D.getD 10 false=true->D.getD 9 false=true
theorem Z97{D:Array Bool}{i:Nat}(hi:i<D.size)(j:Nat):((fun j=>(D.setIfInBounds i true).getD j false) j=true)↔j=i\/((fun j=>D.getD j false) j=true):=ZL hi
theorem Zu{D:Array Bool}{i j:Nat}(hi:i<D.size)(h:j≠i):(D.setIfInBounds i true).getD j false=D.getD j false:=by
 cases hq:D.getD j false with
 |true=>exact(ZL hi).2 (.inr hq)
 |false=>
   cases hq':(D.setIfInBounds i true).getD j false with
   |false=>rfl
   | true => rcases(ZL hi).1 hq' with e|e
             · exact absurd e h
             · rw[hq]at e;cases e
theorem KwS.inv.other{e:Ps Ex}{us:List T3}{s:KwS}{D:Array Bool}(h:s.inv e us D){i:Nat}(hs:i<D.size)(h4:4<i)(h9:i≠9)(h5:i=5->∀j,j<5->D.getD j false=true)(h10:i=10->D.getD 9 false=true):s.inv e us (D.setIfInBounds i true):=by
 refine⟨h.m.other h4 (Z97 hs),fun h1 j hj=>?_,by rw[Zu hs (Ne.symm h9)];exact h.z,h.r,fun h1=>by
  rw[Zu hs (Ne.symm h9)]
  by_cases hi:i=10
  · exact h10 hi
  · exact h.g (by rw[<-Zu hs (Ne.symm hi)];exact h1)⟩
 rw[Zu hs qM]
 by_cases hi:i=5
 · exact h5 hi j hj
 · exact h.f (by rw[<-Zu hs (Ne.symm hi)];exact h1) j hj
theorem KwS.inv.make{e:Ps Ex}{us:List T3}{s:KwS}{D:Array Bool}(h:s.inv e us D)(hs:0<D.size)(h0:D.getD 0 false=false)(r:Nat):KwS.inv e us ⟨⟨some r,[],0⟩,s.z⟩ (D.setIfInBounds 0 true):=by
 refine⟨h.m.make h0 (Z97 hs) r,fun h1 j hj=>?_,by rw[Zu hs qD];exact h.z,h.r,fun h1=>by rw[Zu hs qD]at h1 ⊢;exact h.g h1⟩;rw[Zu hs qD]at h1;have:=h.f h1 0 qD;rw[h0]at this;cases this
theorem KwS.inv.ins{e:Ps Ex}{us:List T3}{s:KwS}{D:Array Bool}(h:s.inv e us D){j:Nat}{kv:ByteArray×Value}(hs:j+1<D.size)(hj:kvL[j]? =some kv)(hj4:j<4)(h1:D.getD (j+1) false=false)(h0:D.getD 0 false=true):KwS.inv e us ⟨⟨s.m.mp,s.m.es++[(kv.1,kv.2,s.m.n)],s.m.n+1⟩,s.z⟩ (D.setIfInBounds (j+1) true):=by
 refine⟨h.m.ins hj h0 (Z97 hs),fun h2 k hk=>?_,by rw[Zu hs qM];exact h.z,h.r,fun h3=>by rw[Zu hs qM]at h3 ⊢;exact h.g h3⟩;rw[Zu hs qM]at h2;have:=h.f h2 (j+1) qM;rw[h1]at this;cases this
theorem KwS.inv.call{e:Ps Ex}{us:List T3}{s:KwS}{D:Array Bool}(h:s.inv e us D)(hs:9<D.size){z:Ex×List T3}(hz:e us=some z):KwS.inv e us ⟨s.m,some z⟩ (D.setIfInBounds 9 true):=
 ⟨h.m.other qD (Z97 hs),fun h1 j hj=>by rw[Zu hs qM];exact h.f (by rw[<-Zu hs qD];exact h1) j hj,by rw[(ZL hs).2 (.inl rfl)];rfl,fun y hy=>by injection hy with hy;subst hy;exact hz,fun _=>(ZL hs).2 (.inl rfl)⟩
theorem aggY{w:ByteArray}(h:(seq w Z4k||(seq w Z96||(seq w Z99||seq w Z98)))=true): ∃q,aggK w=some q:=by
 simp only[Z4G]at h;unfold aggK
 repeat' split
 all_goals first|exact⟨_,rfl⟩|simp_all
theorem aggN{w:ByteArray}(h:(seq w Z4k||(seq w Z96||(seq w Z99||seq w Z98)))=false):aggK w=none:=by
 simp only[Z4G]at h;unfold aggK
 simp_all
theorem kwT0{b:Nat}{w:ByteArray}{q:Int}{m m':MapS}{zo:Option (Ex×List T3)}{D:Array Bool}(h5:D.getD 5 false=false)(hd:D.getD 0 false=false){j:Nat}(hj:D.getD j false=true):KwS.T b w q ⟨m',zo⟩ j=KwS.T b w q ⟨m,zo⟩ j:=by
 match j,hj with
 |0,hj=>rw[hd]at hj;cases hj
 |5,hj=>rw[h5]at hj;cases hj
 |1,_=>rfl
 |2,_=>rfl
 |3,_=>rfl
 |4,_=>rfl
 |6,_=>rfl
 |7,_=>rfl
 |8,_=>rfl
 |9,_=>rfl
 |10,_=>rfl
 |j+11,_=>rfl
theorem kwT9{b:Nat}{w:ByteArray}{q:Int}{m:MapS}{zo zo':Option (Ex×List T3)}{D:Array Bool}(h10:D.getD 10 false=false)(hd:D.getD 9 false=false){j:Nat}(hj:D.getD j false=true):KwS.T b w q ⟨m,zo'⟩ j=KwS.T b w q ⟨m,zo⟩ j:=by
 match j,hj with
 |9,hj=>rw[hd]at hj;cases hj
 |10,hj=>rw[h10]at hj;cases hj
 |0,_=>rfl
 |1,_=>rfl
 |2,_=>rfl
 |3,_=>rfl
 |4,_=>rfl
 |5,_=>rfl
 |6,_=>rfl
 |7,_=>rfl
 |8,_=>rfl
 |j+11,_=>rfl
theorem Z4s(T:Tk)(hc:T.ts.length<=T.cap)(b:Nat)(ts:List T3)(hts:ts<:+T.ts)(e:Ps Ex)(exprDn: ∀{us:List T3} {z:Ex×List T3},e us=some z->z.2<:+us)(hex: ∀us,us<:+T.ts->us.length<ts.length->CallP Tryd.prog Zn [PB T b (us)] [T.G,AF] [.is (.pointer (some ⟨b,0,none⟩))] (e (us)=none) flt (fun z:Ex×List T3=>e (us)=some z) (fun z=>[PB T b z.2]) (fun z=>.rep (ExR z.1))):CallP Tryd.prog Z4x [PB T b ts] [T.G,AF] [.is (.pointer (some ⟨b,0,none⟩))] (kwP e ts=none) flt (fun z:Ex×List T3=>kwP e ts=some z) (fun z=>[PB T b z.2]) (fun z=>.rep (ExR z.1)):=
CallP.of (fn:=Tryd.f101) Tryd.func101 (n:=53) rfl rfl rfl (fun _ _=>by kernel_rfl) fun E W hb0=>by
 refine vQ ?_;refine JO.alloc ZM rfl fun b2=>(vP [0,2] ?_);refine Jm rfl ?_;refine JO.callPK (Lr:=[_]) (Z1E T hc b ts hts 1) rfl (.swap _ _ _) qF qA (fun hbad=>?_) ?_
 · exact JX.pnI (by unfold kwP;rw[hbad];rfl)
 rintro⟨⟨k1,w,n1⟩,r1⟩ hz1;refine vD ?_;refine Jq (Z54 (off:=1) qK rfl rfl) ?_;refine Ja rfl (vP [0,2,3] ?_);refine Jm rfl (vS [0,2,3,8] ?_);apply yk;refine vQ ?_;refine Jq (Z3b rfl rfl) (Ja rfl (vS [0,2,3,8,9] ?_));refine yC rfl (fun ht9=>?_) (fun ht9=>?_)
 try simp only[yd,yf]at ht9
 refine vQ ?_;refine Jq (Zo (cs:=[_,_,_]) Z2K (.cons rfl (.cons rfl .nil)) rfl rfl) (Jq (ZV rfl (Z24 2 1 em) qA) ?_);refine JO.m (Z2 rfl rfl qU qC qO Zf) (by rfl) ?_;refine vS [2] ?_;refine vR ?_;refine JX.toP ?_;exact JX.retLCs (Lr:=[_]) rfl (lit 2 1 em,r1) (by unfold kwP;rw[hz1];simp only[Option.bind_some];rw[if_pos (Z2b ht9)]) (.refl _) rfl rfl hb0 rfl Z7 HasOwn.mem Z16 (Sub.refl _)
 try simp only[yd,yf]at ht9
 have hT:=Z4c ht9;refine vQ ?_;refine Jq (Z3b rfl rfl) (Ja rfl (vS [0,2,3,8,13] ?_));refine yC rfl (fun ht13=>?_) (fun ht13=>?_)
 try simp only[yd,yf]at ht13
 refine vQ ?_;refine Jq (Zo (cs:=[_,_,_]) Z2K (.cons rfl .nil) rfl rfl) (Jq (ZV rfl (Z24 2 0 em) qA) ?_);refine JO.m (Z2 rfl rfl qU qC qO Zf) (by rfl) ?_;refine vS [2] ?_;refine vR ?_;refine JX.toP ?_;exact JX.retLCs (Lr:=[_]) rfl (lit 2 0 em,r1) (by unfold kwP;rw[hz1];simp only[Option.bind_some];rw[if_neg hT,if_pos (Z2b ht13)]) (.refl _) rfl rfl hb0 rfl Z7 HasOwn.mem Z16 (Sub.refl _)
 try simp only[yd,yf]at ht13
 have hF:=Z4c ht13;refine vQ ?_;refine Jq (Z3b rfl rfl) (Ja rfl (vS [0,2,3,8,17] ?_));refine yC rfl (fun ht17=>?_) (fun ht17=>?_)
 try simp only[yd,yf]at ht17
 refine vQ ?_;refine Jq (Zo (cs:=[_,_,_]) Z2K .nil rfl rfl) (Jq (ZV rfl (Z24 0 0 em) qA) ?_);refine JO.m (Z2 rfl rfl qU qC qO Zf) (by rfl) ?_;refine vS [2] ?_;refine vR ?_;refine JX.toP ?_;exact JX.retLCs (Lr:=[_]) rfl (lit 0 0 em,r1) (by unfold kwP;rw[hz1];simp only[Option.bind_some];rw[if_neg hT,if_neg hF,if_pos (Z2b ht17)]) (.refl _) rfl rfl hb0 rfl Z7 HasOwn.mem Z16 (Sub.refl _)
 try simp only[yd,yf]at ht17
 have hN:=Z4c ht17;refine vQ ?_;refine Jq (Z3b rfl rfl) (Ja rfl (vS [0,2,3,8,21] ?_))
 first|apply J.or [0,2,3] rfl (.cons rfl (.cons rfl (.cons rfl .nil)))|apply J.orN [0,2,3] rfl qS
 · intro ht21
   refine vQ ?_;refine Jq (Z3b rfl rfl) (Ja rfl ?_);apply yI;refine JX.next ?_;apply J.orT [0,2,3] rfl qS
   · intro ht21
     refine vQ ?_;refine Jq (Z3b rfl rfl) (Ja rfl ?_);apply yI;refine JX.next ?_;apply J.orT [0,2,3] rfl qS
     · intro ht21
       refine vQ ?_;refine Jq (Z3b rfl rfl) (Ja rfl ?_);apply yI;exact JX.mids [21,0,2,3] qS
 repeat apply yQ
 refine yC rfl (fun ht21=>?_) (fun ht21=>?_)
 try simp only[yd,yf]at ht21
 obtain⟨q,hq⟩:=aggY ht21;refine vQ ?_;refine Jm rfl (Jm rfl (JO.callK (Lr:=[_]) (Zh T hc b r1 ((ZA 1 _ _ hz1).1.trans hts) s_lp) rfl (.refl _) qF qA ?_));intro _ _;refine vD ?_;refine JO.callPK (Lr:=_) (Zb (.pointer (some ⟨b,0,none⟩)) (isT 5 s_lp r1)) rfl (Z1b _) Z13 qA (fun hbad=>?_) ?_
 · exact JX.pnI (by unfold kwP;rw[hz1];simp only[Option.bind_some];rw[if_neg hT,if_neg hF,if_neg hN,hq];dsimp only;rw[wantN hbad];rfl)
 intro _ hlp;refine vD ?_;refine vS [0,2,3] ?_;rw[ZU hlp];refine vQ ?_;refine Jq (Ob.im (Zo (cs:=[_,_,_,_,_,_,_,_]) Z3O (.cons rfl .nil) rfl rfl) (Sub.leaf (k:=20) (vk:=0) (vn:=0) (vs:=em) (tb:=em) (nm:=em) (sl:=0))) (JO.alloc ZM rfl fun b4=>(JO.m (Z2 rfl rfl qU qC qO Zf) (by rfl) ?_));refine vS [0,2,3,4] ?_;rcases Bool.eq_false_or_eq_true (seq w Z4k)with hcnt|hcnt
 refine vQ ?_;refine Jm rfl (Jq (Z9s (cc:=false) rfl rfl (by rw[hcnt];rfl)) ?_);refine Jm rfl (JO.gd rfl rfl rfl (Jm rfl (JO.gd rfl rfl rfl (JO.callK (Lr:=[_,_]) (Zh T hc b r1.tail (Zl ((ZA 1 _ _ hz1).1.trans hts)) Z25) rfl (.swap _ _ _) qF qA ?_))));intro _ _;refine vD ?_;refine JO.gd rfl rfl rfl (Jq (Z5r rfl) (Jq (Z9y rfl rfl) (vS [0,2,3,4,37] ?_)));refine yC rfl (fun ht37=>?_) (fun ht37=>?_)
 try have hst:isT 5 Z25 r1.tail=false:=by simpa using ht37
 try rw[Z17 hst]
 refine J.has (L':=[PB T b r1.tail,⟨b4,Z4,.rep (ExR (nd 20 []))⟩,⟨b2,Z4,.is (.agg #[.int .i64 0,.int .i64 0,.int .i64 0,.string ⟨#[]⟩,.string ⟨#[]⟩,.string ⟨#[]⟩,.int .i64 0,.slice none 0 0])⟩]) (by repeat(first|exact .all|exact .nil|refine Has.cons (by repeat(first|exact .here|apply Pk.past|apply Pk.there)) ?_)) ?_
 repeat apply yQ
 refine J.regMach (Bad:=e r1.tail=none) (ch:=flt) 11 (KwS.L T b (r1.tail) [⟨b4,Z4,.rep (ExR (nd 20 []))⟩,⟨b2,Z4,.is (.agg #[.int .i64 0,.int .i64 0,.int .i64 0,.string ⟨#[]⟩,.string ⟨#[]⟩,.string ⟨#[]⟩,.int .i64 0,.slice none 0 0])⟩]) (KwS.T b w q) (KwS.inv e (r1.tail)) (fun i=>decide (i<5)||i==9) ⟨⟨none,[],0⟩,none⟩ rfl ?_ (fun hbad=>?_) hmx qK rfl qK ?_ ?_ ?_
 · exact⟨.start (fun j=>by rw[Array.getD_eq_getD_getElem?,Array.getElem?_replicate];split<;>rfl),(fun h=>by cases h),rfl,(fun z h=>by cases h),(fun h=>by cases h)⟩
 · exact JX.pnI (by first|(unfold kwP;rw[hz1];simp only[Option.bind_some];rw[if_neg hT,if_neg hF,if_neg hN,hq];dsimp only;rw[wantY hlp];simp only[Option.bind_some];rw[Z2b hcnt,hst];simp only[Bool.true_and,Bool.false_eq_true,if_false];rw[hbad];rfl)|(unfold kwP;rw[hz1];simp only[Option.bind_some];rw[if_neg hT,if_neg hF,if_neg hN,hq];dsimp only;rw[wantY hlp];simp only[Option.bind_some];rw[if_neg (by rw[Bool.and_eq_true];exact fun h=>Z4c hcnt h.1)];rw[hbad];rfl))
 · intro s D i o hs hinv hA hbg hd hr
   match i,hA,hbg,hd,hr with
   |0,_,hbg,_,_=>exact absurd hbg qD
   |1,_,hbg,_,_=>exact absurd hbg qD
   |2,_,hbg,_,_=>exact absurd hbg qD
   |3,_,hbg,_,_=>exact absurd hbg qD
   |4,_,hbg,_,_=>exact absurd hbg qD
   |5,hA,_,hd,hr=>
     obtain rfl:=Option.some.inj hA;have h9:=hinv.other (i:=5) qM qD qD (fun _ j hj=>by
       match j,hj with
       |0,_=>exact hr _ rfl ⟨0,.data⟩ (by simp) rfl
       |1,_=>exact hr _ rfl ⟨1,.data⟩ (by simp) rfl
       |2,_=>exact hr _ rfl ⟨2,.data⟩ (by simp) rfl
       |3,_=>exact hr _ rfl ⟨3,.data⟩ (by simp) rfl
       |4,_=>exact hr _ rfl ⟨4,.data⟩ (by simp) rfl) (fun h=>by cases h)
     exact⟨h9,rfl,(Z1 rfl)⟩
   |6,hA,_,hd,hr=>
     obtain rfl:=Option.some.inj hA;exact⟨hinv.other qM qD qD (fun h=>by cases h) (fun h=>by cases h),rfl,(Z1 rfl)⟩
   |7,hA,_,hd,hr=>
     obtain rfl:=Option.some.inj hA;have hall:=hinv.f (hr _ rfl ⟨5,.data⟩ (by simp) rfl);refine⟨hinv.other qM qD qD (fun h=>by cases h) (fun h=>by cases h),rfl,?_⟩;obtain⟨j,hj4,hj⟩:=ZaC hq;have hget:=hinv.m.get Z3R hj (hall (j+1) qM);obtain⟨r,hr0⟩:=hinv.m.some_ (hall 0 qD);obtain⟨⟨mp,es,n⟩,zo⟩:=s;dsimp only at hr0;subst hr0;exact Zao ZR Zi ZbE rfl rfl (List.mem_cons_of_mem _ List.mem_cons_self) (by dsimp only at hget;rw[hget];rfl)
   |8,hA,_,hd,hr=>
     obtain rfl:=Option.some.inj hA;exact⟨hinv.other qM qD qD (fun h=>by cases h) (fun h=>by cases h),rfl,(Z1 rfl)⟩
   |9,_,hbg,_,_=>exact absurd hbg qD
   |10,hA,_,hd,hr=>
     obtain rfl:=Option.some.inj hA;exact⟨hinv.other qM qD qD (fun h=>by cases h) (fun _=>hr _ rfl ⟨9,.data⟩ (by simp) rfl),rfl,(Z2y ZK rfl)⟩
   |i+11,hA,_,hd,hr=>simp at hA
 · intro s D i o hs hinv hA hbg hd hr
   match i,hA,hbg,hd,hr with
   |0,hA,_,hd,hr=>
     obtain rfl:=Option.some.inj hA;obtain⟨⟨mp,es,n⟩,zo⟩:=s;have hmp:mp=none:=by
       have:=hinv.m.a;dsimp only at this;rw[hd]at this;cases mp with
       |none=>rfl
       |some r=>cases this
     subst hmp;have h5:D.getD 5 false=false:=by
       cases h:D.getD 5 false with
       |false=>rfl
       |true=>have:=hinv.f h 0 qD;rw[hd]at this;cases this
     exact⟨rfl,.inl (Z8w.to (fun r=>⟨⟨⟨some r,[],0⟩,zo⟩,hinv.make qM hd r,fun j hj=>kwT0 h5 hd hj⟩) (fun _=>rfl) (fun _=>.swap _ _ _))⟩
   |1,hA,_,hd,hr=>
     obtain rfl:=Option.some.inj hA;obtain⟨⟨mp,es,n⟩,zo⟩:=s;obtain⟨r,hr0⟩:=hinv.m.some_ (hr _ rfl ⟨0,.data⟩ (by simp) rfl);dsimp only at hr0;subst hr0;have hg:=hinv.m.fresh Z3R (j:=0) rfl hd;have hi:=hinv.ins (j:=0) qM rfl qD hd (hr _ rfl ⟨0,.data⟩ (by simp) rfl);exact⟨rfl,.inl ((BigOb.ofM (Z1f ZR Zi rfl rfl rfl hg (.there .here)) rfl).to (fun _=>⟨_,hi,fun j hj=>rfl⟩) (fun _=>rfl) (fun _=>.refl _))⟩
   |2,hA,_,hd,hr=>
     obtain rfl:=Option.some.inj hA;obtain⟨⟨mp,es,n⟩,zo⟩:=s;obtain⟨r,hr0⟩:=hinv.m.some_ (hr _ rfl ⟨0,.data⟩ (by simp) rfl);dsimp only at hr0;subst hr0;have hg:=hinv.m.fresh Z3R (j:=1) rfl hd;have hi:=hinv.ins (j:=1) qM rfl qD hd (hr _ rfl ⟨0,.data⟩ (by simp) rfl);exact⟨rfl,.inl ((BigOb.ofM (Z1f ZR Zi rfl rfl rfl hg (.there .here)) rfl).to (fun _=>⟨_,hi,fun j hj=>rfl⟩) (fun _=>rfl) (fun _=>.refl _))⟩
   |3,hA,_,hd,hr=>
     obtain rfl:=Option.some.inj hA;obtain⟨⟨mp,es,n⟩,zo⟩:=s;obtain⟨r,hr0⟩:=hinv.m.some_ (hr _ rfl ⟨0,.data⟩ (by simp) rfl);dsimp only at hr0;subst hr0;have hg:=hinv.m.fresh Z3R (j:=2) rfl hd;have hi:=hinv.ins (j:=2) qM rfl qD hd (hr _ rfl ⟨0,.data⟩ (by simp) rfl);exact⟨rfl,.inl ((BigOb.ofM (Z1f ZR Zi rfl rfl rfl hg (.there .here)) rfl).to (fun _=>⟨_,hi,fun j hj=>rfl⟩) (fun _=>rfl) (fun _=>.refl _))⟩
   |4,hA,_,hd,hr=>
     obtain rfl:=Option.some.inj hA;obtain⟨⟨mp,es,n⟩,zo⟩:=s;obtain⟨r,hr0⟩:=hinv.m.some_ (hr _ rfl ⟨0,.data⟩ (by simp) rfl);dsimp only at hr0;subst hr0;have hg:=hinv.m.fresh Z3R (j:=3) rfl hd;have hi:=hinv.ins (j:=3) qM rfl qD hd (hr _ rfl ⟨0,.data⟩ (by simp) rfl);exact⟨rfl,.inl ((BigOb.ofM (Z1f ZR Zi rfl rfl rfl hg (.there .here)) rfl).to (fun _=>⟨_,hi,fun j hj=>rfl⟩) (fun _=>rfl) (fun _=>.refl _))⟩
   |5,_,hbg,_,_=>exact absurd hbg qD
   |6,_,hbg,_,_=>exact absurd hbg qD
   |7,_,hbg,_,_=>exact absurd hbg qD
   |8,_,hbg,_,_=>exact absurd hbg qD
   |9,hA,_,hd,hr=>
     obtain rfl:=Option.some.inj hA;obtain⟨m,zo⟩:=s;have hzo:zo=none:=by
       have:=hinv.z;dsimp only at this;rw[hd]at this;cases zo with
       |none=>rfl
       |some r=>cases this
     subst hzo;have h10:D.getD 10 false=false:=by
       cases h:D.getD 10 false with
       |false=>rfl
       |true=>have:=hinv.g h;rw[hd]at this;cases this
     exact⟨rfl,.inr ((Z3W rfl (hex r1.tail (Zl ((ZA 1 _ _ hz1).1.trans hts)) (by have:=(Zt hlp).2;have h1:r1.length<ts.length:=(ZA 1 _ _ hz1).2;omega)) (.refl _) qF qA).to (fun z=>⟨⟨m,some z.1⟩,hinv.call qM z.2,fun j hj=>kwT9 h10 hd hj⟩) (fun _=>rfl) (fun _=>.refl _))⟩
   |10,_,hbg,_,_=>exact absurd hbg qD
   |i+11,hA,_,hd,hr=>simp at hA
 intro s D hs hall hinv;obtain⟨⟨mp,es,n⟩,zo⟩:=s;obtain⟨r,hr0⟩:=hinv.m.some_ (hall 0 qD);dsimp only at hr0;subst hr0;have hzz:=hinv.z;rw[hall 9 qD]at hzz;obtain⟨z,hzo⟩:=Option.isSome_iff_exists.1 hzz.symm;dsimp only at hzo;subst hzo;have hzr:e (r1.tail)=some z:=hinv.r z rfl;refine JO.subL (L':=[PB T b z.2]++(⟨r,0,.ob (sObj es n)⟩::[⟨b4,Z4,.rep (ExR (nd 20 []))⟩,⟨b2,Z4,.is (.agg #[.int .i64 0,.int .i64 0,.int .i64 0,.string ⟨#[]⟩,.string ⟨#[]⟩,.string ⟨#[]⟩,.int .i64 0,.slice none 0 0])⟩])) (.refl _) (vD ?_);refine Jq (ZV rfl (Z1B q [z.1]) qA) ?_;refine JO.m (Z2 rfl rfl qU qC qO Zf) (by rfl) ?_;refine vS [0,2,4] ?_
 first|(refine J.has (L':=[PB T b z.2,⟨b4,Z4,.rep (ExR (nd q [z.1]))⟩,⟨b2,Z4,.is (.agg #[.int .i64 0,.int .i64 0,.int .i64 0,.string ⟨#[]⟩,.string ⟨#[]⟩,.string ⟨#[]⟩,.int .i64 0,.slice none 0 0])⟩]) (by repeat(first|exact .all|exact .nil|refine Has.cons (by repeat(first|exact .here|apply Pk.past|apply Pk.there)) ?_)) ?_;have husx:=(exprDn hzr).trans (Zl ((ZA 1 _ _ hz1).1.trans hts)))|(have hst:isT 5 Z25 r1.tail=true:=(by simpa using ht37);rw[ZU hst];have husx:=Zl (Zl ((ZA 1 _ _ hz1).1.trans hts)))
 refine vQ ?_;refine Jm rfl (Jm rfl (JO.callK (Lr:=[_,_]) (Zh T hc b _ husx s_rp) rfl (.refl _) qF qA ?_));intro _ _;refine vD ?_;refine JO.callPK (Lr:=_) (Zb (.pointer (some ⟨b,0,none⟩)) (isT 5 s_rp _)) rfl (Z1b _) Z13 qA (fun hbad=>?_) ?_
 · exact JX.pnI (by first|(unfold kwP;rw[hz1];simp only[Option.bind_some];rw[if_neg hT,if_neg hF,if_neg hN,hq];dsimp only;rw[wantY hlp];simp only[Option.bind_some];rw[Z2b hcnt,hst];simp only[Bool.true_and,if_true];rw[wantN hbad];rfl)|(first|(unfold kwP;rw[hz1];simp only[Option.bind_some];rw[if_neg hT,if_neg hF,if_neg hN,hq];dsimp only;rw[wantY hlp];simp only[Option.bind_some];rw[Z2b hcnt,hst];simp only[Bool.true_and,Bool.false_eq_true,if_false];rw[hzr];simp only[Option.bind_some];rw[wantN hbad];rfl)|(unfold kwP;rw[hz1];simp only[Option.bind_some];rw[if_neg hT,if_neg hF,if_neg hN,hq];dsimp only;rw[wantY hlp];simp only[Option.bind_some];rw[if_neg (by rw[Bool.and_eq_true];exact fun h=>Z4c hcnt h.1)];rw[hzr];simp only[Option.bind_some];rw[wantN hbad];rfl)))
 intro _ hrp;refine vD ?_;refine vS [2,4] ?_;rw[ZU hrp];refine vQ ?_;refine Jq (Z21 Z7 rfl) (JO.m (Z2 rfl rfl qU qC qO Zf) (by rfl) ?_);refine vS [2] ?_;refine vR ?_;refine JX.toP ?_;exact JX.retLCs (Lr:=[_,_]) rfl (nd q [z.1],z.2.tail) (by unfold kwP;rw[hz1];simp only[Option.bind_some];rw[if_neg hT,if_neg hF,if_neg hN,hq];dsimp only;rw[wantY hlp];simp only[Option.bind_some];rw[Z2b hcnt,hst];simp only[Bool.true_and,Bool.false_eq_true,if_false];rw[hzr];simp only[Option.bind_some];rw[wantY hrp];rfl) (.refl _) rfl rfl hb0 rfl Z7 HasOwn.mem Z16 (Sub.refl _);apply yK
 repeat first|apply yX|apply yB
 first|(refine J.has (L':=[PB T b z.2,⟨b4,Z4,.rep (ExR (nd q [z.1]))⟩,⟨b2,Z4,.is (.agg #[.int .i64 0,.int .i64 0,.int .i64 0,.string ⟨#[]⟩,.string ⟨#[]⟩,.string ⟨#[]⟩,.int .i64 0,.slice none 0 0])⟩]) (by repeat(first|exact .all|exact .nil|refine Has.cons (by repeat(first|exact .here|apply Pk.past|apply Pk.there)) ?_)) ?_;have husx:=(exprDn hzr).trans (Zl ((ZA 1 _ _ hz1).1.trans hts)))|(have hst:isT 5 Z25 r1.tail=true:=(by simpa using ht37);rw[ZU hst];have husx:=Zl (Zl ((ZA 1 _ _ hz1).1.trans hts)))
 refine vQ ?_;refine Jm rfl (Jm rfl (JO.callK (Lr:=[_,_]) (Zh T hc b _ husx s_rp) rfl (.refl _) qF qA ?_));intro _ _;refine vD ?_;refine JO.callPK (Lr:=_) (Zb (.pointer (some ⟨b,0,none⟩)) (isT 5 s_rp _)) rfl (Z1b _) Z13 qA (fun hbad=>?_) ?_
 · exact JX.pnI (by first|(unfold kwP;rw[hz1];simp only[Option.bind_some];rw[if_neg hT,if_neg hF,if_neg hN,hq];dsimp only;rw[wantY hlp];simp only[Option.bind_some];rw[Z2b hcnt,hst];simp only[Bool.true_and,if_true];rw[wantN hbad];rfl)|(first|(unfold kwP;rw[hz1];simp only[Option.bind_some];rw[if_neg hT,if_neg hF,if_neg hN,hq];dsimp only;rw[wantY hlp];simp only[Option.bind_some];rw[Z2b hcnt,hst];simp only[Bool.true_and,Bool.false_eq_true,if_false];rw[hzr];simp only[Option.bind_some];rw[wantN hbad];rfl)|(unfold kwP;rw[hz1];simp only[Option.bind_some];rw[if_neg hT,if_neg hF,if_neg hN,hq];dsimp only;rw[wantY hlp];simp only[Option.bind_some];rw[if_neg (by rw[Bool.and_eq_true];exact fun h=>Z4c hcnt h.1)];rw[hzr];simp only[Option.bind_some];rw[wantN hbad];rfl)))
 intro _ hrp;refine vD ?_;refine vS [2,4] ?_;rw[ZU hrp];refine vQ ?_;refine Jq (Z21 Z7 rfl) (JO.m (Z2 rfl rfl qU qC qO Zf) (by rfl) ?_);refine vS [2] ?_;refine vR ?_;refine JX.toP ?_;exact JX.retLCs (Lr:=[_,_]) rfl (nd 20 [],r1.tail.tail.tail) (by unfold kwP;rw[hz1];simp only[Option.bind_some];rw[if_neg hT,if_neg hF,if_neg hN,hq];dsimp only;rw[wantY hlp];simp only[Option.bind_some];rw[Z2b hcnt,hst];simp only[Bool.true_and,if_true];rw[wantY hrp];rfl) (.refl _) rfl rfl hb0 rfl Z7 HasOwn.mem Z16 (Sub.refl _);refine vQ ?_;refine Jm rfl (Jq (Z9s (cc:=true) rfl rfl (by rw[hcnt];rfl)) ?_);refine Jm rfl (JO.gn rfl rfl rfl rfl rfl (JO.gn rfl rfl rfl rfl rfl (JO.gn rfl rfl rfl rfl rfl (Jq (Z9p rfl rfl) (vS [0,2,3,4,37] ?_)))));refine yC rfl (fun ht37=>?_) (fun ht37=>?_)
 try simp only[yd,yf]at ht37
 try have hst:isT 5 Z25 r1.tail=false:=by simpa using ht37
 refine J.has (L':=[PB T b r1.tail,⟨b4,Z4,.rep (ExR (nd 20 []))⟩,⟨b2,Z4,.is (.agg #[.int .i64 0,.int .i64 0,.int .i64 0,.string ⟨#[]⟩,.string ⟨#[]⟩,.string ⟨#[]⟩,.int .i64 0,.slice none 0 0])⟩]) (by repeat(first|exact .all|exact .nil|refine Has.cons (by repeat(first|exact .here|apply Pk.past|apply Pk.there)) ?_)) ?_
 repeat apply yQ
 refine J.regMach (Bad:=e r1.tail=none) (ch:=flt) 11 (KwS.L T b (r1.tail) [⟨b4,Z4,.rep (ExR (nd 20 []))⟩,⟨b2,Z4,.is (.agg #[.int .i64 0,.int .i64 0,.int .i64 0,.string ⟨#[]⟩,.string ⟨#[]⟩,.string ⟨#[]⟩,.int .i64 0,.slice none 0 0])⟩]) (KwS.T b w q) (KwS.inv e (r1.tail)) (fun i=>decide (i<5)||i==9) ⟨⟨none,[],0⟩,none⟩ rfl ?_ (fun hbad=>?_) hmx qK rfl qK ?_ ?_ ?_
 · exact⟨.start (fun j=>by rw[Array.getD_eq_getD_getElem?,Array.getElem?_replicate];split<;>rfl),(fun h=>by cases h),rfl,(fun z h=>by cases h),(fun h=>by cases h)⟩
 · exact JX.pnI (by first|(unfold kwP;rw[hz1];simp only[Option.bind_some];rw[if_neg hT,if_neg hF,if_neg hN,hq];dsimp only;rw[wantY hlp];simp only[Option.bind_some];rw[Z2b hcnt,hst];simp only[Bool.true_and,Bool.false_eq_true,if_false];rw[hbad];rfl)|(unfold kwP;rw[hz1];simp only[Option.bind_some];rw[if_neg hT,if_neg hF,if_neg hN,hq];dsimp only;rw[wantY hlp];simp only[Option.bind_some];rw[if_neg (by rw[Bool.and_eq_true];exact fun h=>Z4c hcnt h.1)];rw[hbad];rfl))
 · intro s D i o hs hinv hA hbg hd hr
   match i,hA,hbg,hd,hr with
   |0,_,hbg,_,_=>exact absurd hbg qD
   |1,_,hbg,_,_=>exact absurd hbg qD
   |2,_,hbg,_,_=>exact absurd hbg qD
   |3,_,hbg,_,_=>exact absurd hbg qD
   |4,_,hbg,_,_=>exact absurd hbg qD
   |5,hA,_,hd,hr=>
     obtain rfl:=Option.some.inj hA;have h9:=hinv.other (i:=5) qM qD qD (fun _ j hj=>by
       match j,hj with
       |0,_=>exact hr _ rfl ⟨0,.data⟩ (by simp) rfl
       |1,_=>exact hr _ rfl ⟨1,.data⟩ (by simp) rfl
       |2,_=>exact hr _ rfl ⟨2,.data⟩ (by simp) rfl
       |3,_=>exact hr _ rfl ⟨3,.data⟩ (by simp) rfl
       |4,_=>exact hr _ rfl ⟨4,.data⟩ (by simp) rfl) (fun h=>by cases h)
     exact⟨h9,rfl,(Z1 rfl)⟩
   |6,hA,_,hd,hr=>
     obtain rfl:=Option.some.inj hA;exact⟨hinv.other qM qD qD (fun h=>by cases h) (fun h=>by cases h),rfl,(Z1 rfl)⟩
   |7,hA,_,hd,hr=>
     obtain rfl:=Option.some.inj hA;have hall:=hinv.f (hr _ rfl ⟨5,.data⟩ (by simp) rfl);refine⟨hinv.other qM qD qD (fun h=>by cases h) (fun h=>by cases h),rfl,?_⟩;obtain⟨j,hj4,hj⟩:=ZaC hq;have hget:=hinv.m.get Z3R hj (hall (j+1) qM);obtain⟨r,hr0⟩:=hinv.m.some_ (hall 0 qD);obtain⟨⟨mp,es,n⟩,zo⟩:=s;dsimp only at hr0;subst hr0;exact Zao ZR Zi ZbE rfl rfl (List.mem_cons_of_mem _ List.mem_cons_self) (by dsimp only at hget;rw[hget];rfl)
   |8,hA,_,hd,hr=>
     obtain rfl:=Option.some.inj hA;exact⟨hinv.other qM qD qD (fun h=>by cases h) (fun h=>by cases h),rfl,(Z1 rfl)⟩
   |9,_,hbg,_,_=>exact absurd hbg qD
   |10,hA,_,hd,hr=>
     obtain rfl:=Option.some.inj hA;exact⟨hinv.other qM qD qD (fun h=>by cases h) (fun _=>hr _ rfl ⟨9,.data⟩ (by simp) rfl),rfl,(Z2y ZK rfl)⟩
   |i+11,hA,_,hd,hr=>simp at hA
 · intro s D i o hs hinv hA hbg hd hr
   match i,hA,hbg,hd,hr with
   |0,hA,_,hd,hr=>
     obtain rfl:=Option.some.inj hA;obtain⟨⟨mp,es,n⟩,zo⟩:=s;have hmp:mp=none:=by
       have:=hinv.m.a;dsimp only at this;rw[hd]at this;cases mp with
       |none=>rfl
       |some r=>cases this
     subst hmp;have h5:D.getD 5 false=false:=by
       cases h:D.getD 5 false with
       |false=>rfl
       |true=>have:=hinv.f h 0 qD;rw[hd]at this;cases this
     exact⟨rfl,.inl (Z8w.to (fun r=>⟨⟨⟨some r,[],0⟩,zo⟩,hinv.make qM hd r,fun j hj=>kwT0 h5 hd hj⟩) (fun _=>rfl) (fun _=>.swap _ _ _))⟩
   |1,hA,_,hd,hr=>
     obtain rfl:=Option.some.inj hA;obtain⟨⟨mp,es,n⟩,zo⟩:=s;obtain⟨r,hr0⟩:=hinv.m.some_ (hr _ rfl ⟨0,.data⟩ (by simp) rfl);dsimp only at hr0;subst hr0;have hg:=hinv.m.fresh Z3R (j:=0) rfl hd;have hi:=hinv.ins (j:=0) qM rfl qD hd (hr _ rfl ⟨0,.data⟩ (by simp) rfl);exact⟨rfl,.inl ((BigOb.ofM (Z1f ZR Zi rfl rfl rfl hg (.there .here)) rfl).to (fun _=>⟨_,hi,fun j hj=>rfl⟩) (fun _=>rfl) (fun _=>.refl _))⟩
   |2,hA,_,hd,hr=>
     obtain rfl:=Option.some.inj hA;obtain⟨⟨mp,es,n⟩,zo⟩:=s;obtain⟨r,hr0⟩:=hinv.m.some_ (hr _ rfl ⟨0,.data⟩ (by simp) rfl);dsimp only at hr0;subst hr0;have hg:=hinv.m.fresh Z3R (j:=1) rfl hd;have hi:=hinv.ins (j:=1) qM rfl qD hd (hr _ rfl ⟨0,.data⟩ (by simp) rfl);exact⟨rfl,.inl ((BigOb.ofM (Z1f ZR Zi rfl rfl rfl hg (.there .here)) rfl).to (fun _=>⟨_,hi,fun j hj=>rfl⟩) (fun _=>rfl) (fun _=>.refl _))⟩
   |3,hA,_,hd,hr=>
     obtain rfl:=Option.some.inj hA;obtain⟨⟨mp,es,n⟩,zo⟩:=s;obtain⟨r,hr0⟩:=hinv.m.some_ (hr _ rfl ⟨0,.data⟩ (by simp) rfl);dsimp only at hr0;subst hr0;have hg:=hinv.m.fresh Z3R (j:=2) rfl hd;have hi:=hinv.ins (j:=2) qM rfl qD hd (hr _ rfl ⟨0,.data⟩ (by simp) rfl);exact⟨rfl,.inl ((BigOb.ofM (Z1f ZR Zi rfl rfl rfl hg (.there .here)) rfl).to (fun _=>⟨_,hi,fun j hj=>rfl⟩) (fun _=>rfl) (fun _=>.refl _))⟩
   |4,hA,_,hd,hr=>
     obtain rfl:=Option.some.inj hA;obtain⟨⟨mp,es,n⟩,zo⟩:=s;obtain⟨r,hr0⟩:=hinv.m.some_ (hr _ rfl ⟨0,.data⟩ (by simp) rfl);dsimp only at hr0;subst hr0;have hg:=hinv.m.fresh Z3R (j:=3) rfl hd;have hi:=hinv.ins (j:=3) qM rfl qD hd (hr _ rfl ⟨0,.data⟩ (by simp) rfl);exact⟨rfl,.inl ((BigOb.ofM (Z1f ZR Zi rfl rfl rfl hg (.there .here)) rfl).to (fun _=>⟨_,hi,fun j hj=>rfl⟩) (fun _=>rfl) (fun _=>.refl _))⟩
   |5,_,hbg,_,_=>exact absurd hbg qD
   |6,_,hbg,_,_=>exact absurd hbg qD
   |7,_,hbg,_,_=>exact absurd hbg qD
   |8,_,hbg,_,_=>exact absurd hbg qD
   |9,hA,_,hd,hr=>
     obtain rfl:=Option.some.inj hA;obtain⟨m,zo⟩:=s;have hzo:zo=none:=by
       have:=hinv.z;dsimp only at this;rw[hd]at this;cases zo with
       |none=>rfl
       |some r=>cases this
     subst hzo;have h10:D.getD 10 false=false:=by
       cases h:D.getD 10 false with
       |false=>rfl
       |true=>have:=hinv.g h;rw[hd]at this;cases this
     exact⟨rfl,.inr ((Z3W rfl (hex r1.tail (Zl ((ZA 1 _ _ hz1).1.trans hts)) (by have:=(Zt hlp).2;have h1:r1.length<ts.length:=(ZA 1 _ _ hz1).2;omega)) (.refl _) qF qA).to (fun z=>⟨⟨m,some z.1⟩,hinv.call qM z.2,fun j hj=>kwT9 h10 hd hj⟩) (fun _=>rfl) (fun _=>.refl _))⟩
   |10,_,hbg,_,_=>exact absurd hbg qD
   |i+11,hA,_,hd,hr=>simp at hA
 intro s D hs hall hinv;obtain⟨⟨mp,es,n⟩,zo⟩:=s;obtain⟨r,hr0⟩:=hinv.m.some_ (hall 0 qD);dsimp only at hr0;subst hr0;have hzz:=hinv.z;rw[hall 9 qD]at hzz;obtain⟨z,hzo⟩:=Option.isSome_iff_exists.1 hzz.symm;dsimp only at hzo;subst hzo;have hzr:e (r1.tail)=some z:=hinv.r z rfl;refine JO.subL (L':=[PB T b z.2]++(⟨r,0,.ob (sObj es n)⟩::[⟨b4,Z4,.rep (ExR (nd 20 []))⟩,⟨b2,Z4,.is (.agg #[.int .i64 0,.int .i64 0,.int .i64 0,.string ⟨#[]⟩,.string ⟨#[]⟩,.string ⟨#[]⟩,.int .i64 0,.slice none 0 0])⟩])) (.refl _) (vD ?_);refine Jq (ZV rfl (Z1B q [z.1]) qA) ?_;refine JO.m (Z2 rfl rfl qU qC qO Zf) (by rfl) ?_;refine vS [0,2,4] ?_
 first|(refine J.has (L':=[PB T b z.2,⟨b4,Z4,.rep (ExR (nd q [z.1]))⟩,⟨b2,Z4,.is (.agg #[.int .i64 0,.int .i64 0,.int .i64 0,.string ⟨#[]⟩,.string ⟨#[]⟩,.string ⟨#[]⟩,.int .i64 0,.slice none 0 0])⟩]) (by repeat(first|exact .all|exact .nil|refine Has.cons (by repeat(first|exact .here|apply Pk.past|apply Pk.there)) ?_)) ?_;have husx:=(exprDn hzr).trans (Zl ((ZA 1 _ _ hz1).1.trans hts)))|(have hst:isT 5 Z25 r1.tail=true:=(by simpa using ht37);rw[ZU hst];have husx:=Zl (Zl ((ZA 1 _ _ hz1).1.trans hts)))
 refine vQ ?_;refine Jm rfl (Jm rfl (JO.callK (Lr:=[_,_]) (Zh T hc b _ husx s_rp) rfl (.refl _) qF qA ?_));intro _ _;refine vD ?_;refine JO.callPK (Lr:=_) (Zb (.pointer (some ⟨b,0,none⟩)) (isT 5 s_rp _)) rfl (Z1b _) Z13 qA (fun hbad=>?_) ?_
 · exact JX.pnI (by first|(unfold kwP;rw[hz1];simp only[Option.bind_some];rw[if_neg hT,if_neg hF,if_neg hN,hq];dsimp only;rw[wantY hlp];simp only[Option.bind_some];rw[Z2b hcnt,hst];simp only[Bool.true_and,if_true];rw[wantN hbad];rfl)|(first|(unfold kwP;rw[hz1];simp only[Option.bind_some];rw[if_neg hT,if_neg hF,if_neg hN,hq];dsimp only;rw[wantY hlp];simp only[Option.bind_some];rw[Z2b hcnt,hst];simp only[Bool.true_and,Bool.false_eq_true,if_false];rw[hzr];simp only[Option.bind_some];rw[wantN hbad];rfl)|(unfold kwP;rw[hz1];simp only[Option.bind_some];rw[if_neg hT,if_neg hF,if_neg hN,hq];dsimp only;rw[wantY hlp];simp only[Option.bind_some];rw[if_neg (by rw[Bool.and_eq_true];exact fun h=>Z4c hcnt h.1)];rw[hzr];simp only[Option.bind_some];rw[wantN hbad];rfl)))
 intro _ hrp;refine vD ?_;refine vS [2,4] ?_;rw[ZU hrp];refine vQ ?_;refine Jq (Z21 Z7 rfl) (JO.m (Z2 rfl rfl qU qC qO Zf) (by rfl) ?_);refine vS [2] ?_;refine vR ?_;refine JX.toP ?_;exact JX.retLCs (Lr:=[_,_]) rfl (nd q [z.1],z.2.tail) (by unfold kwP;rw[hz1];simp only[Option.bind_some];rw[if_neg hT,if_neg hF,if_neg hN,hq];dsimp only;rw[wantY hlp];simp only[Option.bind_some];rw[if_neg (by rw[Bool.and_eq_true];exact fun h=>Z4c hcnt h.1)];rw[hzr];simp only[Option.bind_some];rw[wantY hrp];rfl) (.refl _) rfl rfl hb0 rfl Z7 HasOwn.mem Z16 (Sub.refl _)
 exfalso
 cases ht37
 try simp only[yd,yf]at ht21
 apply yK;refine vN ?_;apply yN;refine Jq (Zo (cs:=[]) Z5t .nil rfl rfl) (Jq (Z9Z (d:=.struct #[]) qK rfl rfl) ?_);refine JO.pan rfl ?_;exact JX.pnI (by unfold kwP;rw[hz1];simp only[Option.bind_some];rw[if_neg hT,if_neg hF,if_neg hN,aggN ht21])
theorem Z2g{e:Ps Ex}{ts:List T3}(h:ts≠[]):atomP e ts=if((ts.headD t3D).k==3)=true then some (lit 1 (ts.headD t3D).n em,ts.tail)else if((ts.headD t3D).k==4)=true then some (lit 3 0 (ts.headD t3D).t,ts.tail)else if((ts.headD t3D).k==2)=true then(if isT 5 Z79 ts.tail=true then(nameP ts.tail.tail).map fun z=>(.mk 2 0 0 em (ts.headD t3D).t z.1 0 [],z.2)else some (.mk 2 0 0 em em (ts.headD t3D).t 0 [],ts.tail))else if((ts.headD t3D).k==1)=true then kwP e ts else(wantP 5 s_lp ts).bind fun y=>(e y.2).bind fun x=>(wantP 5 s_rp x.2).map fun v=>(x.1,v.2):=by
 cases ts with
 |nil=>exact absurd rfl h
 |cons t r=>rw[atomP];rfl
theorem ZaH{ts:List T3}(h:ts≠[])(hk:((ts.headD t3D).k==2)=true):nameP ts=some ((ts.headD t3D).t,ts.tail):=by
 cases ts with
 |nil=>exact absurd rfl h
 |cons t r=>unfold nameP;rw[takeP,if_pos (show(t.k==2)=true from hk)];rfl
theorem Z5x(T:Tk)(hc:T.ts.length<=T.cap)(b:Nat)(ts:List T3)(hts:ts<:+T.ts)(e:Ps Ex)(exprDn: ∀{us:List T3} {z:Ex×List T3},e us=some z->z.2<:+us)(hex: ∀us,us<:+T.ts->us.length<ts.length->CallP Tryd.prog Zn [PB T b (us)] [T.G,AF] [.is (.pointer (some ⟨b,0,none⟩))] (e (us)=none) flt (fun z:Ex×List T3=>e (us)=some z) (fun z=>[PB T b z.2]) (fun z=>.rep (ExR z.1))):CallP Tryd.prog Z1I [PB T b ts] [T.G,AF] [.is (.pointer (some ⟨b,0,none⟩))] (atomP e ts=none) flt (fun z:Ex×List T3=>atomP e ts=some z) (fun z=>[PB T b z.2]) (fun z=>.rep (ExR z.1)):=
CallP.of (fn:=Tryd.f99) Tryd.func99 (n:=79) rfl rfl rfl (fun _ _=>by kernel_rfl) fun E W hb0=>by
 refine vQ ?_;refine JO.alloc ZM rfl fun b2=>(vP [0,2] ?_);refine Jm rfl (Jm rfl (Jq (Z3 rfl) (Jq (Z0 Z8 rfl) (Jq (Z5 Zj rfl rfl) (Jq (ZS ZG rfl) (Jq (Z1U rfl rfl) ?_))))));refine JO.callPK (Lr:=_) (Zb (.pointer (some ⟨b,0,none⟩)) _) rfl (Z1b _) Z13 qA (fun hbad=>?_) ?_
 · exact JX.pnI (by cases ts with|nil=>rfl|cons t r=>simp at hbad)
 intro z hz;have hne:ts≠[]:=Z1M hz;refine vD ?_;refine vP [0,2] ?_;refine Jm rfl (Jq (Z3 rfl) (Jq (Z0 Z8 rfl) (Jq (Z5 Zj rfl rfl) (Jq (Zq ZH rfl rfl rfl qM (Z1G hne)) ?_))));refine Jq (Z3D (enc:=T3.cells) (sz:=3) (i:=T.k ts) (y:=ts.headD t3D) (cs:=T3.cells (ts.headD t3D)) ZF rfl qI rfl (Tk.head hts hne) (by rw[Tk.j_eq hc hts hne];rfl) rfl) ?_;refine JO.alloc Z1C rfl fun b3=>(JO.m (Z2 rfl rfl qU qC qO ZN) (by rfl) ?_);refine vP [0,2,3] ?_;refine Jq (Z0 Z1R rfl) (Jq (Z5 Zy rfl rfl) (vS [0,2,3,21] ?_));apply yk;refine vQ ?_;refine Jq (ZT rfl rfl) (Ja rfl (vS [0,2,3,21,22] ?_));refine yC rfl (fun ht22=>?_) (fun ht22=>?_);have k3:((ts.headD t3D).k==3)=true:=ht22;refine vQ ?_;refine Jm rfl (Jm rfl (Jq (Z3 rfl) (Jq (Z0 Z8 rfl) (Jq (Z5 Zj rfl rfl) (Jq (Z4a ZG ZH rfl rfl qM (by have:=Z1G hne;omega)) ?_)))));refine Jq (Z3 rfl) (Jq (Z0 Z8 rfl) (JO.m (Zc (cs':=[_]) rfl rfl qU rfl rfl rfl rfl Z2D) (by rfl) ?_));refine vP [2,3] ?_;refine Jq (Z0 Z8q rfl) (Jq (Z5 Zcn rfl rfl) (Jq (Zo (cs:=[_,_,_]) Z2K (.cons rfl (.cons rfl .nil)) rfl rfl) (Jq (ZV rfl (Z24 1 (ts.headD t3D).n em) qA) ?_)));refine JO.m (Z2 rfl rfl qU qC qO Zf) (by rfl) ?_;refine vS [2] ?_;refine vR ?_;refine JX.toP ?_;exact JX.retLCs (Lr:=[_,_]) rfl (lit 1 (ts.headD t3D).n em,ts.tail) (by rw[Z2g hne];rw[if_pos k3]) (List.Perm.trans (List.perm_append_comm (l₁:=[_,_]) (l₂:=[_])) (.of_eq (congrArg (fun v=>Own.mk b Z1H (.is (.agg #[v]))::[_,_]) (Tk.tail hc hts hne)))) rfl rfl hb0 rfl Z7 HasOwn.mem Z16 (Sub.refl _);have n3: ¬((ts.headD t3D).k==3)=true:=by rw[ht22];decide
 refine vQ ?_;refine Jq (ZT rfl rfl) (Ja rfl (vS [0,2,3,21,36] ?_));refine yC rfl (fun ht36=>?_) (fun ht36=>?_);have k4:((ts.headD t3D).k==4)=true:=ht36;refine vQ ?_;refine Jm rfl (Jm rfl (Jq (Z3 rfl) (Jq (Z0 Z8 rfl) (Jq (Z5 Zj rfl rfl) (Jq (Z4a ZG ZH rfl rfl qM (by have:=Z1G hne;omega)) ?_)))));refine Jq (Z3 rfl) (Jq (Z0 Z8 rfl) (JO.m (Zc (cs':=[_]) rfl rfl qU rfl rfl rfl rfl Z2D) (by rfl) ?_));refine vP [2,3] ?_;refine Jq (Z0 Z3B rfl) (Jq (Z5 ZC rfl rfl) (Jq (Zo (cs:=[_,_,_]) Z2K (.cons rfl (.cons rfl .nil)) rfl rfl) (Jq (ZV rfl (Z24 3 0 (ts.headD t3D).t) qA) ?_)));refine JO.m (Z2 rfl rfl qU qC qO Zf) (by rfl) ?_;refine vS [2] ?_;refine vR ?_;refine JX.toP ?_;exact JX.retLCs (Lr:=[_,_]) rfl (lit 3 0 (ts.headD t3D).t,ts.tail) (by rw[Z2g hne];rw[if_neg n3,if_pos k4]) (List.Perm.trans (List.perm_append_comm (l₁:=[_,_]) (l₂:=[_])) (.of_eq (congrArg (fun v=>Own.mk b Z1H (.is (.agg #[v]))::[_,_]) (Tk.tail hc hts hne)))) rfl rfl hb0 rfl Z7 HasOwn.mem Z16 (Sub.refl _);have n4: ¬((ts.headD t3D).k==4)=true:=by rw[ht36];decide
 refine vQ ?_;refine Jq (ZT rfl rfl) (Ja rfl (vS [0,2,21,50] ?_));refine yC rfl (fun ht50=>?_) (fun ht50=>?_);have k2:((ts.headD t3D).k==2)=true:=ht50;refine vQ ?_;refine Jm rfl ?_;refine JO.callPK (Lr:=[_,_]) (Zr T hc b ts hts) rfl (List.perm_append_comm (l₁:=[_,_]) (l₂:=[_])) qF qA (fun hbad=>?_) ?_
 · exact JX.pnI (by exact absurd hbad (by rw[ZaH hne k2];simp))
 intro z1 hz1;obtain rfl:z1=((ts.headD t3D).t,ts.tail):=by rw[ZaH hne k2]at hz1;exact(Option.some.inj hz1).symm
 refine vD ?_;refine Jq (Zo (cs:=[_,_,_,_,_,_,_,_]) Z3O (.cons rfl (.cons rfl .nil)) rfl rfl) (JO.alloc ZM rfl fun b4=>(JO.m (Z2 rfl rfl qU qC qO Zf) (by rfl) ?_));refine vP [0,2,4] ?_;refine Jm rfl (JO.callK (Lr:=[_,_,_]) (Zh T hc b ts.tail (Zl hts) Z79) rfl (.swap _ _ _) qF qA ?_);intro _ _;refine vD ?_;refine vS [0,2,4,56] ?_;refine yC rfl (fun ht56=>?_) (fun ht56=>?_);have hdt:isT 5 Z79 ts.tail=true:=ht56;rw[ZU hdt]
 repeat apply yQ
 refine J.regBPm (Bad:=nameP ts.tail.tail=none) (ch:=flt) (G:={z:ByteArray×List T3 // nameP ts.tail.tail=some z}) 3 5 (fun hbad=>?_) (Tg:=fun g=>.is (.string g.1.1)) (Lg:=fun g=>[PB T b g.1.2]++[⟨b4,Z4,.is (.agg #[.int .i64 2,.int .i64 0,.int .i64 0,.string ⟨#[]⟩,.string ⟨#[]⟩,.string (ts.headD t3D).t,.int .i64 0,.slice none 0 0])⟩,⟨b3,Z1r,.is (.agg #[.int .i64 (ts.headD t3D).k,.string (ts.headD t3D).t,.int .i64 (ts.headD t3D).n])⟩,⟨b2,Z4,.is (.agg #[.int .i64 0,.int .i64 0,.int .i64 0,.string ⟨#[]⟩,.string ⟨#[]⟩,.string ⟨#[]⟩,.int .i64 0,.slice none 0 0])⟩]) ([⟨b4,Z4,.is (.agg #[.int .i64 2,.int .i64 0,.int .i64 0,.string ⟨#[]⟩,.string ⟨#[]⟩,.string (ts.headD t3D).t,.int .i64 0,.slice none 0 0])⟩,⟨b3,Z1r,.is (.agg #[.int .i64 (ts.headD t3D).k,.string (ts.headD t3D).t,.int .i64 (ts.headD t3D).n])⟩,⟨b2,Z4,.is (.agg #[.int .i64 0,.int .i64 0,.int .i64 0,.string ⟨#[]⟩,.string ⟨#[]⟩,.string ⟨#[]⟩,.int .i64 0,.slice none 0 0])⟩]) rfl rfl rfl rfl hmx qK rfl qK (fun _ h=>List.mem_cons_of_mem _ h) (fun g o ho=>List.mem_cons_of_mem _ ho) ?_
 · exact JX.pnI (by rw[Z2g hne];rw[if_neg n3,if_neg n4,if_pos k2];rw[if_pos hdt,hbad];rfl)
 refine yz (Z0 Z6n rfl) (yz (Z5 ZC rfl rfl) (yz (Z1 rfl) ?_));refine RT.bigP (Lq:=[⟨b4,Z4,.is (.agg #[.int .i64 2,.int .i64 0,.int .i64 0,.string ⟨#[]⟩,.string ⟨#[]⟩,.string (ts.headD t3D).t,.int .i64 0,.slice none 0 0])⟩,⟨b3,Z1r,.is (.agg #[.int .i64 (ts.headD t3D).k,.string (ts.headD t3D).t,.int .i64 (ts.headD t3D).n])⟩,⟨b2,Z4,.is (.agg #[.int .i64 0,.int .i64 0,.int .i64 0,.string ⟨#[]⟩,.string ⟨#[]⟩,.string ⟨#[]⟩,.int .i64 0,.slice none 0 0])⟩]) (Z3W rfl (Zr T hc b ts.tail.tail (Zl (Zl hts))) (.refl _) qF qA) ?_;refine yz (Z0 Z8W rfl) ?_;apply yn;intro g;obtain⟨z,hg2⟩:=g;refine vD ?_;refine JO.m (Zc (cs':=[_,_,_,_,_,_,_,_]) rfl rfl qU rfl rfl rfl rfl Z3e) (by rfl) ?_;refine Jq (Z0 Z6n rfl) (JO.m (Zc (cs':=[_,_,_,_,_,_,_,_]) rfl rfl qU rfl rfl rfl rfl Z3e) (by rfl) ?_);refine vS [2,4] ?_
 first|(have hdt:isT 5 Z79 ts.tail=false:=ht56;rw[Z17 hdt])|skip
 refine vQ ?_;refine Jq (Ob.im (Z18 (cs:=[_,_,_,_,_,_,_,_]) Z7 rfl rfl rfl) (Sub.leaf (k:=2) (vk:=0) (vn:=0) (vs:=em) (sl:=0))) (JO.m (Z2 rfl rfl qU qC qO Zf) (by rfl) ?_);refine vS [2] ?_;refine vR ?_;refine JX.toP ?_;exact JX.retLCs (Lr:=[_,_,_]) rfl (.mk 2 0 0 em (ts.headD t3D).t z.1 0 [],z.2) (by rw[Z2g hne];rw[if_neg n3,if_neg n4,if_pos k2];rw[if_pos hdt,hg2];rfl) (.refl _) rfl rfl hb0 rfl Z7 HasOwn.mem Z16 (Sub.refl _);apply yK
 repeat first|apply yX|apply yB
 first|(have hdt:isT 5 Z79 ts.tail=false:=ht56;rw[Z17 hdt])|skip
 refine vQ ?_;refine Jq (Ob.im (Z18 (cs:=[_,_,_,_,_,_,_,_]) Z7 rfl rfl rfl) (Sub.leaf (k:=2) (vk:=0) (vn:=0) (vs:=em) (sl:=0))) (JO.m (Z2 rfl rfl qU qC qO Zf) (by rfl) ?_);refine vS [2] ?_;refine vR ?_;refine JX.toP ?_;exact JX.retLCs (Lr:=[_,_,_]) rfl (.mk 2 0 0 em em (ts.headD t3D).t 0 [],ts.tail) (by rw[Z2g hne];rw[if_neg n3,if_neg n4,if_pos k2];rw[if_neg (by rw[hdt];decide)]) (.refl _) rfl rfl hb0 rfl Z7 HasOwn.mem Z16 (Sub.refl _);have n2: ¬((ts.headD t3D).k==2)=true:=by rw[ht50];decide
 refine vQ ?_;refine Jq (ZT rfl rfl) (Ja rfl (vS [0,2,64] ?_));refine yC rfl (fun ht64=>?_) (fun ht64=>?_);have k1:((ts.headD t3D).k==1)=true:=ht64;refine vQ ?_;refine Jm rfl ?_;refine JO.callPK (Lr:=[_,_]) (Z4s T hc b ts hts e exprDn hex) rfl (List.perm_append_comm (l₁:=[_,_]) (l₂:=[_])) qF qA (fun hbad=>?_) ?_
 · exact JX.pnI (by rw[Z2g hne];rw[if_neg n3,if_neg n4,if_neg n2,if_pos k1];exact hbad)
 intro z hz;refine vD ?_;refine JO.m (Z2 rfl rfl qU qC qO Zf) (by rfl) ?_;refine vS [2] ?_;refine vR ?_;refine JX.toP ?_;exact JX.retLCs (Lr:=[_,_]) rfl z (by rw[Z2g hne];rw[if_neg n3,if_neg n4,if_neg n2,if_pos k1];exact hz) (.refl _) rfl rfl hb0 rfl Z7 HasOwn.mem Z16 (Sub.refl _);apply yK
 repeat first|apply yX|apply yB
 have n1: ¬((ts.headD t3D).k==1)=true:=by rw[ht64];decide
 refine vQ ?_;refine Jm rfl (Jm rfl (JO.callK (Lr:=[_,_]) (Zh T hc b ts hts s_lp) rfl (List.perm_append_comm (l₁:=[_,_]) (l₂:=[_])) qF qA ?_));intro _ _;refine vD ?_;refine JO.callPK (Lr:=_) (Zb (.pointer (some ⟨b,0,none⟩)) (isT 5 s_lp ts)) rfl (Z1b _) Z13 qA (fun hbad=>?_) ?_
 · exact JX.pnI (by rw[Z2g hne];rw[if_neg n3,if_neg n4,if_neg n2,if_neg n1];rw[wantN hbad];rfl)
 intro _ hlp;refine vD ?_;refine vS [0,2] ?_;rw[ZU hlp];refine vQ ?_;refine Jm rfl ?_;refine JO.callPK (Lr:=[_,_]) (hex ts.tail (Zl hts) (Zt hlp).2) rfl (.refl _) qF qA (fun hbad=>?_) ?_
 · exact JX.pnI (by rw[Z2g hne];rw[if_neg n3,if_neg n4,if_neg n2,if_neg n1];rw[wantY hlp];simp only[Option.bind_some];rw[hbad];rfl)
 intro z hz;refine vD ?_;refine JO.alloc ZM rfl fun b5=>(JO.m (Z2 rfl rfl qU qC qO Zf) (by rfl) ?_);refine vP [0,2,5] ?_;refine Jm rfl (Jm rfl (JO.callK (Lr:=[_,_,_]) (Zh T hc b z.2 ((exprDn hz).trans (Zl hts)) s_rp) rfl (.swap _ _ _) qF qA ?_));intro _ _;refine vD ?_;refine JO.callPK (Lr:=_) (Zb (.pointer (some ⟨b,0,none⟩)) (isT 5 s_rp z.2)) rfl (Z1b _) Z13 qA (fun hbad=>?_) ?_
 · exact JX.pnI (by rw[Z2g hne];rw[if_neg n3,if_neg n4,if_neg n2,if_neg n1];rw[wantY hlp];simp only[Option.bind_some];rw[hz];simp only[Option.bind_some];rw[wantN hbad];rfl)
 intro _ hrp;refine vD ?_;refine vS [2,5] ?_;rw[ZU hrp];refine vQ ?_;refine Jq (Z21 Z7 rfl) (JO.m (Z2 rfl rfl qU qC qO Zf) (by rfl) ?_);refine vS [2] ?_;refine vR ?_;refine JX.toP ?_;exact JX.retLCs (Lr:=[_,_,_]) rfl (z.1,z.2.tail) (by rw[Z2g hne];rw[if_neg n3,if_neg n4,if_neg n2,if_neg n1];rw[wantY hlp];simp only[Option.bind_some];rw[hz];simp only[Option.bind_some];rw[wantY hrp];rfl) (.refl _) rfl rfl hb0 rfl Z7 HasOwn.mem Z16 (Sub.refl _)
theorem exprDn'(N:Nat){us:List T3}{z:Ex×List T3}(h:exprP N us=some z):z.2<:+us:=(Z29 N _ _ h).1
theorem Z6G(T:Tk)(hc:T.ts.length<=T.cap)(b:Nat): ∀(N:Nat) (ts:List T3),ts<:+T.ts->ts.length<N->CallP Tryd.prog Zn [PB T b (ts)] [T.G,AF] [.is (.pointer (some ⟨b,0,none⟩))] (exprP N (ts)=none) flt (fun z:Ex×List T3=>exprP N (ts)=some z) (fun z=>[PB T b z.2]) (fun z=>.rep (ExR z.1))
 |0,ts,hts,hl=>absurd hl qM
 |N+1,ts,hts,hl=>by
   have he:=(Z29 N).le;have hat: ∀us,us<:+T.ts->us.length<=N->CallP Tryd.prog Z1I [PB T b (us)] [T.G,AF] [.is (.pointer (some ⟨b,0,none⟩))] (atomP (exprP N) (us)=none) flt (fun z:Ex×List T3=>atomP (exprP N) (us)=some z) (fun z=>[PB T b z.2]) (fun z=>.rep (ExR z.1)):=fun us hus hu=>Z5x T hc b us hus (exprP N) (exprDn' N) fun vs hvs hv=>Z6G T hc b N vs hvs qM;have hfa: ∀us,us<:+T.ts->us.length<=N->CallP Tryd.prog Z14 [PB T b (us)] [T.G,AF] [.is (.pointer (some ⟨b,0,none⟩))] (factorP (exprP N) (us)=none) flt (fun z:Ex×List T3=>factorP (exprP N) (us)=some z) (fun z=>[PB T b z.2]) (fun z=>.rep (ExR z.1)):=fun us hus hu=>Z2V T hc b (exprP N) N hat us.length us hus hu (Nat.le_refl _);have hpr: ∀us,us<:+T.ts->us.length<=N->CallP Tryd.prog Z1t [PB T b (us)] [T.G,AF] [.is (.pointer (some ⟨b,0,none⟩))] (prodP (exprP N) (us)=none) flt (fun z:Ex×List T3=>prodP (exprP N) (us)=some z) (fun z=>[PB T b z.2]) (fun z=>.rep (ExR z.1)):=fun us hus hu=>Z4m T hc b us hus (exprP N) he fun vs hvs hv=>hfa vs hvs qM;have hsu: ∀us,us<:+T.ts->us.length<=N->CallP Tryd.prog Z1N [PB T b (us)] [T.G,AF] [.is (.pointer (some ⟨b,0,none⟩))] (sumP (exprP N) (us)=none) flt (fun z:Ex×List T3=>sumP (exprP N) (us)=some z) (fun z=>[PB T b z.2]) (fun z=>.rep (ExR z.1)):=fun us hus hu=>Z69 T hc b us hus (exprP N) he fun vs hvs hv=>hpr vs hvs qM;have hno: ∀us,us<:+T.ts->us.length<=N->CallP Tryd.prog Z1d [PB T b (us)] [T.G,AF] [.is (.pointer (some ⟨b,0,none⟩))] (notP (exprP N) (us)=none) flt (fun z:Ex×List T3=>notP (exprP N) (us)=some z) (fun z=>[PB T b z.2]) (fun z=>.rep (ExR z.1)):=fun us hus hu=>Z3r T hc b (exprP N) he N hsu us.length us hus hu (Nat.le_refl _);have han: ∀us,us<:+T.ts->us.length<=N->CallP Tryd.prog Z1L [PB T b (us)] [T.G,AF] [.is (.pointer (some ⟨b,0,none⟩))] (andP (exprP N) (us)=none) flt (fun z:Ex×List T3=>andP (exprP N) (us)=some z) (fun z=>[PB T b z.2]) (fun z=>.rep (ExR z.1)):=fun us hus hu=>Z60 T hc b us hus (exprP N) he fun vs hvs hv=>hno vs hvs qM;exact Z5M T hc b ts hts (exprP N) he fun vs hvs hv=>han vs hvs qM
end Go.Proofs.YtbedigkncjbggaaDoor
namespace Go.Pz
open Go Go.Vc
abbrev agv(cs:List Value):Value:=.agg cs.toArray
theorem Z8C{x:Ex}{cs:List Value}{w:World}(h:ExR x (.agg cs.toArray) w): ∃k vk vn vs tb nm sl a len cap,cs=exCells k vk vn vs tb nm sl a len cap:=by
 obtain⟨k,vk,vn,vs,tb,nm,sl,a,len,cap,e⟩:=Z3F h;exact⟨k,vk,vn,vs,tb,nm,sl,a,len,cap,Z2U e⟩
theorem Z81{x:Ex}{cs:List Value}{w:World}(h:ExR x (.agg cs.toArray) w):cs.length=8:=by
 obtain⟨k,vk,vn,vs,tb,nm,sl,a,len,cap,rfl⟩:=Z8C h;rfl
theorem Z87{x:Ex}{cs:List Value}{w:World}(h:ExR x (.agg cs.toArray) w): ∀u∈cs,u.oneCell'=true:=by
 obtain⟨k,vk,vn,vs,tb,nm,sl,a,len,cap,rfl⟩:=Z8C h;intro u hu;simp only[exCells,List.mem_cons,List.mem_nil_iff,or_false]at hu;rcases hu with rfl|rfl|rfl|rfl|rfl|rfl|rfl|rfl<;>rfl
def exE:Enc Ex where
 sz:=8
 R x cs w:=ExR x (.agg cs.toArray) w
 v:=agv
 pos:=by decide
 len:=Z81
 one:=Z87
 nu h:=by
   obtain⟨k,n,h0⟩:=Z3g h;exact⟨_,h0,by simp[undef]⟩
 inj _ _ h:=Z2U h
def itE:Enc Itm where
 sz:=9
 R x cs w:=∃es,cs= .bool x.all::es/\ExR x.ex (.agg es.toArray) w
 v:=agv
 pos:=by decide
 len:=by rintro x cs w ⟨es,rfl,h⟩;simp[Z81 h]
 one:=by
   rintro x cs w ⟨es,rfl,h⟩ u hu;rcases List.mem_cons.1 hu with rfl|hu
   · rfl
   · exact Z87 h u hu
 nu:=by rintro x cs w ⟨es,rfl,h⟩;exact⟨_,rfl,by simp[undef]⟩
 inj _ _ h:=Z2U h
def kyE:Enc Ky where
 sz:=9
 R x cs w:=∃es,cs=es++[.bool x.desc]/\ExR x.ex (.agg es.toArray) w
 v:=agv
 pos:=by decide
 len:=by rintro x cs w ⟨es,rfl,h⟩;simp[Z81 h]
 one:=by
   rintro x cs w ⟨es,rfl,h⟩ u hu;rcases List.mem_append.1 hu with hu|hu
   · exact Z87 h u hu
   · rw[List.mem_singleton.1 hu];rfl
 nu:=by
   rintro x cs w ⟨es,rfl,h⟩;obtain⟨k,n,h0⟩:=Z3g h;exact⟨_,by rw[List.getElem?_append_left (by rw[Z81 h];decide)];exact h0,by simp[undef]⟩
 inj _ _ h:=Z2U h
def Col.cells(c:Col):List Value:=[.string c.nm,.int .i64 c.ty,.bool c.nn,.bool c.un]
def coE:Enc Col where
 sz:=4
 R x cs _:=cs=x.cells
 v:=agv
 pos:=by decide
 len:=by rintro x cs w rfl;rfl
 one:=by
   rintro x cs w rfl u hu;simp only[Col.cells,List.mem_cons,List.mem_nil_iff,or_false]at hu;rcases hu with rfl|rfl|rfl|rfl<;>rfl
 nu:=by rintro x cs w rfl;exact⟨_,rfl,by simp[undef]⟩
 inj _ _ h:=Z2U h
abbrev hdv(cs:List Value):Value:=cs.headD undef
theorem Z8t{cs cs':List Value}(h:cs.length=1)(h':cs'.length=1)(e:hdv cs=hdv cs'):cs=cs':=by
 match cs,cs',h,h' with
 |[a],[b],_,_=>simpa [hdv] using e
def stE:Enc ByteArray where
 sz:=1
 R x cs _:=cs=[.string x]
 v:=hdv
 pos:=by decide
 len:=by rintro x cs w rfl;rfl
 one:=by rintro x cs w rfl u hu;rw[List.mem_singleton.1 hu];rfl
 nu:=by rintro x cs w rfl;exact⟨_,rfl,by simp[undef]⟩
 inj:=Z8t
theorem Z78{xs:List Ex}{v:Value}{w:World}(h:ExsR xs v w): ∃a len cap,v= .slice a len cap:=by
 obtain⟨a,len,cap,e,_⟩:=h;exact⟨a,len,cap,e⟩
def rwE:Enc (List Ex) where
 sz:=1
 R x cs w:=∃v,cs=[v]/\ExsR x v w
 v:=hdv
 pos:=by decide
 len:=by rintro x cs w ⟨v,rfl,h⟩;rfl
 one:=by
   rintro x cs w ⟨v,rfl,h⟩ u hu;obtain⟨a,len,cap,rfl⟩:=Z78 h;rw[List.mem_singleton.1 hu];rfl
 nu:=by
   rintro x cs w ⟨v,rfl,h⟩;obtain⟨a,len,cap,rfl⟩:=Z78 h;exact⟨_,rfl,by simp[undef]⟩
 inj:=Z8t
def srE:Enc Src where
 sz:=3
 R x cs w:=∃v,cs=[.string x.tb,.string x.nm,v]/\ExsR x.on v w
 v:=agv
 pos:=by decide
 len:=by rintro x cs w ⟨v,rfl,h⟩;rfl
 one:=by
   rintro x cs w ⟨v,rfl,h⟩ u hu;obtain⟨a,len,cap,rfl⟩:=Z78 h;simp only[List.mem_cons,List.mem_nil_iff,or_false]at hu;rcases hu with rfl|rfl|rfl<;>rfl
 nu:=by rintro x cs w ⟨v,rfl,h⟩;exact⟨_,rfl,by simp[undef]⟩
 inj _ _ h:=Z2U h
theorem Cel.kids{ps:List (Cel exE)}{a:Option Addr}{len:Nat}{w:World}(h:RowG Cel.cs 8 ps a len w)(hF:CelF exE ps w):KidsR (ps.map Cel.x) a len w:=by
 obtain⟨hl,hk⟩:=h;refine⟨by simp[hl],fun hn=>?_⟩;obtain⟨b,o,ha,hr⟩:=hk hn;refine⟨b,o,ha,Z53 (ps.map Cel.x) (ps.map Cel.cs) b o w (by simp) (fun i x cs hx hc=>?_) fun j v hj=>?_⟩
 · rw[List.getElem?_map]at hx hc
   cases hp:ps[i]? with
   |none=>rw[hp]at hx;cases hx
   |some p=>
     rw[hp]at hx hc;injection hx with hx
     injection hc with hc
     subst hx hc;exact⟨p.h,hF p (List.mem_of_getElem? hp)⟩
 · rw[<-List.flatMap_def]at hj
   obtain⟨x,hx,hu⟩:=Z8s (enc:=Cel.cs) (sz:=8) (fun x:Cel exE=>x.h) qM hj;have:=hr _ x hx _ v hu
   rwa [show o+8*(j / 8)+j % 8=o+j by rw[Nat.add_assoc,Nat.div_add_mod]]at this
theorem SlE.exs{G:GoS}{xs:List Ex}{v:Value}{w:World}(h:SlE exE G xs v w):ExsR xs v w:=by
 obtain⟨ps,a,len,cap,rfl,rfl,_,h4,h5,_⟩:=h;exact⟨a,len,cap,rfl,Cel.kids h4 h5⟩
theorem Zeg(x:Ex)(v:Value)(w:World):exE.T x v w↔ExR x v w:=by
 constructor
 · rintro⟨cs,rfl,h⟩;exact h
 · intro h
   obtain⟨k,vk,vn,vs,tb,nm,sl,a,len,cap,e⟩:=Z3F h;exact⟨_,e,by show ExR x (Value.agg (exCells k vk vn vs tb nm sl a len cap).toArray) w;rw[<-e];exact h⟩
theorem Z75(x:Ex):Ty.rep (ExR x)=Ty.rep (exE.T x):=by
 congr 1;funext v w;exact propext (Zeg x v w).symm
end Go.Pz
namespace Go.Pz
open Go Go.Vc
theorem Zco:Dn typeP:=fun ts z h=>by
 unfold typeP at h
 split at h
 · rename_i hi;injection h with h;subst h;exact Zt hi
 split at h
 · rename_i hi;injection h with h;subst h;exact Zt hi
 split at h
 · rename_i hi;injection h with h;subst h;exact Zt hi
 · cases h
theorem Z8L(n:ByteArray)(t:Int)(nn:Bool):Dn0 (colEnd n t nn):=fun ts z h=>by
 unfold colEnd at h
 split at h
 · rename_i hi
   obtain⟨v,h7,rfl⟩:=mpd h;exact(Z9 _ _ _ _ h7).1.trans (Zt hi).1
 · injection h with h;subst h;exact Z33 _ _ _
theorem Zaq:Dn colP:=fun ts z h=>by
 obtain⟨n,h1,h2⟩:=bnd h;obtain⟨t,h3,h4⟩:=bnd h2;have h5:Lt t.2 ts:=Lt.trans (Zco _ _ h3) (Zw _ _ h1).1
 split at h4
 · rename_i hi
   obtain⟨v,h6,h7⟩:=bnd h4;exact Lt.trans' ((Z8L _ _ _ _ _ h7).trans ((Z9 _ _ _ _ h6).1.trans (Zt hi).1)) h5
 · exact Lt.trans' (Z8L _ _ _ _ _ h4) h5
theorem Z7D{α:Type}{part:Ps α}(hp:Dn0 part): ∀n,Dn0 (listG part n)
 |0,ts,z,h=>by rw[listG]at h;injection h with h;subst h;exact List.suffix_refl ts
 |n+1,ts,z,h=>by
   rw[listG]at h
   split at h
   · rename_i hi
     obtain⟨w,h1,h2⟩:=bnd h;obtain⟨y,h3,rfl⟩:=mpd h2;exact(Z7D hp n _ _ h3).trans ((hp _ _ h1).trans (Zt hi).1)
   · injection h with h;subst h;exact List.suffix_refl ts
theorem Z1Q{α:Type}{part:Ps α}(hp:Dn0 part)(most:Nat):Dn0 (listP most part):=fun ts z h=>by
 obtain⟨w,h1,h2⟩:=bnd h;obtain⟨y,h3,h4⟩:=bnd h2
 split at h4
 · injection h4 with h4;subst h4;exact(show y.2<:+w.2 from Z7D hp _ _ _ h3).trans (hp _ _ h1)
 · cases h4
theorem Z6d{α:Type}{part:Ps α}(hp:Dn part)(most:Nat):Dn (listP most part):=fun ts z h=>by
 obtain⟨w,h1,h2⟩:=bnd h;obtain⟨y,h3,h4⟩:=bnd h2
 split at h4
 · injection h4 with h4;subst h4;exact Lt.trans' (show y.2<:+w.2 from Z7D hp.le _ _ _ h3) (hp _ _ h1)
 · cases h4
theorem Z23{α:Type}{part:Ps α}(hp:Dn0 part):Dn (withinP part):=fun ts z h=>by
 obtain⟨a,h1,h2⟩:=bnd h;obtain⟨l,h3,h4⟩:=bnd h2;obtain⟨v,h5,rfl⟩:=mpd h4;exact Lt.trans (Z9 _ _ _ _ h5) ((Z1Q hp 16 _ _ h3).trans (Z9 _ _ _ _ h1).1)
theorem Z4r{e:Ps Ex}(he:Dn e):Dn (itemP e):=fun ts z h=>by
 unfold itemP at h
 split at h
 · rename_i hi;injection h with h;subst h;exact Zt hi
 · obtain⟨v,h5,rfl⟩:=mpd h;exact he _ _ h5
theorem Z73{e:Ps Ex}(he:Dn e):Dn (keyP e):=fun ts z h=>by
 obtain⟨v,h5,h6⟩:=mpd h;have h7:=he _ _ h5
 split at h6
 · rename_i hi;subst h6;exact Lt.trans (Zt hi) h7.1
 · subst h6;exact Lt.trans' (Z33 _ _ _) h7
theorem Z5W{e:Ps Ex}(he:Dn e):Dn (setP e):=fun ts z h=>by
 obtain⟨a,h1,h2⟩:=bnd h;obtain⟨l,h3,h4⟩:=bnd h2;obtain⟨v,h5,rfl⟩:=mpd h4;exact Lt.trans (he _ _ h5) ((Z9 _ _ _ _ h3).1.trans (Zw _ _ h1).1)
theorem Z2T:Dn sourceP:=fun ts z h=>by
 obtain⟨a,h1,h2⟩:=bnd h;have h3:=Zw _ _ h1
 split at h2
 · rename_i hi
   obtain⟨v,h5,rfl⟩:=mpd h2;exact Lt.trans (Zw _ _ h5) ((Zt hi).1.trans h3.1)
 split at h2
 · obtain⟨v,h5,rfl⟩:=mpd h2
   exact Lt.trans (Zw _ _ h5) h3.1
 · injection h2 with h2;subst h2;exact h3
theorem Z4L{e:Ps Ex}(he:Dn e):Dn (joinP e):=fun ts z h=>by
 obtain⟨a,h1,h2⟩:=bnd h;obtain⟨s,h3,h4⟩:=bnd h2;obtain⟨b,h5,h6⟩:=bnd h4;obtain⟨v,h7,rfl⟩:=mpd h6;exact Lt.trans (he _ _ h7) ((Z9 _ _ _ _ h5).1.trans ((Z2T _ _ h3).1.trans (Z9 _ _ _ _ h1).1))
def Stop(q:List T3):Prop:=∀k s,(k==5&&(sq s Z5P||sq s s_rp))=false->isT k s q=false
def Stab{α:Type}(q:List T3)(p p':Ps α):Prop:=∀l z,p l=some z->p' (l++q)=some (z.1,z.2++q)
section
variable{q:List T3}(hq:Stop q)
theorem Z9e{k:Int}{s:ByteArray}{l:List T3}(h:isT k s l=true):l≠[]:=by
 obtain⟨t,r,rfl,_⟩:=Z6c h;simp
include hq
section
variable{e e':Ps Ex}(he:Stab q e e')
include he
end
section
variable{e e':Ps Ex}(he:Stab q e e')(hd:Dn e)
include he
include hd
end
end
end Go.Pz
namespace Go.Pz
open Go Go.Vc
theorem Z61{α:Type}{part:Ps α}(hp:Dn0 part): ∀(n m:Nat) (ts:List T3),ts.length<=n->ts.length<=m->listG part n ts=listG part m ts
 |0,m,ts,h,_=>by
   have:ts=[]:=List.length_eq_zero_iff.1 qM;subst this;cases m with
   |zero=>rfl
   |succ m=>rw[listG,listG,if_neg (by exact Bool.false_ne_true)]
 |n+1,0,ts,_,h=>by
   have:ts=[]:=List.length_eq_zero_iff.1 qM;subst this;rw[listG,listG,if_neg (by exact Bool.false_ne_true)]
 |n+1,m+1,ts,h,h'=>by
   rw[listG,listG]
   split
   · rename_i hi
     have h1:=(Zt hi).2;exact Z1p fun y hy=>by
       have h2:=(hp _ _ hy).length_le;rw[Z61 hp n m y.2 qM qM]
   · rfl
def listC{α:Type}(part:Ps α):Ps (List α):=fun ts=>listG part ts.length ts
theorem Zc8{α:Type}{part:Ps α}{ts:List T3}(h:isT 5 Z2z ts=false):listC part ts=some ([],ts):=by
 unfold listC;cases ts.length with
 |zero=>rfl
 |succ n=>rw[listG,if_neg (by rw[h];decide)]
theorem Zbh{α:Type}{part:Ps α}(hp:Dn0 part){ts:List T3}(h:isT 5 Z2z ts=true):listC part ts=(part ts.tail).bind fun z=>(listC part z.2).map fun y=>(z.1::y.1,y.2):=by
 have h1:=(Zt h).2;unfold listC;rw[Z61 hp _ (ts.length+1) ts qM qM,listG,if_pos h];exact Z1p fun y hy=>by
   have h2:=(hp _ _ hy).length_le;rw[Z61 hp _ y.2.length y.2 qM qM]
def listI{α:Type}(most:Nat)(part:Ps α)(xs:List α):Ps (List α):=fun us=>(listC part us).bind fun y=>if xs.length+y.1.length<=most then some (xs++y.1,y.2)else none
theorem Z7m{α:Type}(most:Nat)(part:Ps α)(ts:List T3):listP most part ts=(part ts).bind fun z=>listI most part [z.1] z.2:=by
 unfold listP listI;refine Z1p fun z _=>Z1p fun y _=>?_;simp only[List.length_singleton,List.singleton_append];rw[Nat.add_comm]
theorem Z9W{α:Type}{most:Nat}{part:Ps α}{xs:List α}{us:List T3}(h:isT 5 Z2z us=false):listI most part xs us=if xs.length<=most then some (xs,us)else none:=by
 unfold listI;rw[Zc8 h]
 simp
theorem Z8z{α:Type}{most:Nat}{part:Ps α}(hp:Dn0 part){xs:List α}{us:List T3}(h:isT 5 Z2z us=true):listI most part xs us=(part us.tail).bind fun z=>listI most part (xs++[z.1]) z.2:=by
 unfold listI;rw[Zbh hp h,bas];refine Z1p fun z _=>?_;cases listC part z.2 with
 |none=>rfl
 |some y=>
   simp only[Option.map_some,Option.bind_some,List.length_cons,List.length_append,List.length_nil,List.append_assoc,List.singleton_append]
   congr 1
   simp only[eq_iff_iff];omega
theorem ZaP{α:Type}{most:Nat}{part:Ps α}{xs:List α}{us:List T3}(h:isT 5 Z2z us=false)(hm: ¬xs.length<=most):listI most part xs us=none:=by rw[Z9W h,if_neg hm]
end Go.Pz
set_option maxRecDepth 20000
namespace Go.Proofs.YtbedigkncjbggaaDoor
open Go Go.Vc Go.Pz
theorem Zc0{v:Value}(h:v.oneCell'=true):v.cells= #[v]:=by
 cases v<;>first|rfl|cases h
theorem Z7G{cs:List Value}(h:cs.length=1)(ho: ∀u∈cs,u.oneCell'=true):(hdv cs).cells=cs.toArray:=by
 match cs,h with
 |[a],_=>exact Zc0 (ho a List.mem_cons_self)
theorem Z4C:exE.flat:=fun p=>rfl
theorem Zcm:itE.flat:=fun p=>rfl
theorem Zc7:kyE.flat:=fun p=>rfl
theorem Zcr:coE.flat:=fun p=>rfl
theorem Z9z:srE.flat:=fun p=>rfl
theorem Z9Q:stE.flat:=fun p=>Z7G p.h p.o
theorem Z9A:rwE.flat:=fun p=>Z7G p.h p.o
abbrev FC(N:Nat):GoS:=FrS N Z38 4
abbrev FN(N:Nat):GoS:=FrS N Z55 1
abbrev FX(N:Nat):GoS:=FrS N Z4 8
abbrev stV(st:St)(vc vn vr vi vf vw vg vo vs:Value):Value:=.agg #[.int .i64 st.kind,.string st.tb,.string st.nm,vc,vn,vr,vi,vf,vw,vg,vo,.int .i64 st.limit,vs,.bool st.hash]
def StR(N:Nat)(st:St)(v:Value)(w:World):Prop:=∃vc vn vr vi vf vw vg vo vs:Value,v=stV st vc vn vr vi vf vw vg vo vs/\SlE coE (FC N) st.cols vc w/\SlE stE (FN N) st.names vn w/\SlE rwE noS st.rows vr w/\SlE itE noS st.items vi w/\SlE srE noS st.from_ vf w/\SlE exE (FX N) st.where_ vw w/\ExsR st.group vg w/\SlE kyE noS st.order vo w/\ExsR st.sets vs w
abbrev nilv:Value:=.slice none 0 0
theorem Ze{α:Type}{E:Enc α}{G:GoS}{w:World}(hG:G none 0 0 w):SlE E G [] nilv w:=⟨[],none,0,0,rfl,rfl,Nat.le_refl _,⟨rfl,fun h=>absurd rfl h⟩,(fun p hp=>by cases hp),hG⟩
theorem Z1e{w:World}:ExsR [] nilv w:=⟨none,0,0,rfl,rfl,fun h=>absurd rfl h⟩
theorem Sub.st{L:List Own}{Φ:List (World->Prop)}{N:Nat}{st:St}{cs:Array Value}{vc vn vr vi vf vw vg vo vs:Value}(hc:Value.agg cs=stV st vc vn vr vi vf vw vg vo vs)
   (h: ∀X w,(∀F∈Φ,Pers X w F)->∀w',Keeps X w w'->SlE coE (FC N) st.cols vc w'/\SlE stE (FN N) st.names vn w'/\SlE rwE noS st.rows vr w'/\SlE itE noS st.items vi w'/\SlE srE noS st.from_ vf w'/\SlE exE (FX N) st.where_ vw w'/\ExsR st.group vg w'/\SlE kyE noS st.order vo w'/\ExsR st.sets vs w'):
   Sub L Φ (.is (.agg cs)) (.rep (StR N st)):=fun X v w hf e=>by
 rw[show v=_ from e,hc];intro w' hk;exact⟨vc,vn,vr,vi,vf,vw,vg,vo,vs,rfl,h X w hf.2 w' hk⟩
theorem ZdN{N:Nat}{st:St}{X:Nat->Prop}{v:Value}{w:World}(h:Pers X w (StR N st v)): ∃vc vn vr vi vf vw vg vo vs:Value,v=stV st vc vn vr vi vf vw vg vo vs/\Pers X w (SlE coE (FC N) st.cols vc)/\Pers X w (SlE stE (FN N) st.names vn)/\Pers X w (SlE rwE noS st.rows vr)/\Pers X w (SlE itE noS st.items vi)/\Pers X w (SlE srE noS st.from_ vf)/\Pers X w (SlE exE (FX N) st.where_ vw)/\Pers X w (ExsR st.group vg)/\Pers X w (SlE kyE noS st.order vo)/\Pers X w (ExsR st.sets vs):=by
 obtain⟨vc,vn,vr,vi,vf,vw,vg,vo,vs,hv,_⟩:=h.now;have key: ∀w',Keeps X w w'->SlE coE (FC N) st.cols vc w'/\SlE stE (FN N) st.names vn w'/\SlE rwE noS st.rows vr w'/\SlE itE noS st.items vi w'/\SlE srE noS st.from_ vf w'/\SlE exE (FX N) st.where_ vw w'/\ExsR st.group vg w'/\SlE kyE noS st.order vo w'/\ExsR st.sets vs w':=fun w' hk=>by
   obtain⟨vc',vn',vr',vi',vf',vw',vg',vo',vs',hv',h1⟩:=h w' hk;rw[hv]at hv';injection hv' with hv'
   injection hv' with hv'
   simp only[List.cons.injEq,and_true,true_and]at hv';obtain⟨e1,e2,e3,e4,e5,e6,e7,e8,e9⟩:=hv';subst e1 e2 e3 e4 e5 e6 e7 e8 e9;exact h1
 exact⟨vc,vn,vr,vi,vf,vw,vg,vo,vs,hv,fun w' hk=>(key w' hk).1,fun w' hk=>(key w' hk).2.1,fun w' hk=>(key w' hk).2.2.1,fun w' hk=>(key w' hk).2.2.2.1,fun w' hk=>(key w' hk).2.2.2.2.1,fun w' hk=>(key w' hk).2.2.2.2.2.1,fun w' hk=>(key w' hk).2.2.2.2.2.2.1,fun w' hk=>(key w' hk).2.2.2.2.2.2.2.1,fun w' hk=>(key w' hk).2.2.2.2.2.2.2.2⟩
section
variable{P:Program}{c:Ctx}{K:List (Nat×Ty)}{L:List Own}{Φ:List (World->Prop)}{Q:Exit->Act->World->Prop}
end
end Go.Proofs.YtbedigkncjbggaaDoor
