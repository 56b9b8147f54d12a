/- The document's reader: lists with commas; expressions shorten what is left. No condition. -/
import Derived.Test.YtbedigkncjbggaaGreatDoorXQ10
import Derived.Test.YtbedigkncjbggaaGreatDoorXQ4
import Derived.Test.YtbedigkncjbggaaGreatDoorXG8
import Derived.Test.YtbedigkncjbggaaGreatDoorXQ1
namespace Go.Pz
open Go Go.Vc
theorem Zhn{α:Type}{part:Ps α}(hp:Dn0 part){n:Nat}{ts:List T3}(hn:ts.length<=n):listG part n ts=if isT 5 ZW ts then listW part ts.tail else some ([],ts):=by
 cases n with
 |zero=>
   have:ts=[]:=List.length_eq_zero_iff.1 qM;subst this;rfl
 |succ n=>
   rw[listG]
   split
   · rename_i hi
     unfold listW;refine Zm fun z hz=>?_;have h1:=(hp _ _ hz).length_le;have h2:=(ZG hi).2;rw[Z6D hp n z.2.length z.2 qM (Nat.le_refl _)]
   · rfl
theorem Rv.listW_step{α:Type}{part:Ps α}(hp:Dn0 part){us:List T3}{z:α×List T3×Bool}(hz:Rv (part us) us false z){y:List α×List T3×Bool}
   (h:Rv (if isRB 5 ZW z.2.1 z.2.2 then listW part z.2.1.tail else some ([],z.2.1)) (skRB 5 ZW z.2.1 z.2.2) z.2.2 y):Rv (listW part us) us false (z.1::y.1,y.2.1,y.2.2):=by
 unfold listW;refine hz.bind ?_;show Rv ((listG part z.2.1.length z.2.1).map fun y=>(z.1::y.1,y.2)) _ _ _;refine Rv.map (z:=y) (f:=fun y=>(z.1::y.1,y.2)) ?_ rfl;rw[Zhn hp (Nat.le_refl _)];cases hc:isRB 5 ZW z.2.1 z.2.2 with
 |true=>
   rw[hc,if_pos rfl,Z1e hc]at h;exact Rv.ite_t hc h
 |false=>
   rw[hc,Z19 hc]at h;exact Rv.ite_f hc h
def remW{α:Type}(part:Ps α)(more:Bool)(us:List T3):Option (List α×List T3):=if more then listW part us else some ([],us)
structure InvW {α:Type} (part:Ps α) (us0:List T3) (bad0:Bool) (acc:List α) (us:List T3) (bad more:Bool):Prop where
 suf:us<:+us0
 fin': ∀y:List α×List T3×Bool,Rv (remW part more us) us bad y->Rv (listW part us0) us0 bad0 (acc++y.1,y.2.1,y.2.2)
 cnt:bad=false->acc.length+us.length<=us0.length
 len:acc.length<=us0.length+1
theorem InvW.start{α:Type}(part:Ps α)(us:List T3)(bad:Bool):InvW part us bad [] us bad true:=⟨List.suffix_refl _,fun _ h=>h,fun _=>by simp,by simp⟩
theorem InvW.step{α:Type}{part:Ps α}(hp:Dn part){us0 us:List T3}{bad0:Bool}{acc:List α}(h:InvW part us0 bad0 acc us false true){z:α×List T3×Bool}(hz:Rv (part us) us false z):
   InvW part us0 bad0 (acc++[z.1]) (skRB 5 ZW z.2.1 z.2.2) z.2.2 (isRB 5 ZW z.2.1 z.2.2):=by
 have hs:skRB 5 ZW z.2.1 z.2.2<:+z.2.1:=Z3X;have hc:=h.cnt rfl;refine⟨(hs.trans hz.suf).trans h.suf,fun y hy=>?_,fun hb=>?_,by rw[List.length_append,List.length_singleton];omega⟩
 · rw[List.append_assoc]
   refine h.fin' (z.1::y.1,y.2.1,y.2.2) ?_;show Rv (listW part us) us false _;refine Rv.listW_step hp.le hz ?_;unfold remW at hy;cases hq:isRB 5 ZW z.2.1 z.2.2 with
   |true=>rw[hq,Z1e hq]at hy;rw[Z1e hq];exact hy
   |false=>rw[hq,Z19 hq]at hy;rw[Z19 hq];exact hy
 · have h1:=(hp _ _ (hz.ok hb).2).2
   have h2:=hs.length_le;rw[List.length_append,List.length_singleton];simp only at h1
   omega
theorem InvW.less{α:Type}{part:Ps α}{us:List T3}{z:α×List T3×Bool}(hz:Rv (part us) us false z):(skRB 5 ZW z.2.1 z.2.2).length+(if isRB 5 ZW z.2.1 z.2.2 then 1 else 0)<us.length+1:=by
 have h1:=hz.suf.length_le;cases hq:isRB 5 ZW z.2.1 z.2.2 with
 |true=>
   rw[Z1e hq,if_pos rfl];have h2:=(ZG (Z2p hq).2).2
   omega
 |false=>rw[Z19 hq];simp only[Bool.false_eq_true,if_false];omega
theorem InvW.fin{α:Type}{part:Ps α}{us0 us:List T3}{bad0 bad more:Bool}{acc:List α}(h:InvW part us0 bad0 acc us bad more)(he:(more&& !bad)=false):Rv (listW part us0) us0 bad0 (acc,us,bad):=by
 have:=h.fin' ([],us,bad) (by
   cases bad with
   |true=>exact Rv.badly (List.suffix_refl _) _
   |false=>
     rw[Bool.not_false,Bool.and_true]at he;subst he;exact Rv.pure _)
 rwa [List.append_nil]at this
theorem Z3C{α:Type}{c:Prop}[Decidable c]{a b:Option α}{z:α}{p:Prop}(h:(if c then a else b)=some z)(h1:a=some z->p)(h2:b=some z->p):p:=by
 by_cases hc:c
 · rw[if_pos hc]at h;exact h1 h
 · rw[if_neg hc]at h;exact h2 h
theorem ZaS{e:Ps Ex}(he:Dn e):Dn (factorR e)
 |[],z,h=>by rw[factorR]at h;cases h
 |t::r,z,h=>by
   have hr:Lt r (t::r):=⟨List.suffix_cons _ _,by simp⟩;have hup: ∀{q:List T3},q<:+r->Lt q (t::r):=fun hq=>⟨hq.trans hr.1,Nat.lt_of_le_of_lt hq.length_le hr.2⟩;have hs: ∀{y:Ex},some (y,r)=some z->Lt z.2 (t::r):=fun h=>by injection h with h;subst h;exact hr
   rw[factorR]at h;refine Z3C h (fun h=>?_) fun h=>Z3C h (fun h=>by cases h) fun h=>Z3C h hs fun h=>Z3C h hs fun h=>Z3C h (fun h=>Z3C h (fun h=>?_) hs) fun h=>Z3C h hs fun h=>Z3C h hs fun h=>Z3C h hs fun h=>Z3C h (fun h=>?_) fun h=>?_
   · obtain⟨y,hy,rfl⟩:=mpd h
     exact hup (ZaS he r y hy).1
   · obtain⟨y,hy,rfl⟩:=mpd h
     exact hup ((ZV _ _ hy).1.trans (List.tail_suffix r))
   · obtain⟨x,hx,h⟩:=bnd h
     obtain⟨v,hv,rfl⟩:=mpd h;exact hup ((Zk _ _ _ _ hv).1.trans (he _ _ hx).1)
   · cases hq:aggK t.t with
     |none=>rw[hq]at h;cases h
     |some q=>
       rw[hq]at h;obtain⟨y,hy,h⟩:=bnd h;refine Z3C h (fun h=>?_) fun h=>?_
       · obtain⟨v,hv,rfl⟩:=mpd h
         exact hup ((Zk _ _ _ _ hv).1.trans ((List.tail_suffix _).trans (Zk _ _ _ _ hy).1))
       · obtain⟨x,hx,h⟩:=bnd h
         obtain⟨v,hv,rfl⟩:=mpd h;exact hup ((Zk _ _ _ _ hv).1.trans ((he _ _ hx).1.trans (Zk _ _ _ _ hy).1))
theorem Z8V{e:Int->Ps Ex}{l:Int}(he: ∀b,Dn (e b)): ∀(m:Nat) (x:Ex) (c:Bool),Dn0 (loopR e l m x c)
 |0,x,c,ts,z,h=>by rw[loopR]at h;injection h with h;subst h;exact List.suffix_refl _
 |m+1,x,c,ts,z,h=>by
   rw[loopR]at h
   split at h
   · obtain⟨y,hy,h⟩:=bnd h
     exact(Z8V he m _ _ _ _ h).trans ((he _ _ _ hy).1.trans (List.tail_suffix _))
   split at h
   · obtain⟨y,hy,h⟩:=bnd h
     exact(Z8V he m _ _ _ _ h).trans ((Zk _ _ _ _ hy).1.trans ((Z2o _ _ _).trans (List.tail_suffix _)))
   · injection h with h;subst h;exact List.suffix_refl _
theorem Z5g: ∀(n:Nat) (l:Int),Dn (exprR n l)
 |0,l,ts,z,h=>by cases h
 |n+1,l,ts,z,h=>by
   rw[exprR]at h;refine Z3C h (fun h=>?_) fun h=>?_
   · obtain⟨y,hy,h⟩:=bnd h
     have h1:=Z5g n 2 _ _ hy;have h2:=Z8V (Z5g n) _ _ _ _ _ h;exact⟨h2.trans (h1.1.trans (List.tail_suffix _)),Nat.lt_of_le_of_lt h2.length_le (Nat.lt_of_lt_of_le h1.2 (List.tail_suffix ts).length_le)⟩
   · obtain⟨y,hy,h⟩:=bnd h
     have h1:=ZaS (Z5g n 0) _ _ hy;have h2:=Z8V (Z5g n) _ _ _ _ _ h;exact⟨h2.trans h1.1,Nat.lt_of_le_of_lt h2.length_le h1.2⟩
abbrev Rk.e(T:Rk):Ps Ex:=exprP (T.ts.length+1)
theorem Rk.e_dn(T:Rk):Dn T.e:=Z2K _
end Go.Pz
set_option maxRecDepth 20000
namespace Go.Proofs.YtbedigkncjbggaaGreatDoor
open Go Go.Vc
open Go.Pz
abbrev colC(c:Col):Cel coE:=⟨c,c.cells,rfl,by
 intro u hu;simp only[Col.cells,List.mem_cons,List.mem_nil_iff,or_false]at hu;rcases hu with rfl|rfl|rfl|rfl<;>rfl⟩
abbrev strE(s:ByteArray):Cel stE:=⟨s,[.string s],rfl,fun u h=>by rw[List.mem_singleton.1 h];rfl⟩
theorem Zid(l:List Col):(l.map colC).map Cel.x=l:=by rw[List.map_map];exact List.map_id _
theorem Zig(l:List ByteArray):(l.map strE).map Cel.x=l:=by rw[List.map_map];exact List.map_id _
theorem Zia(l:List Col)(w:World):CelF coE (l.map colC) w:=fun p hp=>by obtain⟨c,_,rfl⟩:=List.mem_map.1 hp;rfl
theorem ZcU(l:List ByteArray)(w:World):CelF stE (l.map strE) w:=fun p hp=>by obtain⟨c,_,rfl⟩:=List.mem_map.1 hp;rfl
theorem ZcR{α β:Type}(f:α->β)(l:List α)(x:α):l.map f++[f x]=(l++[x]).map f:=by rw[List.map_append,List.map_singleton]
theorem Rv.cap{α:Type}{us:List T3}{bad:Bool}(n m:Nat)(x:α):Rv (if n<=m then some (x,us)else none) us bad (x,us,bad||decide ((m:Int)<(n:Int))):=by
 by_cases h:n<=m
 · rw[if_pos h,show(bad||decide ((m:Int)<(n:Int)))=bad by rw[decide_eq_false qM,Bool.or_false]];exact Rv.pure x
 · rw[if_neg h,show(bad||decide ((m:Int)<(n:Int)))=true by rw[decide_eq_true qM,Bool.or_true]];exact Rv.none x
theorem Z1R{st:Option (Nat×List Value)}{e:TypeId}{L L':List Own}{o o':Own}(h:Upd L o o' L'):Upd (ownO st e L) o o' (ownO st e L'):=by
 cases st with
 |none=>exact h
 |some p=>exact .there h
theorem Tl.zero{e:TypeId}{L:List Own}:Tl e L none L:=Tl.here (st:=none)
theorem Zh8:Dn colR:=by rw[Ze6];exact Zb8
theorem Z7k(T:Rk)(b0 o0:Nat)(ha:T.ts.length≠0->T.ad=some ⟨b0,o0,none⟩)(h9:T.ts.length<=2049)(b:Nat)(us:List T3)(hus:us<:+T.ts)(bad:Bool):CallL Tryz.prog Z77 [RB T b us bad] [T.G] [.is (.pointer (some ⟨b,0,none⟩))] (fun z:Pz.St×List T3×Bool=>Rv (createR us) us bad z) (fun z=>[RB T b z.2.1 z.2.2]) (fun z=>.rep (StR 0 z.1)):=
CallL.of (fn:=Tryz.f32) Tryz.func32 (n:=74) rfl rfl rfl (fun _ _=>by kernel_rfl) fun E W hb0=>by
 refine vQ ?_;refine JO.alloc ZT rfl fun b2=>(vP [0,2] ?_);refine Jq (Zd (cs:=[_,_,_,_,_,_,_,_,_,_,_,_,_,_]) Z1w (.cons rfl (.cons rfl .nil)) rfl rfl) (JO.alloc ZT rfl fun b3=>(JO.m (Z2 rfl rfl qU (by exact Zb rfl rfl) (by first|exact Zb rfl rfl|exact ZF) Zo) (by rfl) ?_));refine vP [0,2,3] ?_;refine Jm rfl ?_;refine JO.callK (Lr:=[_,_]) (Zg T b0 o0 ha h9 b _ ?hs _ Z6G) rfl qP qF qA ?_
 case hs=>exact qW
 intro _ _;refine vD ?_;refine vS [0,2,3,7] ?_;refine yC rfl (fun ht7=>?_) (fun ht7=>?_);rw[Z1e ht7];refine vQ ?_;refine Jm rfl ?_;refine JO.callK (Lr:=[_,_]) (ZY T b0 o0 ha h9 b _ ?hs _) rfl qP qF qA ?_
 case hs=>exact qW
 intro z1 hz1;refine vD ?_;refine Jq (Z0 Z32 rfl) (JO.m (Z9 (cs':=[_,_,_,_,_,_,_,_,_,_,_,_,_,_]) rfl rfl qU rfl rfl rfl rfl Z2Q) (by rfl) ?_);refine vP [0,2,3] ?_;refine Jm rfl ?_;refine JO.callK (Lr:=[_,_]) (Zh T b0 o0 ha h9 b _ ?hs _ 5 qD s_lp) rfl qP qF qA ?_
 case hs=>exact qW
 intro z5 hz5;have hu5:z5.2.1<:+T.ts:=qW;refine vD ?_;refine vP [0,2,3] ?_;refine Ja rfl (vS [0,2,3,4] ?_);apply yk
 repeat apply yQ
 refine J.loopG (α:=List Col×Option (Nat×List Value)×Nat×List T3×Bool×Bool) (fun x=>[(0,.is (.pointer (some ⟨b,0,none⟩))),(2,.is (.pointer (some ⟨b2,0,none⟩))),(3,.is (.pointer (some ⟨b3,0,none⟩))),(4,.is (.bool x.2.2.2.2.2))]) (fun x=>RB T b x.2.2.2.1 x.2.2.2.2.1::⟨b3,Z3,.is (.agg #[.int .i64 1,.string z1.1,.string ⟨#[]⟩,sliceO x.2.1 (x.1.map colC).length x.2.2.1,.slice none 0 0,.slice none 0 0,.slice none 0 0,.slice none 0 0,.slice none 0 0,.slice none 0 0,.slice none 0 0,.int .i64 (-1),.slice none 0 0,.bool false])⟩::⟨b2,Z3,zSt⟩::ownO x.2.1 Z1l []) (fun x=>fun _=>True) (fun x=>InvW colR z5.2.1 z5.2.2 x.1 x.2.2.2.1 x.2.2.2.2.1 x.2.2.2.2.2/\Grows Cel.cs 4 (x.1.map colC) x.2.1 x.2.2.1) (fun x=>x.2.2.2.1.length+(if x.2.2.2.2.2 then 1 else 0)) ([],none,0,z5.2.1,z5.2.2,true) [0,2,3,4] (.cons rfl (.cons rfl (.cons rfl (.cons rfl .nil)))) rfl (fun _=>trivial) ⟨InvW.start _ _ _,rfl⟩ fun⟨acc,st,cap,vs,bd,mo⟩ ⟨hI,hG⟩=>?_;try dsimp only
 try dsimp only at hI
 try dsimp only at hG
 refine vQ ?_;refine Jm rfl (Jm rfl (JO.tg rfl rfl rfl rfl rfl (fun hg=>Z1 (.inl rfl)) (JO.tg rfl rfl rfl rfl rfl (fun hg=>Z4 (qR rfl)) ?_)));refine JO.tg rfl rfl rfl rfl rfl (fun hg=>Z0 Ze (qR rfl)) ?_;refine JO.tg rfl rfl rfl rfl rfl (fun hg=>Z5 Z1O (qR rfl) rfl) ?_;refine JO.tg rfl rfl rfl rfl rfl (fun hg=>Z22 (qR rfl)) ?_;refine Jq (Zl rfl rfl rfl id) (vS [0,2,3,20] ?_);refine yC rfl (fun ht20=>?_) (fun ht20=>?_);apply yK;refine vN ?_;apply yk;obtain⟨rfl,rfl⟩:mo=true/\bd=false:=by simpa using ht20
 repeat apply yQ
 refine J.regBgm (G:={z:Col×List T3×Bool // Rv (colR vs) vs false z}) 3 5 (fun g=>.is (.agg g.1.1.cells.toArray)) (fun g=>[RB T b g.1.2.1 g.1.2.2]++(⟨b3,Z3,.is (.agg #[.int .i64 1,.string z1.1,.string ⟨#[]⟩,sliceO st (acc.map colC).length cap,.slice none 0 0,.slice none 0 0,.slice none 0 0,.slice none 0 0,.slice none 0 0,.slice none 0 0,.slice none 0 0,.int .i64 (-1),.slice none 0 0,.bool false])⟩::⟨b2,Z3,zSt⟩::ownO st Z1l [])) ([⟨b3,Z3,.is (.agg #[.int .i64 1,.string z1.1,.string ⟨#[]⟩,sliceO st (acc.map colC).length cap,.slice none 0 0,.slice none 0 0,.slice none 0 0,.slice none 0 0,.slice none 0 0,.slice none 0 0,.slice none 0 0,.int .i64 (-1),.slice none 0 0,.bool false])⟩]) rfl rfl rfl rfl hmx qK rfl qK (fun o ho=>by rw[List.mem_singleton.1 ho];exact List.mem_cons_of_mem _ List.mem_cons_self) (fun g o ho=>by rw[List.mem_singleton.1 ho];exact List.mem_cons_of_mem _ List.mem_cons_self) qK ?_;refine yz (Z0 Z2s rfl) (yz (Z5 Z2u rfl rfl) (yz (Z1 rfl) ?_));refine RT.bigg (Lq:=[⟨b3,Z3,.is (.agg #[.int .i64 1,.string z1.1,.string ⟨#[]⟩,sliceO st (acc.map colC).length cap,.slice none 0 0,.slice none 0 0,.slice none 0 0,.slice none 0 0,.slice none 0 0,.slice none 0 0,.slice none 0 0,.int .i64 (-1),.slice none 0 0,.bool false])⟩]) (Z3d (Lr:=⟨b3,Z3,.is (.agg #[.int .i64 1,.string z1.1,.string ⟨#[]⟩,sliceO st (acc.map colC).length cap,.slice none 0 0,.slice none 0 0,.slice none 0 0,.slice none 0 0,.slice none 0 0,.slice none 0 0,.slice none 0 0,.int .i64 (-1),.slice none 0 0,.bool false])⟩::⟨b2,Z3,zSt⟩::ownO st Z1l []) rfl (Z7o T b0 o0 ha h9 b vs (hI.suf.trans hu5) false) (.refl _) qF qA) (fun g=>?_);refine yz (Z1V (p:=colC g.1.1) Zca Z74 rfl qD rfl) ?_;apply yn;obtain⟨z2,hz2⟩:=g;try dsimp only
 refine JO.apO (ys:=[colC z2.1]) Z6R Cel.hlen yV hG rfl rfl (srcE (colC z2.1) Z2M) (by simp) (by rw[List.length_map];have:=hI.len;have:=(hu5).length_le;(try dsimp only at*);simp;omega) (by rw[List.length_map];have:=hI.len;have:=(hu5).length_le;simp;omega) rfl (fun st2 cap2 hG2=>?_);rw[ZcR]at hG2 ⊢;refine Jq (Z0 Z2s rfl) (JO.m (Z2B (cs':=[_,_,_,_,_,_,_,_,_,_,_,_,_,_]) (Z2m _ _ _) (Z2C _ _ _) rfl rfl (Z1R (.there .here)) rfl rfl Z6P) (Upd.same (Z1R (.there .here)) rfl) (JO.subL (L':=RB T b z2.2.1 z2.2.2::⟨b3,Z3,.is (.agg #[.int .i64 1,.string z1.1,.string ⟨#[]⟩,sliceO st2 ((acc++[z2.1]).map colC).length cap2,.slice none 0 0,.slice none 0 0,.slice none 0 0,.slice none 0 0,.slice none 0 0,.slice none 0 0,.slice none 0 0,.int .i64 (-1),.slice none 0 0,.bool false])⟩::⟨b2,Z3,zSt⟩::ownO st2 Z1l []) (Z4o (L:=[_,_,_])).symm (vP [0,2,3] ?_)));refine Jm rfl ?_;refine JO.callK (Lr:=_) (ZZ T b0 o0 ha h9 b _ ?hs _ ZW) rfl (.refl _) qF qA ?_
 case hs=>exact qW
 intro _ _;refine vD ?_;refine Ja rfl ?_;apply yI
 repeat refine JX.normal_block ?_
 refine JX.roundG (x:=(acc,st,cap,vs,false,true)) (acc++[z2.1],st2,cap2,skRB 5 ZW z2.2.1 z2.2.2,z2.2.2,isRB 5 ZW z2.2.1 z2.2.2) ?_ ?_ [0,2,3,4] ?_ ?_ ?_ ?_
 · exact⟨hI.step Zh8 hz2,hG2⟩
 · exact(by show _<vs.length+1;exact InvW.less hz2)
 · exact qS
 · exact qH
 · exact qG
 · exact fun _ _ _=>fun _ _=>trivial
 repeat apply yQ
 refine J.exit ?_
 repeat first|refine yH ?_|refine yM rfl ?_|refine yE ?_
 repeat first|apply yX|apply yB
 have hF:=hI.fin (by simpa using ht20);refine vQ ?_;refine Jm rfl ?_;refine JO.callK (Lr:=_) (Zh T b0 o0 ha h9 b _ ?hs _ 5 qD s_rp) rfl (.refl _) qF qA ?_
 case hs=>exact qW
 intro z9 hz9;refine vD ?_;refine vP [0,2,3] ?_;refine Jm rfl (Jm rfl (Jq (Z4 rfl) (Jq (Z0 Ze rfl) (Jq (Z5 Z1O rfl rfl) (Jm rfl (JO.tg rfl rfl rfl rfl rfl (fun hg=>Z0 Z2s (.inl rfl)) (JO.tg rfl rfl rfl rfl rfl (fun hg=>Z5 Z2u (qR rfl) rfl) ?_)))))));refine JO.tg rfl rfl rfl rfl rfl (fun hg=>Z5e hG Z2M (qR rfl)) ?_;refine JO.tg rfl rfl rfl rfl rfl (fun hg=>Z1r (qR rfl) (.inl rfl)) ?_;refine Jq (Zw rfl rfl rfl id) (Jq (Z4 rfl) (Jq (Z0 Ze rfl) (JO.m (Z9 (cs':=[_,_,_]) rfl rfl qU rfl rfl rfl rfl Z1A) (by rfl) ?_)));refine vS [2,3] ?_;refine J.freezeOMW (N:=0) (e:=Z1l) (sz:=4) (Nat.zero_le _) Cel.hlen hG yV (fun q hq=>by simp only[List.map_cons,List.map_nil,List.mem_singleton]at hq;exact⟨_,List.mem_cons_self,hq.symm⟩) rfl rfl ?_;rw[hG.sl.1];refine vQ ?_;refine Jq (ZU (cs:=[_,_,_,_,_,_,_,_,_,_,_,_,_,_]) Zj rfl rfl rfl) (JO.m (Z2 rfl rfl qU (by exact Zb rfl rfl) (by first|exact Zb rfl rfl|exact ZF) Zo) (by rfl) ?_);refine vS [2] ?_;refine vR ?_;refine JX.retLCs (Lr:=[_,_]) rfl ({stK 1 with tb:=z1.1,cols:=acc},z9.2.1,z9.2.2||decide (((16:Nat):Int)<(((acc.map colC).length:Nat):Int))) ?_ qP rfl rfl hb0 rfl Zj HasOwn.mem (ZQ rfl) (Sub.st rfl fun X w hf w' hk=>⟨(by have h:=SlE.ofGr hG (hf _ qI w' hk) (Zia acc w') (hf _ qI w' hk);rwa [Zid,hG.sl.1]at h),Za (FrS.nil _),Za trivial,Za trivial,Za trivial,Za (FrS.nil _),Z16,Za trivial,Z16⟩);show Rv (createR us) us bad _;unfold createR;refine Rv.ite_t ht7 (hz1.bind (hz5.bind (hF.bind (hz9.bind ?_))));rw[List.length_map];exact Rv.cap _ _ _;apply yK
 repeat first|apply yX|apply yB
 rw[Z19 ht7];refine vQ ?_;refine Jm rfl ?_;refine JO.callK (Lr:=[_,_]) (Zh T b0 o0 ha h9 b _ ?hs _ 1 qD Z9Y) rfl qP qF qA ?_
 case hs=>exact qW
 intro z1 hz1;refine vD ?_;refine vP [0,2,3] ?_;refine Jq (Z0 Z2r rfl) (JO.m (Z9 (cs':=[_,_,_,_,_,_,_,_,_,_,_,_,_,_]) rfl rfl qU rfl rfl rfl rfl Z29) (by rfl) ?_);refine vP [0,2,3] ?_;refine Jm rfl ?_;refine JO.callK (Lr:=[_,_]) (ZY T b0 o0 ha h9 b _ ?hs _) rfl qP qF qA ?_
 case hs=>exact qW
 intro z2 hz2;refine vD ?_;refine Jq (Z0 Z53 rfl) (JO.m (Z9 (cs':=[_,_,_,_,_,_,_,_,_,_,_,_,_,_]) rfl rfl qU rfl rfl rfl rfl Z2Q) (by rfl) ?_);refine vP [0,2,3] ?_;refine Jm rfl ?_;refine JO.callK (Lr:=[_,_]) (Zh T b0 o0 ha h9 b _ ?hs _ 1 qD w_ON) rfl qP qF qA ?_
 case hs=>exact qW
 intro z3 hz3;refine vD ?_;refine vP [0,2,3] ?_;refine Jm rfl ?_;refine JO.callK (Lr:=[_,_]) (ZY T b0 o0 ha h9 b _ ?hs _) rfl qP qF qA ?_
 case hs=>exact qW
 intro z4 hz4;refine vD ?_;refine Jq (Z0 Z32 rfl) (JO.m (Z9 (cs':=[_,_,_,_,_,_,_,_,_,_,_,_,_,_]) rfl rfl qU rfl rfl rfl rfl Z2Q) (by rfl) ?_);refine vP [0,2,3] ?_;refine Jm rfl ?_;refine JO.callK (Lr:=[_,_]) (Zh T b0 o0 ha h9 b _ ?hs _ 5 qD s_lp) rfl qP qF qA ?_
 case hs=>exact qW
 intro z5 hz5;have hu5:z5.2.1<:+T.ts:=qW;refine vD ?_;refine vS [0,2,3] ?_;refine J.regBgm (G:={z:ByteArray×List T3×Bool // Rv (nameP z5.2.1) z5.2.1 z5.2.2 z}) 3 5 (fun g=>.is (.string g.1.1)) (fun g=>[RB T b g.1.2.1 g.1.2.2]++([⟨b3,Z3,.is (.agg #[.int .i64 2,.string z4.1,.string z2.1,.slice none 0 0,.slice none 0 0,.slice none 0 0,.slice none 0 0,.slice none 0 0,.slice none 0 0,.slice none 0 0,.slice none 0 0,.int .i64 (-1),.slice none 0 0,.bool false])⟩,⟨b2,Z3,zSt⟩])) ([⟨b3,Z3,.is (.agg #[.int .i64 2,.string z4.1,.string z2.1,.slice none 0 0,.slice none 0 0,.slice none 0 0,.slice none 0 0,.slice none 0 0,.slice none 0 0,.slice none 0 0,.slice none 0 0,.int .i64 (-1),.slice none 0 0,.bool false])⟩]) rfl rfl rfl rfl hmx qK rfl qK (fun o ho=>by rw[List.mem_singleton.1 ho];exact List.mem_cons_of_mem _ List.mem_cons_self) (fun g o ho=>by rw[List.mem_singleton.1 ho];exact List.mem_cons_of_mem _ List.mem_cons_self) qK ?_;refine yz (Z0 Z1k rfl) (yz (Z5 Z2n rfl rfl) (yz (Z1 rfl) ?_));refine RT.bigg (Lq:=[⟨b3,Z3,.is (.agg #[.int .i64 2,.string z4.1,.string z2.1,.slice none 0 0,.slice none 0 0,.slice none 0 0,.slice none 0 0,.slice none 0 0,.slice none 0 0,.slice none 0 0,.slice none 0 0,.int .i64 (-1),.slice none 0 0,.bool false])⟩]) (Z3d (Lr:=[⟨b3,Z3,.is (.agg #[.int .i64 2,.string z4.1,.string z2.1,.slice none 0 0,.slice none 0 0,.slice none 0 0,.slice none 0 0,.slice none 0 0,.slice none 0 0,.slice none 0 0,.slice none 0 0,.int .i64 (-1),.slice none 0 0,.bool false])⟩,⟨b2,Z3,zSt⟩]) rfl (ZY T b0 o0 ha h9 b z5.2.1 hu5 z5.2.2) (.refl _) qF qA) (fun g=>?_);refine yz (Z1V (p:=strE g.1.1) Z6M Z25 rfl qD rfl) ?_;apply yn;obtain⟨z6,hz6⟩:=g;try dsimp only
 refine JO.apO (st:=none) (cap:=0) (xs:=([]:List (Cel stE))) (ys:=[strE z6.1]) Z5A Cel.hlen Tl.zero rfl rfl rfl (srcE (strE z6.1) Z1K) (by simp) (by simp) (by simp) rfl (fun st2 cap2 hG2=>?_);rw[List.nil_append]at hG2 ⊢;refine Jq (Z0 Z1k rfl) (JO.m (Z2B (cs':=[_,_,_,_,_,_,_,_,_,_,_,_,_,_]) (Z2m _ _ _) (Z2C _ _ _) rfl rfl (Z1R (.there .here)) rfl rfl Z3P) (Upd.same (Z1R (.there .here)) rfl) (JO.subL (L':=RB T b z6.2.1 z6.2.2::⟨b3,Z3,.is (.agg #[.int .i64 2,.string z4.1,.string z2.1,.slice none 0 0,sliceO st2 [strE z6.1].length cap2,.slice none 0 0,.slice none 0 0,.slice none 0 0,.slice none 0 0,.slice none 0 0,.slice none 0 0,.int .i64 (-1),.slice none 0 0,.bool false])⟩::⟨b2,Z3,zSt⟩::ownO st2 ZJ []) (Z4o (L:=[_,_,_])).symm (vP [0,2,3] ?_)));refine Jm rfl ?_;refine JO.callK (Lr:=_) (Zh T b0 o0 ha h9 b _ ?hs _ 5 qD s_rp) rfl (.refl _) qF qA ?_
 case hs=>exact qW
 intro z7 hz7;refine vD ?_;refine vP [0,2,3] ?_;refine Jm rfl ?_;refine JO.callK (Lr:=_) (Zg T b0 o0 ha h9 b _ ?hs _ Z5W) rfl (.refl _) qF qA ?_
 case hs=>exact qW
 intro _ _;refine vD ?_;refine vS [0,2,3,69] ?_;refine yC rfl (fun ht69=>?_) (fun ht69=>?_);rw[Z1e ht69];refine vQ ?_;refine Jm rfl ?_;refine JO.callK (Lr:=_) (Zh T b0 o0 ha h9 b _ ?hs _ 1 qD Zay) rfl (.refl _) qF qA ?_
 case hs=>exact qW
 intro z8 hz8;refine vD ?_;refine vP [2,3] ?_;refine Jq (Z0 Z4z rfl) (JO.m (Z9 (cs':=[_,_,_,_,_,_,_,_,_,_,_,_,_,_]) rfl rfl qU rfl rfl rfl rfl Z1A) (by rfl) ?_);refine vS [2,3] ?_;refine J.freezeOMW (N:=0) (e:=ZJ) (sz:=1) (Nat.zero_le _) Cel.hlen hG2 yV (fun q hq=>by simp only[List.map_cons,List.map_nil,List.mem_singleton]at hq;exact⟨_,List.mem_cons_self,hq.symm⟩) rfl rfl ?_;rw[hG2.sl.1];refine vQ ?_;refine Jq (ZU (cs:=[_,_,_,_,_,_,_,_,_,_,_,_,_,_]) Zj rfl rfl rfl) (JO.m (Z2 rfl rfl qU (by exact Zb rfl rfl) (by first|exact Zb rfl rfl|exact ZF) Zo) (by rfl) ?_);refine vS [2] ?_;refine vR ?_;refine JX.retLCs (Lr:=[_,_]) rfl ({stK 2 with nm:=z2.1,tb:=z4.1,names:=[z6.1],hash:=true},z8.2.1,z8.2.2) ?_ qP rfl rfl hb0 rfl Zj HasOwn.mem (ZQ rfl) (Sub.st rfl fun X w hf w' hk=>⟨Za (FrS.nil _),(by have h:=SlE.ofGr hG2 (hf _ qI w' hk) (ZcU [z6.1] w') (hf _ qI w' hk);rwa [hG2.sl.1]at h),Za trivial,Za trivial,Za trivial,Za (FrS.nil _),Z16,Za trivial,Z16⟩);show Rv (createR us) us bad _;unfold createR;refine Rv.ite_f ht7 (hz1.bind (hz2.bind (hz3.bind (hz4.bind (hz5.bind (hz6.bind (hz7.bind ?_)))))));exact Rv.ite_t ht69 (Rv.map hz8 rfl);apply yK
 repeat first|apply yX|apply yB
 try rw[Z19 ht69]
 refine J.freezeOMW (N:=0) (e:=ZJ) (sz:=1) (Nat.zero_le _) Cel.hlen hG2 yV (fun q hq=>by simp only[List.map_cons,List.map_nil,List.mem_singleton]at hq;exact⟨_,List.mem_cons_self,hq.symm⟩) rfl rfl ?_;rw[hG2.sl.1];refine vQ ?_;refine Jq (ZU (cs:=[_,_,_,_,_,_,_,_,_,_,_,_,_,_]) Zj rfl rfl rfl) (JO.m (Z2 rfl rfl qU (by exact Zb rfl rfl) (by first|exact Zb rfl rfl|exact ZF) Zo) (by rfl) ?_);refine vS [2] ?_;refine vR ?_;refine JX.retLCs (Lr:=[_,_]) rfl ({stK 2 with nm:=z2.1,tb:=z4.1,names:=[z6.1]},z7.2.1,z7.2.2) ?_ qP rfl rfl hb0 rfl Zj HasOwn.mem (ZQ rfl) (Sub.st rfl fun X w hf w' hk=>⟨Za (FrS.nil _),(by have h:=SlE.ofGr hG2 (hf _ qI w' hk) (ZcU [z6.1] w') (hf _ qI w' hk);rwa [hG2.sl.1]at h),Za trivial,Za trivial,Za trivial,Za (FrS.nil _),Z16,Za trivial,Z16⟩);show Rv (createR us) us bad _;unfold createR;refine Rv.ite_f ht7 (hz1.bind (hz2.bind (hz3.bind (hz4.bind (hz5.bind (hz6.bind (hz7.bind ?_)))))));exact Rv.ite_f ht69 (Rv.pure _)
abbrev EC(T:Rk)(b:Nat)(us:List T3)(bad:Bool)(l:Int):Prop:=CallL Tryz.prog Z2W [RB T b us bad] [T.G] [.is (.pointer (some ⟨b,0,none⟩)),.is (.int .i64 l)] (fun z:Ex×List T3×Bool=>∀n,us.length<n->Rv (exprR n l us) us bad z) (fun z=>[RB T b z.2.1 z.2.2]) (fun z=>.rep (ExR z.1))
abbrev E0(T:Rk)(b:Nat):Prop:=∀us bad,us<:+T.ts->CallL Tryz.prog Z2W [RB T b us bad] [T.G] [.is (.pointer (some ⟨b,0,none⟩)),.is (.int .i64 0)] (fun z:Ex×List T3×Bool=>Rv (T.e us) us bad z) (fun z=>[RB T b z.2.1 z.2.2]) (fun z=>.rep (ExR z.1))
theorem Zdh{α:Type}{c:Prop}[Decidable c]{a b:α}:some (if c then a else b)=if c then some a else some b:=by split<;>rfl
theorem Rv.skt{α:Type}{us:List T3}{bad:Bool}{k:Int}{s:ByteArray}(x:α):Rv (some (x,skT k s us)) us bad (x,skRB k s us bad,bad):=by
 unfold skT;rw[show(some (x,if isT k s us then us.tail else us):Option (α×List T3))=if isT k s us then some (x,us.tail)else some (x,us) by split<;>rfl];cases h:isRB k s us bad with
 |true=>rw[Z1e h];exact Rv.ite_t h (.pure x)
 |false=>rw[Z19 h];exact Rv.ite_f h (.pure x)
theorem Rv.mapb{α β:Type}{o:Option (α×List T3)}{us:List T3}{bad:Bool}{f:α×List T3->β×List T3}{z:α×List T3×Bool}{y:β×List T3×Bool}(h:Rv o us bad z)(h2:Rv (some (f (z.1,z.2.1))) z.2.1 z.2.2 y):Rv (o.map f) us bad y:=by
 rw[Option.map_eq_bind];exact h.bind h2
attribute [local irreducible] SlE ExsR
theorem Z84(T:Rk)(b0 o0:Nat)(ha:T.ts.length≠0->T.ad=some ⟨b0,o0,none⟩)(h9:T.ts.length<=2049)(b:Nat)(us:List T3)(hus:us<:+T.ts)(bad:Bool)(hE:E0 T b):CallL Tryz.prog Z8D [RB T b us bad] [T.G] [.is (.pointer (some ⟨b,0,none⟩))] (fun z:Pz.Itm×List T3×Bool=>Rv (itemP T.e us) us bad z) (fun z=>[RB T b z.2.1 z.2.2]) (fun z=>.rep (itE.T z.1)):=
CallL.of (fn:=Tryz.f75) Tryz.func75 (n:=9) rfl rfl rfl (fun _ _=>by kernel_rfl) fun E W hb0=>by
 refine vQ ?_;refine JO.alloc Z7P rfl fun b2=>(vP [0,2] ?_);refine Jm rfl ?_;refine JO.callK (Lr:=[_]) (ZZ T b0 o0 ha h9 b _ ?hs _ Z1g) rfl qP qF qA ?_
 case hs=>exact qW
 intro _ _;refine vD ?_;refine vS [0,2,4] ?_;refine yC rfl (fun ht4=>?_) (fun ht4=>?_);rw[Z1e ht4];refine vQ ?_;refine Jq (Zd (cs:=[_,_,_,_,_,_,_,_,_]) Z6a (.cons rfl .nil) rfl rfl) (JO.m (Z2 rfl rfl qU (by exact Zb rfl rfl) (by first|exact Zb rfl rfl|exact ZF) Z4T) (by rfl) ?_);refine vS [2] ?_;refine vR ?_;refine JX.retLCs (Lr:=[_]) rfl (⟨true,ex0⟩,us.tail,bad) ?_ qP rfl rfl hb0 rfl Z4X HasOwn.mem (ZQ rfl) Sub.itAll;exact Rv.ite_t ht4 (.pure _);apply yK
 repeat first|apply yX|apply yB
 rw[Z19 ht4];refine vQ ?_;refine Jm rfl (JO.callK (Lr:=[_]) (hE (us) (bad) (hus)) rfl qP qF qA ?_);intro z hz;refine vD ?_;refine JO.openA (s:=7) rfl (fun a7 l7 q7 b7_ o7_ _ _=>?_);refine Jq (Zd (cs:=[_,_,_,_,_,_,_,_,_]) Z6a (.cons rfl .nil) rfl rfl) (JO.m (Z2 rfl rfl qU (by exact Zb rfl rfl) (by first|exact Zb rfl rfl|exact ZF) Z4T) (by rfl) ?_);refine vS [2] ?_;refine vR ?_;refine JX.retLCs (Lr:=[_]) rfl (⟨false,z.1⟩,z.2.1,z.2.2) ?_ qP rfl rfl hb0 rfl Z4X HasOwn.mem (ZQ rfl) (Sub.itEx qI rfl);exact Rv.ite_f ht4 (Rv.map hz rfl)
theorem Z8I(T:Rk)(b0 o0:Nat)(ha:T.ts.length≠0->T.ad=some ⟨b0,o0,none⟩)(h9:T.ts.length<=2049)(b:Nat)(us:List T3)(hus:us<:+T.ts)(bad:Bool)(hE:E0 T b):CallL Tryz.prog Z8H [RB T b us bad] [T.G] [.is (.pointer (some ⟨b,0,none⟩))] (fun z:Pz.Ky×List T3×Bool=>Rv (keyR T.e us) us bad z) (fun z=>[RB T b z.2.1 z.2.2]) (fun z=>.rep (kyE.T z.1)):=
CallL.of (fn:=Tryz.f78) Tryz.func78 (n:=13) rfl rfl rfl (fun _ _=>by kernel_rfl) fun E W hb0=>by
 refine vQ ?_;refine JO.alloc Z5u rfl fun b2=>(vP [0,2] ?_);refine Jm rfl (JO.callK (Lr:=[_]) (hE (us) (bad) (hus)) rfl qP qF qA ?_);intro z hz;refine vD ?_;refine JO.openA (s:=5) rfl (fun a5 l5 q5 b5_ o5_ _ _=>?_);refine Jq (Zd (cs:=[_,_,_,_,_,_,_,_,_]) ZaK (.cons rfl .nil) rfl rfl) (JO.alloc Z5u rfl fun b3=>(JO.m (Z2 rfl rfl qU (by exact Zb rfl rfl) (by first|exact Zb rfl rfl|exact ZF) Z40) (by rfl) ?_));refine vP [0,2,3] ?_;refine Jm rfl ?_;refine JO.callK (Lr:=[_,_]) (Zg T b0 o0 ha h9 b _ ?hs _ Z6i) rfl qP qF qA ?_
 case hs=>exact qW
 intro _ _;refine vD ?_;refine vS [0,2,3,8] ?_;refine yC rfl (fun ht8=>?_) (fun ht8=>?_);rw[Z1e ht8];refine vQ ?_;refine Jq (Z0 Z5E rfl) (JO.m (Z9 (cs':=[_,_,_,_,_,_,_,_,_]) rfl rfl qU rfl rfl rfl rfl Z1A) (by rfl) ?_);refine vP [2,3] ?_;refine Jq (ZU (cs:=[_,_,_,_,_,_,_,_,_]) Z3a rfl rfl rfl) (JO.m (Z2 rfl rfl qU (by exact Zb rfl rfl) (by first|exact Zb rfl rfl|exact ZF) Z40) (by rfl) ?_);refine vS [2] ?_;refine vR ?_;refine JX.retLCs (Lr:=[_,_]) rfl (⟨z.1,true⟩,z.2.1.tail,z.2.2) ?_ qP rfl rfl hb0 rfl Z3a HasOwn.mem (ZQ rfl) (Sub.kyEx qI rfl);show Rv (keyR T.e us) us bad _;unfold keyR;refine Rv.mapb hz ?_;rw[Zdh];exact Rv.ite_t ht8 (.pure _);rw[Z19 ht8];refine vQ ?_;refine Jm rfl ?_;refine JO.callK (Lr:=[_,_]) (Zg T b0 o0 ha h9 b _ ?hs _ Z6d) rfl qP qF qA ?_
 case hs=>exact qW
 intro _ _;refine vD ?_;refine vP [2,3] ?_;refine Jq (ZU (cs:=[_,_,_,_,_,_,_,_,_]) Z3a rfl rfl rfl) (JO.m (Z2 rfl rfl qU (by exact Zb rfl rfl) (by first|exact Zb rfl rfl|exact ZF) Z40) (by rfl) ?_);refine vS [2] ?_;refine vR ?_;refine JX.retLCs (Lr:=[_,_]) rfl (⟨z.1,false⟩,skRB 1 Z6d z.2.1 z.2.2,z.2.2) ?_ qP rfl rfl hb0 rfl Z3a HasOwn.mem (ZQ rfl) (Sub.kyEx qI rfl);show Rv (keyR T.e us) us bad _;unfold keyR;refine Rv.mapb hz ?_;rw[Zdh];exact Rv.ite_f ht8 (Rv.skt _)
theorem Z3E(T:Rk)(b0 o0:Nat)(ha:T.ts.length≠0->T.ad=some ⟨b0,o0,none⟩)(h9:T.ts.length<=2049)(b:Nat)(us:List T3)(hus:us<:+T.ts)(bad:Bool)(hE:E0 T b):CallL Tryz.prog Z7W [RB T b us bad] [T.G] [.is (.pointer (some ⟨b,0,none⟩))] (fun z:List Ex×List T3×Bool=>Rv (whereP T.e us) us bad z) (fun z=>[RB T b z.2.1 z.2.2]) (fun z=>.rep (SlE exE (FX 0) z.1)):=
CallL.of (fn:=Tryz.f38) Tryz.func38 (n:=8) rfl rfl rfl (fun _ _=>by kernel_rfl) fun E W hb0=>by
 refine vQ ?_;refine Ja rfl (vP [0] ?_);refine Jm rfl ?_;refine JO.callK (Lr:=[]) (Zg T b0 o0 ha h9 b _ ?hs _ Z80) rfl qP qF qA ?_
 case hs=>exact qW
 intro _ _;refine vD ?_;refine vS [0,4] ?_;refine yC rfl (fun ht4=>?_) (fun ht4=>?_);rw[Z1e ht4];refine vQ ?_;refine Jm rfl (JO.callK (Lr:=[]) (hE (us.tail) (bad) (((List.tail_suffix us).trans hus))) rfl qP qF qA ?_);intro z hz;refine vD ?_;rw[Z5Z];refine JO.openT (s:=6) rfl (fun p1 hp1=>?_);refine JO.buildE Z3F Zy rfl qD rfl rfl (fun b8=>?_);refine Ja rfl (vS [2] ?_);refine J.freezeOMW (N:=0) (e:=Z7) (sz:=8) (Nat.zero_le _) Cel.hlen (growE p1) .here (fun q hq=>by simp only[List.map_cons,List.map_nil,List.mem_singleton]at hq;exact⟨_,List.mem_cons_self,hq.symm⟩) rfl rfl ?_;refine J.fact (CelF exE [p1]) (fun X w hf _=>fun w' hk p hp=>by rw[List.mem_singleton.1 hp];exact hf _ qI w' hk) ?_;refine vR ?_;exact JX.retL1 (Lr:=[]) rfl ([p1].map Cel.x,z.2.1,z.2.2) (by unfold whereP;refine Rv.ite_t ht4 ?_;rw[List.map_singleton,hp1];exact Rv.map hz rfl) (.refl _) rfl rfl hb0 rfl (Sub.slEO (growE p1) qI qI qI);apply yK
 repeat first|apply yX|apply yB
 rw[Z19 ht4];refine vQ ?_;refine Ja rfl (vS [2] ?_);refine vR ?_;exact JX.retL1 (Lr:=[]) rfl ([],us,bad) (Rv.ite_f ht4 (.pure _)) (.refl _) rfl rfl hb0 rfl (Sub.slENil fun _=>FrS.nil _)
end Go.Proofs.YtbedigkncjbggaaGreatDoor
set_option maxRecDepth 20000
namespace Go.Proofs.YtbedigkncjbggaaGreatDoor
open Go Go.Vc
open Go.Pz
theorem Rv.itek_f{α:Type}{us:List T3}{bad:Bool}{k:Int}{p q:Option (α×List T3)}{z:α×List T3×Bool}(h:isKB k us bad=false)(hz:Rv q us bad z):Rv (if isK k us then p else q) us bad z:=by
 cases bad with
 |true=>exact⟨hz.1,hz.2.1,fun h=>by cases h⟩
 |false=>rw[show isK k us=false by simpa [isKB] using h];exact hz
theorem Zhd{us:List T3}{bad:Bool}{z y:ByteArray×List T3×Bool}(hz:Rv (nameP us) us bad z)(hv:(isRB 1 w_AS z.2.1 z.2.2||((pkT (skRB 1 w_AS z.2.1 z.2.2) z.2.2).k==2))=true)(hy:Rv (nameP (skRB 1 w_AS z.2.1 z.2.2)) (skRB 1 w_AS z.2.1 z.2.2) z.2.2 y):Rv (sourceP us) us bad ((⟨z.1,y.1,[]⟩:Pz.Src),y.2.1,y.2.2):=by
 unfold sourceP;refine hz.bind ?_;dsimp only;cases hA:isRB 1 w_AS z.2.1 z.2.2 with
 |true=>refine Rv.ite_t hA ?_;rw[Z1e hA]at hy;exact Rv.map hy rfl
 |false=>
   refine Rv.ite_f hA ?_;rw[Z19 hA]at hy;rw[hA,Bool.false_or,Z19 hA,ZaN qD]at hv;rw[if_pos (ZaB hv).2];exact Rv.map hy rfl
theorem Zi9{us:List T3}{bad:Bool}{z:ByteArray×List T3×Bool}(hz:Rv (nameP us) us bad z)(hv:(isRB 1 w_AS z.2.1 z.2.2||((pkT (skRB 1 w_AS z.2.1 z.2.2) z.2.2).k==2))=false):Rv (sourceP us) us bad ((⟨z.1,z.1,[]⟩:Pz.Src),skRB 1 w_AS z.2.1 z.2.2,z.2.2):=by
 rw[Bool.or_eq_false_iff]at hv;obtain⟨hA,hK⟩:=hv;rw[Z19 hA,ZaN qD]at hK;rw[Z19 hA];unfold sourceP;refine hz.bind ?_;exact Rv.ite_f hA (Rv.itek_f hK (.pure _))
attribute [local irreducible] SlE ExsR
theorem Z4S(T:Rk)(b0 o0:Nat)(ha:T.ts.length≠0->T.ad=some ⟨b0,o0,none⟩)(h9:T.ts.length<=2049)(b:Nat)(us:List T3)(hus:us<:+T.ts)(bad:Bool)(hE:E0 T b):CallL Tryz.prog Z4V [RB T b us bad] [T.G] [.is (.pointer (some ⟨b,0,none⟩))] (fun z:List Ex×List T3×Bool=>Rv (exprsR T.e us) us bad z) (fun z=>[RB T b z.2.1 z.2.2]) (fun z=>.rep (SlE exE (FX 0) z.1)):=
CallL.of (fn:=Tryz.f74) Tryz.func74 (n:=33) rfl rfl rfl (fun _ _=>by kernel_rfl) fun E W hb0=>by
 refine vQ ?_;refine Ja rfl (vP [0] ?_);refine Ja rfl (vP [0,3] ?_);refine Ja rfl (vS [0,3,4] ?_);apply yk
 repeat apply yQ
 refine J.loopH (α:=List (Cel exE)×Option (Nat×List Value)×Nat×List T3×Bool×Bool) (fun x=>[(0,.is (.pointer (some ⟨b,0,none⟩))),(3,.is (sliceO x.2.1 x.1.length x.2.2.1)),(4,.is (.bool x.2.2.2.2.2))]) (fun x=>RB T b x.2.2.2.1 x.2.2.2.2.1::ownO x.2.1 Z7 []) (fun x=>CelF exE x.1) (fun x=>InvW T.e us bad (x.1.map Cel.x) x.2.2.2.1 x.2.2.2.2.1 x.2.2.2.2.2/\Grows Cel.cs 8 x.1 x.2.1 x.2.2.1) (fun x=>x.2.2.2.1.length+(if x.2.2.2.2.2 then 1 else 0)) ([],none,0,us,bad,true) [0,3,4] (.cons rfl (.cons rfl (.cons rfl .nil))) rfl (fun X w hF=>fun w' hk=>CelF.nil w') ⟨InvW.start _ _ _,rfl⟩ fun⟨ps,st,cap,vs,bd,mo⟩ ⟨hI,hG⟩=>?_;try dsimp only
 try dsimp only at hI
 try dsimp only at hG
 refine vQ ?_;refine Jm rfl (Jm rfl (JO.tg rfl rfl rfl rfl rfl (fun hg=>Z1 (.inl rfl)) (JO.tg rfl rfl rfl rfl rfl (fun hg=>Z4 (qR rfl)) ?_)));refine JO.tg rfl rfl rfl rfl rfl (fun hg=>Z0 Ze (qR rfl)) ?_;refine JO.tg rfl rfl rfl rfl rfl (fun hg=>Z5 Z1O (qR rfl) rfl) ?_;refine JO.tg rfl rfl rfl rfl rfl (fun hg=>Z22 (qR rfl)) ?_;refine Jq (Zl rfl rfl rfl id) (vS [0,3,12] ?_);refine yC rfl (fun ht12=>?_) (fun ht12=>?_);apply yK;refine vN ?_;apply yk;obtain⟨rfl,rfl⟩:mo=true/\bd=false:=by simpa using ht12
 refine vQ ?_;refine Jm rfl (Jm rfl (JO.callK (Lr:=_) (hE (vs) (false) ((hI.suf.trans hus))) rfl (.refl _) qF qA ?_));intro z2 hz2;refine vD ?_;rw[Z5Z];refine JO.openT (s:=17) rfl (fun p2 hp2=>?_);refine Jq (Z1V (p:=p2) Z3F Zy rfl qD rfl) ?_;refine JO.apO (ys:=[p2]) Z1j Cel.hlen yV hG rfl rfl (srcE p2 Zs) (by simp) (by have h1:=hI.len;have h2:=hus.length_le;rw[List.length_map]at h1;simp;omega) (by have h1:=hI.len;have h2:=hus.length_le;rw[List.length_map]at h1;simp;omega) rfl (fun st2 cap2 hG2=>?_);refine JO.subL (L':=RB T b z2.2.1 z2.2.2::ownO st2 Z7 []) (Z4o (L:=[_])).symm (Ja rfl (vP [0,3] ?_));refine Jm rfl ?_;refine JO.callK (Lr:=_) (ZZ T b0 o0 ha h9 b _ ?hs _ ZW) rfl (.refl _) qF qA ?_
 case hs=>exact qW
 intro _ _;refine vD ?_;refine Ja rfl ?_;apply yI
 repeat refine JX.normal_block ?_
 refine JX.roundG (x:=(ps,st,cap,vs,false,true)) (ps++[p2],st2,cap2,skRB 5 ZW z2.2.1 z2.2.2,z2.2.2,isRB 5 ZW z2.2.1 z2.2.2) ?_ ?_ [0,3,4] ?_ ?_ ?_ ?_
 · exact⟨(by rw[List.map_append,List.map_singleton,hp2];exact hI.step T.e_dn hz2),hG2⟩
 · exact(by show _<vs.length+1;exact InvW.less hz2)
 · exact qS
 · exact qH
 · exact qG
 · exact fun X w hF=>fun w' hk=>CelF.snoc (hF _ qI w' hk) (hF _ List.mem_cons_self w' hk)
 repeat apply yQ
 refine J.exit ?_
 repeat first|refine yH ?_|refine yM rfl ?_|refine yE ?_
 repeat first|apply yX|apply yB
 have hF:=hI.fin (by simpa using ht12);refine vQ ?_;refine Jm rfl (Jm rfl (Jq (Z4 rfl) (Jq (Z0 Ze rfl) (Jq (Z5 Z1O rfl rfl) (Jm rfl (JO.tg rfl rfl rfl rfl rfl (fun hg=>Z1 (.inl rfl)) (JO.tg rfl rfl rfl rfl rfl (fun hg=>Z5e hG Zs (qR rfl)) ?_)))))));refine JO.tg rfl rfl rfl rfl rfl (fun hg=>Z1r (qR rfl) (.inl rfl)) ?_;refine Jq (Zw rfl rfl rfl id) (Jq (Z4 rfl) (Jq (Z0 Ze rfl) (JO.m (Z9 (cs':=[_,_,_]) rfl rfl qU rfl rfl rfl rfl Z1A) (by rfl) ?_)));refine vS [3] ?_;refine J.freezeOMW (N:=0) (e:=Z7) (sz:=8) (Nat.zero_le _) Cel.hlen hG yV (fun q hq=>by simp only[List.map_cons,List.map_nil,List.mem_singleton]at hq;exact⟨_,List.mem_cons_self,hq.symm⟩) rfl rfl ?_;rw[hG.sl.1];refine vQ ?_;refine Jm rfl (Ja rfl (vS [2] ?_));refine vR ?_;exact JX.retL1 (Lr:=[]) rfl (ps.map Cel.x,vs,bd||decide (((16:Nat):Int)<((ps.length:Nat):Int))) (by unfold exprsR;refine hF.bind ?_;rw[<-List.length_map (f:=Cel.x)];exact Rv.cap _ _ _) (by simp) rfl rfl hb0 rfl (Sub.slE hG.sl.2 qI qI (fun X w hf=>hf _ qI))
theorem Z4L(T:Rk)(b0 o0:Nat)(ha:T.ts.length≠0->T.ad=some ⟨b0,o0,none⟩)(h9:T.ts.length<=2049)(b:Nat)(us:List T3)(hus:us<:+T.ts)(bad:Bool):CallL Tryz.prog Z7h [RB T b us bad] [T.G] [.is (.pointer (some ⟨b,0,none⟩))] (fun z:Pz.Src×List T3×Bool=>Rv (sourceP us) us bad z) (fun z=>[RB T b z.2.1 z.2.2]) (fun z=>.is (srcV z.1)):=
CallL.of (fn:=Tryz.f76) Tryz.func76 (n:=22) rfl rfl rfl (fun _ _=>by kernel_rfl) fun E W hb0=>by
 refine vQ ?_;refine JO.alloc Z30 rfl fun b2=>(vP [0,2] ?_);refine Jm rfl ?_;refine JO.callK (Lr:=[_]) (ZY T b0 o0 ha h9 b _ ?hs _) rfl qP qF qA ?_
 case hs=>exact qW
 intro z hz;refine vD ?_;refine Ja rfl (vP [0,2,3] ?_);refine Jm rfl (Jm rfl (Jq (Zd (cs:=[_,_,_]) Z9n (.cons rfl (.cons rfl .nil)) rfl rfl) (JO.alloc Z30 rfl fun b4=>(JO.m (Z2 rfl rfl qU (by exact Zb rfl rfl) (by first|exact Zb rfl rfl|exact ZF) Z2q) (by rfl) ?_))));refine vP [0,2,4] ?_;refine Jm rfl ?_;refine JO.callK (Lr:=[_,_]) (Zg T b0 o0 ha h9 b _ ?hs _ w_AS) rfl qP qF qA ?_
 case hs=>exact qW
 intro _ _;refine vD ?_;refine Jm rfl (JO.tg rfl rfl rfl rfl rfl (fun hg=>Z1 (.inl rfl)) ?_);refine JO.gcall (g:=2) (s:=12) (b:=false) (cc:=isRB 1 w_AS z.2.1 z.2.2) (T:=.is (tkV (pkT (skRB 1 w_AS z.2.1 z.2.2) z.2.2))) rfl rfl rfl rfl (fun _=>rfl) (fun e hn=>?_) ?_
 · exact JO.callKG (Lr:=[_,_]) e (Z2v T b0 o0 ha h9 b (skRB 1 w_AS z.2.1 z.2.2) (Z3X.trans (hz.suf.trans hus)) z.2.2) rfl (.refl _) qF (.one (qR rfl) .nil) (fun _ _=>hn)
 refine JO.tg rfl rfl rfl rfl rfl (fun hg=>Z4l (off:=0) qK (qR rfl) rfl) ?_;refine JO.tg rfl rfl rfl rfl rfl (fun hg=>ZP (qR rfl) (.inl rfl)) ?_;refine Jq (Zw rfl rfl rfl id) (vS [0,2,4,17] ?_);refine yC rfl (fun ht17=>?_) (fun ht17=>?_);refine vQ ?_;refine Jm rfl ?_;refine JO.callK (Lr:=[_,_]) (ZY T b0 o0 ha h9 b _ ?hs _) rfl qP qF qA ?_
 case hs=>exact qW
 intro y hy;refine vD ?_;refine Jq (Z0 Z4g rfl) (JO.m (Z9 (cs':=[_,_,_]) rfl rfl qU rfl rfl rfl rfl Z2Q) (by rfl) ?_);refine vP [2,4] ?_;refine Jq (ZU (cs:=[_,_,_]) Z24 rfl rfl rfl) (JO.m (Z2 rfl rfl qU (by exact Zb rfl rfl) (by first|exact Zb rfl rfl|exact ZF) Z2q) (by rfl) ?_);refine vS [2] ?_;refine vR ?_;exact JX.retLC (Lr:=[_,_]) rfl (⟨z.1,y.1,[]⟩,y.2.1,y.2.2) (Zhd hz ht17 hy) qP rfl hb0 rfl Z24 HasOwn.mem rfl rfl;apply yK;refine vN ?_;apply yN;refine Jq (ZU (cs:=[_,_,_]) Z24 rfl rfl rfl) (JO.m (Z2 rfl rfl qU (by exact Zb rfl rfl) (by first|exact Zb rfl rfl|exact ZF) Z2q) (by rfl) ?_);refine vS [2] ?_;refine vR ?_;exact JX.retLC (Lr:=[_,_]) rfl (⟨z.1,z.1,[]⟩,skRB 1 w_AS z.2.1 z.2.2,z.2.2) (Zi9 hz ht17) qP rfl hb0 rfl Z24 HasOwn.mem rfl rfl
end Go.Proofs.YtbedigkncjbggaaGreatDoor
set_option maxRecDepth 20000
namespace Go.Proofs.YtbedigkncjbggaaGreatDoor
open Go Go.Vc
open Go.Pz
theorem Zih(us:List T3):binR us=binG binL [pkT us false]:=by
 have h: ∀(l:List (Int×ByteArray×Int×Int)),(∀q∈l,q.1≠0)->binG l us=binG l [pkT us false]:=by
   intro l
   induction l with
   |nil=>intro _;rfl
   |cons q l ih=>
     intro hq;obtain⟨k,s,x,y⟩:=q;have hk:k≠0:=hq _ List.mem_cons_self;rw[binG,binG,ih fun q h=>hq q (List.mem_cons_of_mem _ h)];have e:isT k s us=isT k s [pkT us false]:=by
       cases us with
       |nil=>show false=((0:Int)==k&&_);rw[show((0:Int)==k)=false by rw[beq_eq_false_iff_ne];exact fun h=>hk h.symm];rfl
       |cons t r=>rfl
     rw[e]
 exact h binL (by decide+kernel)
def bnA(i:Nat):Int×ByteArray×Int×Int:=binL.getD i (0,em,0,0)
abbrev bnT:List Value:=[.string w_OR,.string Z1U,.string s_eq,.string s_ne,.string s_lt,.string s_le,.string s_gt,.string s_ge,.string Z2O,.string Z1s,.string Z1g,.string Z2x,.string Z3x]
abbrev bnK:List Value:=[.int .i64 17,.int .i64 16,.int .i64 10,.int .i64 11,.int .i64 12,.int .i64 13,.int .i64 14,.int .i64 15,.int .i64 5,.int .i64 6,.int .i64 7,.int .i64 8,.int .i64 9]
abbrev bnB:List Value:=[.int .i64 1,.int .i64 2,.int .i64 4,.int .i64 4,.int .i64 4,.int .i64 4,.int .i64 4,.int .i64 4,.int .i64 5,.int .i64 5,.int .i64 6,.int .i64 6,.int .i64 6]
theorem Zip{i:Nat}(h:i<13):nth (Value.cells (.agg bnT.toArray)).toList (0+((i:Nat):Int).toNat*1)=some (.string (bnA i).2.1):=by
 match i,h with
 |0,_|1,_|2,_|3,_|4,_|5,_|6,_|7,_|8,_|9,_|10,_|11,_|12,_=>rfl
theorem Ziq{i:Nat}(h:i<13):nth (Value.cells (.agg bnK.toArray)).toList (0+((i:Nat):Int).toNat*1)=some (.int .i64 (bnA i).2.2.1):=by
 match i,h with
 |0,_|1,_|2,_|3,_|4,_|5,_|6,_|7,_|8,_|9,_|10,_|11,_|12,_=>rfl
theorem ZhW{i:Nat}(h:i<13):nth (Value.cells (.agg bnB.toArray)).toList (0+((i:Nat):Int).toNat*1)=some (.int .i64 (bnA i).2.2.2):=by
 match i,h with
 |0,_|1,_|2,_|3,_|4,_|5,_|6,_|7,_|8,_|9,_|10,_|11,_|12,_=>rfl
theorem bn_k{i:Nat}(h:i<13):(bnA i).1=if i<2 then 1 else 5:=by
 match i,h with
 |0,_|1,_|2,_|3,_|4,_|5,_|6,_|7,_|8,_|9,_|10,_|11,_|12,_=>rfl
theorem ZdM{i:Nat}(h:i<13)(t:T3):binG (binL.drop i) [t]=if isT (bnA i).1 (bnA i).2.1 [t]then(bnA i).2.2 else binG (binL.drop (i+1)) [t]:=by
 have h':i<binL.length:=h;rw[List.drop_eq_getElem_cons h'];have e:binL[i]=bnA i:=by unfold bnA;rw[List.getD_eq_getElem?_getD,List.getElem?_eq_getElem h'];rfl
 rw[e];obtain⟨k,s,x,y⟩:=bnA i
 rfl
theorem ZgQ{i:Nat}(h:i<13)(t:T3):(seq t.t (bnA i).2.1&&((decide ((i:Int)<2)&&(t.k==1))||(decide ((2:Int)<=(i:Int))&&(t.k==5))))=isT (bnA i).1 (bnA i).2.1 [t]:=by
 show _=((t.k==(bnA i).1)&&sq t.t (bnA i).2.1);rw[bn_k h,Z2D,Bool.and_comm]
 congr 1
 by_cases hi:i<2
 · rw[if_pos hi,decide_eq_true (show(i:Int)<2 by omega),decide_eq_false (show ¬(2:Int)<=i by omega)];simp
 · rw[if_neg hi,decide_eq_false (show ¬(i:Int)<2 by omega),decide_eq_true (show(2:Int)<=i by omega)];simp
theorem Z4G(T:Rk)(b0 o0:Nat)(ha:T.ts.length≠0->T.ad=some ⟨b0,o0,none⟩)(h9:T.ts.length<=2049)(b:Nat)(us:List T3)(hus:us<:+T.ts):CallL Tryz.prog Z7c [RB T b us false] [T.G] [.is (.pointer (some ⟨b,0,none⟩))] (fun _:Unit=>True) (fun _=>[RB T b us false]) (fun _=>.is (.tuple #[.int .i64 (binR us).1,.int .i64 (binR us).2])):=
CallL.of (fn:=Tryz.f128) Tryz.func128 (n:=48) rfl rfl rfl (fun _ _=>by kernel_rfl) fun E W hb0=>by
 refine vQ ?_;refine Ja rfl (Ja rfl (vP [0] ?_));refine Jm rfl (JO.callK (Lr:=[]) (Z2v T b0 o0 ha h9 b us hus false) rfl (.refl _) qF qA ?_);intro _ _;refine vD ?_;refine JO.alloc Z1q rfl fun b4=>(JO.m (Z2 rfl rfl qU (by exact Zb rfl rfl) (by first|exact Zb rfl rfl|exact ZF) ZL) (by rfl) ?_);refine vP [4] ?_;refine Jq (Zd (cs:=[_,_,_,_,_,_,_,_,_,_,_,_,_]) Zd1 (.cons rfl (.cons rfl (.cons rfl (.cons rfl (.cons rfl (.cons rfl (.cons rfl (.cons rfl (.cons rfl (.cons rfl (.cons rfl (.cons rfl (.cons rfl .nil))))))))))))) rfl rfl) (JO.alloc Zde rfl fun b5=>(JO.m (Z2 rfl rfl qU qC qO Zdn) (by rfl) ?_));refine vP [4,5] ?_;refine Jq (Zd (cs:=[_,_,_,_,_,_,_,_,_,_,_,_,_]) Zbw (.cons rfl (.cons rfl (.cons rfl (.cons rfl (.cons rfl (.cons rfl (.cons rfl (.cons rfl (.cons rfl (.cons rfl (.cons rfl (.cons rfl (.cons rfl .nil))))))))))))) rfl rfl) (JO.alloc Zbo rfl fun b6=>(JO.m (Z2 rfl rfl qU qC qO Zbp) (by rfl) ?_));refine vP [4,5,6] ?_;refine Jq (Zd (cs:=[_,_,_,_,_,_,_,_,_,_,_,_,_]) Zbw (.cons rfl (.cons rfl (.cons rfl (.cons rfl (.cons rfl (.cons rfl (.cons rfl (.cons rfl (.cons rfl (.cons rfl (.cons rfl (.cons rfl (.cons rfl .nil))))))))))))) rfl rfl) (JO.alloc Zbo rfl fun b7=>(JO.m (Z2 rfl rfl qU qC qO Zbp) (by rfl) ?_));refine vP [4,5,6,7] ?_;refine Ja rfl (vS [4,5,6,7,8] ?_);apply yk
 repeat apply yQ
 refine J.loopF (α:=Nat) (fun k=>[(4,.is (.pointer (some ⟨b4,0,none⟩))),(5,.is (.pointer (some ⟨b5,0,none⟩))),(6,.is (.pointer (some ⟨b6,0,none⟩))),(7,.is (.pointer (some ⟨b7,0,none⟩))),(8,.is (.int .i64 (k:Nat)))]) (fun k=>k<=13/\binR us=binG (binL.drop k) [pkT us false]) (fun k=>13-k) 0 [4,5,6,7,8] (.cons rfl (.cons rfl (.cons rfl (.cons rfl (.cons rfl .nil))))) ⟨by omega,Zih us⟩ fun i ⟨hi,hB⟩=>?_;refine vQ ?_;refine Jm rfl (Jq (Z10 rfl rfl) (vS [4,5,6,7,8,15] ?_));refine yC rfl (fun ht15=>?_) (fun ht15=>?_)
 try simp only[yd,yf]at ht15
 apply yK;refine vN ?_;apply yk
 repeat apply yQ
 refine J.reg0 hmx qK qK ?_;refine yz (Z0 Z1x rfl) (yz (Z5 Zr rfl rfl) (yz (Z1 rfl) (yz (Z51 (m:=13) (e:=ZJ) (sz:=1) qK qK rfl rfl qM qM) ?_)));refine yz (Z5 Zr rfl (Zip (i:=i) qM)) ?_;refine yz (Z2g rfl rfl) (yz (Z1 rfl) (yg rfl rfl rfl (fun hg=>Z1 (.inl rfl)) (yg rfl rfl rfl (fun hg=>Z10 (qR rfl) (.inl rfl)) ?_)));refine yg rfl rfl rfl (fun hg=>Z1 (qR rfl)) ?_;refine RT.gg rfl rfl rfl (fun hg=>(Z0 Z1i (.inl rfl))) ?_;refine RT.gg rfl rfl rfl (fun hg=>(Z5 Zx (qR rfl) rfl)) ?_;refine RT.gg rfl rfl rfl (fun hg=>(ZP (qR rfl) (.inl rfl))) ?_;refine yg rfl rfl rfl (fun hg=>Zl (qR rfl) (.inl rfl) (.inl rfl) (fun h=>⟨hg,h⟩)) ?_;refine yg rfl rfl rfl (fun hg=>Z1 (qR rfl)) ?_;refine RT.gg rfl rfl rfl (fun hg=>(Z1 (.inl rfl))) ?_;refine RT.gg rfl rfl rfl (fun hg=>(Z47 (qR rfl) (.inl rfl))) ?_;refine RT.gg rfl rfl rfl (fun hg=>(Z1 (qR rfl))) ?_;refine RT.gg rfl rfl rfl (fun hg=>(Z0 Z1i (.inl rfl))) ?_;refine RT.gg rfl rfl rfl (fun hg=>(Z5 Zx (qR rfl) rfl)) ?_;refine RT.gg rfl rfl rfl (fun hg=>(ZP (qR rfl) (.inl rfl))) ?_;refine RT.gg rfl rfl rfl (fun hg=>(Zl (qR rfl) (.inl rfl) (.inl rfl) (fun h=>⟨hg,h⟩))) ?_;refine yg rfl rfl rfl (fun hg=>Zw (qR rfl) (.inl rfl) (.inl rfl) (fun h=>⟨hg,h⟩)) ?_;refine yz (Zl rfl rfl rfl id) ?_;apply yn;refine FinS.nil0 ?_;refine vS [4,5,6,7,8,41] ?_;refine yC rfl (fun ht41=>?_) (fun ht41=>?_);have hIS:isT (bnA i).1 (bnA i).2.1 [pkT us false]=true:=by rw[<-ZgQ qM];exact ht41
 have hR:binR us=(bnA i).2.2:=by rw[hB,ZdM qM,if_pos hIS]
 repeat apply yQ
 refine J.reg0 hmx qK qK ?_;refine yz (Z1 rfl) (yz (Z51 (m:=13) (e:=Z48) (sz:=1) qK qK rfl rfl qM qM) ?_);refine yz (Z5 Zx rfl (Ziq (i:=i) qM)) ?_;refine yz (Z1 rfl) (yz (Z51 (m:=13) (e:=Z48) (sz:=1) qK qK rfl rfl qM qM) ?_);refine yz (Z5 Zx rfl (ZhW (i:=i) qM)) ?_;refine yz (Z2l rfl) (yz (Z2l rfl) ?_);apply yn;refine FinS.nil0 ?_;refine vS [2,3] ?_;refine vR ?_;exact JX.retL2 (Lr:=[_,_,_,_]) rfl () trivial qP rfl hb0 rfl rfl (by rw[hR]);apply yK
 repeat first|apply yX|apply yB
 have hIS:isT (bnA i).1 (bnA i).2.1 [pkT us false]=false:=by rw[<-ZgQ qM];exact ht41
 refine vQ ?_;refine Jm rfl (Jq (Zv (cc:=((i+1:Nat):Int)) rfl rfl qM qM qM) ?_);refine Ja rfl ?_;apply yI
 repeat refine JX.normal_block ?_
 refine JX.roundS (i+1) ?_ ?_ [4,5,6,7,8] ?_ ?_ ?_
 · exact⟨by omega,by rw[hB,ZdM qM,if_neg (by rw[hIS];decide)]⟩
 · exact qM
 · exact qS
 · exact qB
 · exact qB
 try simp only[yd,yf]at ht15
 repeat apply yQ
 refine J.exit ?_
 repeat first|refine yH ?_|refine yM rfl ?_|refine yE ?_
 repeat first|apply yX|apply yB
 have hR:binR us=(0,0):=by rw[hB,List.drop_eq_nil_of_le (show binL.length<=i by show 13<=i;omega)];rfl
 refine vQ ?_;refine Ja rfl (Ja rfl (vS [2,3] ?_));refine vR ?_;exact JX.retL2 (Lr:=[_,_,_,_]) rfl () trivial qP rfl hb0 rfl rfl (by rw[hR])
end Go.Proofs.YtbedigkncjbggaaGreatDoor
