/- The parser: lists. One proof for all instances of list, one for those of within. No condition. -/
import Derived.Test.YtbedigkncjbggaaDoorXQ3
import Derived.Test.YtbedigkncjbggaaDoorXQ1
set_option maxRecDepth 20000
namespace Go.Proofs.YtbedigkncjbggaaDoor
open Go Go.Vc
open Go.Pz
inductive LK|ex|it|ky|co|st|rw
namespace LK
abbrev f:LK->Nat
 | .ex=>Z5C
 | .it=>Z5V
 | .ky=>Z6j
 | .co=>Z4Q
 | .st=>Z6C
 | .rw=>Z4K
abbrev e:LK->Nat
 | .ex=>Z4
 | .it=>Zag
 | .ky=>ZaU
 | .co=>Z38
 | .st=>Z55
 | .rw=>Z5w
abbrev s:LK->Nat
 | .ex=>Z5w
 | .it=>Z8c
 | .ky=>Z93
 | .co=>Z7J
 | .st=>Z9r
 | .rw=>Z7b
abbrev z:LK->Nat
 | .ex=>8
 | .it=>9
 | .ky=>9
 | .co=>4
 | .st=>1
 | .rw=>1
abbrev y:LK->Nat
 | .ex=>104
 | .it=>112
 | .ky=>112
 | .co=>32
 | .st=>16
 | .rw=>24
noncomputable def n:LK->Func
 | .ex=>Tryd.f44
 | .it=>Tryd.f40
 | .ky=>Tryd.f45
 | .co=>Tryd.f56
 | .st=>Tryd.f47
 | .rw=>Tryd.f36
theorem func(k:LK):Tryd.prog.funcs[k.f]? =some k.n:=by cases k;exact Tryd.func44;exact Tryd.func40;exact Tryd.func45;exact Tryd.func56;exact Tryd.func47;exact Tryd.func36
theorem ap(k:LK):ApTy Tryd.prog k.s k.e k.z k.y:=by cases k;exact Z1S;exact Z8n;exact Z8P;exact Z7H;exact Z9B;exact Z7h
theorem sl(k:LK): ∃zs,SlShape Tryd.prog k.s k.e k.z zs/\zs.length=k.z:=by cases k;exact⟨_,ZK,rfl⟩;exact⟨_,Z8i,rfl⟩;exact⟨_,Z8Q,rfl⟩;exact⟨_,Z7O,rfl⟩;exact⟨_,Z1A,rfl⟩;exact⟨_,Z49,rfl⟩
theorem un(k:LK):Tryd.prog.underlying k.s=some (.slice k.e):=by cases k;exact ZY;exact Z3y;exact Z44;exact Z4t;exact Z2J;exact Z2a
end LK
theorem ZbU(k:LK){α β S:Type}(N:Nat)(T:Tk)(hc:T.ts.length<=T.cap)(h9:T.ts.length<=2049)(b:Nat)(ts:List T3)(hts:ts<:+T.ts)(En:Enc β)(hE:En.flat)(hs:En.sz=k.z)(part:Ps α)(proj:β->α)(hpd:Dn part)(X:S->List Own)(I:S->List β->Prop)(s0:S)(hI0:I s0 [])(hXb: ∀s,∀o∈X s0,∃o'∈X s,o'.b=o.b)(hXo: ∀s,(X s).all (fun o=>o.T.out)=true)(most:Nat)(fp:FuncId)(cp:List Value)(hpart: ∀us s l,us<:+T.ts->l.length+us.length<=ts.length->I s l->CallP Tryd.prog fp (PB T b us::X s) [T.G,AF,NH N] ([.is (.pointer (some ⟨b,0,none⟩))]++cp.map Ty.is) (part us=none) flt (fun z:β×List T3×S=>part us=some (proj z.1,z.2.1)/\I z.2.2 (l++[z.1])) (fun z=>PB T b z.2.1::X z.2.2) (fun z=>.rep (En.T z.1))):CallP Tryd.prog k.f (PB T b ts::X s0) [T.G,AF,NH N] [.is (.pointer (some ⟨b,0,none⟩)),.is (.int .i64 (most:Int)),.is (.func (.func fp) #[] cp.toArray)] (listP most part ts=none) flt (fun z:List β×List T3×S=>listP most part ts=some (z.1.map proj,z.2.1)/\I z.2.2 z.1) (fun z=>PB T b z.2.1::X z.2.2) (fun z=>.rep (SlE En (FrS N k.e En.sz) z.1)):=by
 have hsl:=k.sl;have hap:=k.ap;have hun:=k.un;obtain⟨zs,hsl,hzl⟩:=hsl
 let e:=k.e
 cases k
 all_goals
   refine CallP.ofN (N:=N) (List.mem_cons_of_mem _ (List.mem_cons_of_mem _ List.mem_cons_self)) (fn:=LK.n _) (LK.func _) (n:=27) rfl rfl rfl (fun _ _=>by kernel_rfl) fun E W hNW hb0=>?_;refine vQ ?_;refine Ja rfl (vP [0,1,2] ?_);refine Jm rfl (Jm rfl ?_);refine JO.callPvK (cp:=cp) (Lr:=[]) rfl (hpart ts s0 [] hts (by simp) hI0) rfl (.of_eq (List.append_nil _).symm) qF (.one rfl .nil) (fun hbad=>?_) ?_
   · exact JX.pnI (by rw[Z7m,hbad];rfl)
   rintro⟨x1,us1,s1⟩ ⟨hz1,hI1⟩;refine vD ?_
   try simp only[List.append_nil]
   refine JO.openT (s:=10) rfl (fun p1 hp1=>?_);refine JO.buildE hE (by rw[hs];exact hsl) (by rw[hs];exact hzl) (by rw[hs];decide) rfl rfl (fun b11=>?_);refine Ja rfl (vS [0,1,2,7] ?_);apply yk
   repeat apply yQ
   refine J.loopH (α:=List (Cel En)×Option (Nat×List Value)×Nat×List T3×S) (fun x=>[(0,.is (.pointer (some ⟨b,0,none⟩))),(1,.is (.int .i64 (most:Int))),(2,.is (.func (.func fp) #[] cp.toArray)),(7,.is (sliceO x.2.1 x.1.length x.2.2.1))]) (fun x=>ownO x.2.1 e (PB T b x.2.2.2.1::X x.2.2.2.2)) (fun x=>CelF En x.1) (fun x=>x.2.2.2.1<:+T.ts/\x.1.length+x.2.2.2.1.length<=ts.length/\Grows Cel.cs En.sz x.1 x.2.1 x.2.2.1/\I x.2.2.2.2 (x.1.map Cel.x)/\listP most part ts=listI most part ((x.1.map Cel.x).map proj) x.2.2.2.1) (fun x=>x.2.2.2.1.length) ([p1],some (b11,p1.cs),1,us1,s1) [0,1,2,7] (.cons rfl (.cons rfl (.cons rfl (.cons rfl .nil)))) rfl (fun X w hF=>fun w' hk p hp=>by rw[List.mem_singleton.1 hp];exact hF _ List.mem_cons_self w' hk) ⟨(show us1<:+ts from(hpd _ _ hz1).1).trans hts,(show 1+us1.length<=ts.length by have:us1.length<ts.length:=(hpd _ _ hz1).2;omega),growE p1,(by rw[List.map_singleton,hp1];exact hI1),(by rw[Z7m,hz1,List.map_singleton,hp1];rfl)⟩ fun⟨ps,st,cap,us,s⟩ ⟨hus,hlen,hG,hIs,hP⟩=>?_;try dsimp only
   try dsimp only at hus
   try dsimp only at hlen
   try dsimp only at hG
   try dsimp only at hIs
   try dsimp only at hP
   refine vQ ?_;refine Jm rfl (JO.subL (L':=PB T b us::ownO st e (X s)) Z83.symm (JO.callK (Lr:=ownO st e (X s)) (Zh T hc b us hus Z2z) rfl (.refl _) qF qA ?_));intro _ _;refine vD ?_;refine JO.subL (L':=ownO st e (PB T b (skT 5 Z2z us)::X s)) Z83 (vS [0,1,2,7,13] ?_);refine yC rfl (fun ht13=>?_) (fun ht13=>?_);apply yK;refine vN ?_;apply yk;have hcm:isT 5 Z2z us=true:=ht13;rw[ZU hcm];refine vQ ?_;refine Jm rfl (Jm rfl (Jm rfl (JO.subL (L':=(PB T b us.tail::X s)++ownO st e []) Z8B.symm ?_)));refine JO.callPvK (cp:=cp) (Lr:=ownO st e []) rfl (hpart us.tail s (ps.map Cel.x) (Zl hus) (by have:=(Zt hcm).2;rw[List.length_map];omega) hIs) rfl (.refl _) qF (.one rfl .nil) (fun hbad=>?_) ?_
   · exact JX.pnI (by rw[hP,Z8z hpd.le hcm,hbad];rfl)
   rintro⟨x2,us2,s2⟩ ⟨hz2,hI2⟩;refine vD ?_;refine JO.subL (L':=ownO st e (PB T b us2::X s2)) Z8B ?_;refine JO.openT (s:=17) rfl (fun p2 hp2=>?_);have hd2:=(hpd _ _ hz2).2;have hlt:=(Zt hcm).2;have hle9:=hts.length_le;refine Jq (Z4Z hE (by rw[hs];exact hsl) (by rw[hs];exact hzl) (by rw[hs];decide) rfl) ?_;refine JO.apO (ys:=[p2]) (by rw[hs];exact hap) Cel.hlen .here hG rfl rfl (srcE p2 hun) (by simp) (by show(ps.length+1)*_<=140737488355328;exact Nat.le_trans (Nat.mul_le_mul_right _ (show ps.length+1<=4096 by omega)) qD) (by show ps.length+1<=9223372036854775807;omega) rfl (fun st2 cap2 hG2=>?_);refine Ja rfl ?_;apply yI
   repeat refine JX.normal_block ?_
   refine JX.roundG (x:=(ps,st,cap,us,s)) (ps++[p2],st2,cap2,us2,s2) ?_ ?_ [0,1,2,7] ?_ ?_ ?_ ?_
   · exact⟨(show us2<:+us.tail from(hpd _ _ hz2).1).trans (Zl hus),(by show(ps++[p2]).length+us2.length<=ts.length;rw[List.length_append];show ps.length+1+us2.length<=ts.length;have:us2.length<us.tail.length:=hd2;omega),hG2,(by rw[List.map_append,List.map_singleton,hp2];exact hI2),(by rw[hP,Z8z hpd.le hcm,hz2,List.map_append,List.map_singleton,hp2,List.map_append];rfl)⟩
   · exact(by show us2.length<us.length;have:us2.length<us.tail.length:=hd2;omega)
   · exact qS
   · exact qH
   · exact qG
   · exact fun X w hF=>fun w' hk=>CelF.snoc (hF _ qI w' hk) (hF _ List.mem_cons_self w' hk)
   repeat apply yQ
   refine J.exit ?_
   repeat first|refine yH ?_|refine yM rfl ?_|refine yE ?_
   repeat first|apply yX|apply yB
   have hcm:isT 5 Z2z us=false:=ht13;rw[Z17 hcm];rw[hG.sl.1];refine vQ ?_;refine Jm rfl (Jm rfl (Jq (ZS hun rfl) (Jm rfl (Jq (Z42 rfl rfl) ?_))));refine JO.callPK (Lr:=_) (Zb (.pointer (some ⟨b,0,none⟩)) (decide ((ps.length:Int)<=(most:Int)))) rfl (Z1b _) Z13 qA (fun hbad=>?_) ?_
   · exact JX.pnI (by rw[hP];exact ZaP hcm (by rw[List.length_map,List.length_map];have:=of_decide_eq_false hbad;omega))
   intro _ hmo;refine vD ?_;refine vS [7] ?_;refine J.freezeOMW (e:=e) (sz:=En.sz) hNW Cel.hlen hG .here (fun q hq=>?_) rfl (by rw[List.all_cons,hXo];rfl) ?_
   · rw[List.map_cons]at hq
     rcases List.mem_cons.1 hq with rfl|hq
     · exact⟨_,List.mem_cons_self,rfl⟩
     · obtain⟨o,ho,e⟩:=List.mem_map.1 hq
       obtain⟨o2,ho2,e2⟩:=hXb s o ho;exact⟨o2,List.mem_cons_of_mem _ ho2,e2.trans e⟩
   refine vQ ?_;refine Jm rfl (Ja rfl (vS [6] ?_));refine vR ?_;refine JX.toP ?_;exact JX.retL1 (Lr:=[]) rfl (ps.map Cel.x,us,s) ⟨by rw[hP,Z9W hcm,if_pos (by rw[List.length_map,List.length_map];have:=of_decide_eq_true hmo;omega)],hIs⟩ (.of_eq (List.append_nil _).symm) (by rw[List.all_cons,hXo];rfl) rfl hb0 rfl (Sub.slE hG.sl.2 qI qI (fun X w hf=>hf _ qI))
theorem Z5u(k:LK){α:Type}(N:Nat)(T:Tk)(hc:T.ts.length<=T.cap)(h9:T.ts.length<=2049)(b:Nat)(ts:List T3)(hts:ts<:+T.ts)(En:Enc α)(hE:En.flat)(hs:En.sz=k.z)(part:Ps α)(hpd:Dn part)(most:Nat)(fp:FuncId)(hpart: ∀us,us<:+T.ts->us.length<=ts.length->CallP Tryd.prog fp [PB T b us] [T.G,AF,NH N] [.is (.pointer (some ⟨b,0,none⟩))] (part us=none) flt (fun z:α×List T3=>part us=some z) (fun z=>[PB T b z.2]) (fun z=>.rep (En.T z.1))):
  CallP Tryd.prog k.f [PB T b ts] [T.G,AF,NH N] [.is (.pointer (some ⟨b,0,none⟩)),.is (.int .i64 (most:Int)),.is (fv fp)] (listP most part ts=none) flt (fun z:List α×List T3=>listP most part ts=some z) (fun z=>[PB T b z.2]) (fun z=>.rep (SlE En (FrS N k.e En.sz) z.1)):=
 (ZbU k (S:=Unit) N T hc h9 b ts hts En hE hs part id hpd (fun _=>[]) (fun _ _=>True) () trivial (fun _ _ h=>by cases h) (fun _=>rfl) most fp [] fun us s l hus hu _=>(hpart us hus qM).map id (fun z=>(z.1,z.2,())) (fun z hz=>⟨hz,trivial⟩) (fun z _=>rfl) (fun z _=>rfl)).map id (fun z=>(z.1,z.2.1)) (fun z hz=>by have:=hz.1;rwa [List.map_id]at this) (fun _ _=>rfl) (fun _ _=>rfl)
inductive WK|ex|co|st
namespace WK
abbrev k:WK->LK
 | .ex=>.ex
 | .co=>.co
 | .st=>.st
abbrev f:WK->Nat
 | .ex=>Z4N
 | .co=>Z4e
 | .st=>Z5R
noncomputable def n:WK->Func
 | .ex=>Tryd.f38
 | .co=>Tryd.f32
 | .st=>Tryd.f35
theorem func(k:WK):Tryd.prog.funcs[k.f]? =some k.n:=by cases k;exact Tryd.func38;exact Tryd.func32;exact Tryd.func35
end WK
theorem Z7C(k:WK){α:Type}(N:Nat)(T:Tk)(hc:T.ts.length<=T.cap)(h9:T.ts.length<=2049)(b:Nat)(ts:List T3)(hts:ts<:+T.ts)(En:Enc α)(hE:En.flat)(hs:En.sz=k.k.z)(part:Ps α)(hpd:Dn part)(fp:FuncId)(hpart: ∀us,us<:+T.ts->us.length<=ts.length->CallP Tryd.prog fp [PB T b us] [T.G,AF,NH N] [.is (.pointer (some ⟨b,0,none⟩))] (part us=none) flt (fun z:α×List T3=>part us=some z) (fun z=>[PB T b z.2]) (fun z=>.rep (En.T z.1))):CallP Tryd.prog k.f [PB T b ts] [T.G,AF,NH N] [.is (.pointer (some ⟨b,0,none⟩)),.is (fv fp)] (withinP part ts=none) flt (fun z:List α×List T3=>withinP part ts=some z) (fun z=>[PB T b z.2]) (fun z=>.rep (SlE En (FrS N k.k.e En.sz) z.1)):=by
 let e:=k.k.e
 have hl:=@Z5u k.k α N T hc h9 b;cases k
 all_goals
  refine CallP.of (fn:=WK.n _) (WK.func _) (n:=18) rfl rfl rfl (fun _ _=>by kernel_rfl) fun E W hb0=>?_;refine vQ ?_;refine Ja rfl (vP [0,1] ?_);refine Jm rfl (Jm rfl (JO.callK (Lr:=[]) (Zh T hc b ts hts s_lp) rfl (.refl _) qF qA ?_));intro _ _;refine vD ?_;refine JO.callPK (Lr:=_) (Zb (.pointer (some ⟨b,0,none⟩)) (isT 5 s_lp ts)) rfl (Z1b _) Z13 qA (fun hbad=>?_) ?_
  · exact JX.pnI (by unfold withinP;rw[wantN hbad];rfl)
  intro _ hlp;refine vD ?_;refine vS [0,1] ?_;rw[ZU hlp];refine vQ ?_;refine Jm rfl (Jm rfl ?_);refine JO.callPK (Lr:=[]) (hl ts.tail (Zl hts) En hE hs part hpd 16 fp (fun us hus hu=>hpart us hus (by have:=(Zt hlp).2;omega))) rfl (.refl _) qF qA (fun hbad=>?_) ?_
  · exact JX.pnI (by unfold withinP;rw[wantY hlp];simp only[Option.bind_some];rw[hbad];rfl)
  intro z hz;have hzs:z.2<:+T.ts:=(Z1Q hpd.le 16 _ _ hz).trans (Zl hts);refine vD ?_;refine Ja rfl (vP [0,5] ?_);refine Jm rfl (Jm rfl (JO.callK (Lr:=[]) (Zh T hc b z.2 hzs s_rp) rfl (.refl _) qF qA ?_));intro _ _;refine vD ?_;refine JO.callPK (Lr:=_) (Zb (.pointer (some ⟨b,0,none⟩)) (isT 5 s_rp z.2)) rfl (Z1b _) Z13 qA (fun hbad=>?_) ?_
  · exact JX.pnI (by unfold withinP;rw[wantY hlp];simp only[Option.bind_some];rw[hz];simp only[Option.bind_some];rw[wantN hbad];rfl)
  intro _ hrp;refine vD ?_;refine vS [5] ?_;rw[ZU hrp];refine vQ ?_;refine Jm rfl (Ja rfl (vS [4] ?_));refine vR ?_;refine JX.toP ?_;exact JX.retL1 (Lr:=[]) rfl (z.1,z.2.tail) (by unfold withinP;rw[wantY hlp];simp only[Option.bind_some];rw[hz];simp only[Option.bind_some];rw[wantY hrp];rfl) (.refl _) rfl rfl hb0 rfl (Sub.refl _)
abbrev tyO:List (ByteArray×Int):=[(ZaS,1),(Z9N,2),(Z9E,3)]
abbrev tyVs:List Value:=[.string ZaS,.string Z9N,.string Z9E]
theorem Zeb{i:Nat}(h:i<3):tyVs[0+((i:Nat):Int).toNat*1]? =some (.string (tyO.getD i (em,0)).1):=by
 match i,h with
 |0,_=>rfl
 |1,_=>rfl
 |2,_=>rfl
theorem ty_k{i:Nat}(h:i<3):((i:Nat):Int)+1=(tyO.getD i (em,0)).2:=by
 match i,h with
 |0,_=>rfl
 |1,_=>rfl
 |2,_=>rfl
theorem Z9L(us:List T3):typeP us=(opOf 1 tyO us).map fun t=>(t,us.tail):=by
 unfold typeP;simp only[Go.Pz.opOf]
 split
 · rfl
 split
 · rfl
 split
 · rfl
 · rfl
def coI(us1:List T3)(i:Nat)(ty:Int)(us:List T3):Prop:=(ty=0->us=us1/\opOf 1 (tyO.drop i) us1=opOf 1 tyO us1)/\(ty≠0->0<ty/\typeP us1=some (ty,us))
theorem Zdg{us1:List T3}{i:Nat}{us:List T3}(h:coI us1 i 0 us)(hi:i<3)(ht:isT 1 (tyO.getD i (em,0)).1 us=true):coI us1 (i+1) (((i:Nat):Int)+1) us.tail:=by
 obtain⟨rfl,h2⟩:=h.1 rfl;rw[Z3f (ops:=tyO) (by show i<3;omega),if_pos ht]at h2;refine⟨fun e=>by omega,fun _=>⟨by omega,?_⟩⟩;rw[Z9L,<-h2,ty_k hi];rfl
theorem ZdM{us1:List T3}{i:Nat}{us:List T3}(h:coI us1 i 0 us)(hi:i<3)(ht:isT 1 (tyO.getD i (em,0)).1 us=false):coI us1 (i+1) 0 us:=by
 obtain⟨rfl,h2⟩:=h.1 rfl;rw[Z3f (ops:=tyO) (by show i<3;omega),if_neg (by rw[ht];decide)]at h2;exact⟨fun _=>⟨rfl,h2⟩,fun e=>absurd rfl e⟩
theorem ZdH{us1:List T3}{i:Nat}{ty:Int}{us:List T3}(h:coI us1 i ty us)(hn:ty≠0):coI us1 (i+1) ty us:=⟨fun e=>absurd e hn,h.2⟩
theorem ZaE{us1:List T3}{i:Nat}{ty:Int}{us:List T3}(h:coI us1 i ty us)(hi:3<=i):(¬0<ty->typeP us1=none)/\(0<ty->typeP us1=some (ty,us)):=by
 refine⟨fun hn=>?_,fun hp=>(h.2 qM).2⟩
 by_cases e:ty=0
 · have:=(h.1 e).2
   rw[List.drop_eq_nil_of_le (by exact hi)]at this;rw[Z9L,<-this];rfl
 · exact absurd (h.2 e).1 hn
theorem Sub.coT{L:List Own}{Φ:List (World->Prop)}{nm:ByteArray}{ty:Int}{nn un:Bool}:Sub L Φ (.is (.agg #[.string nm,.int .i64 ty,.bool nn,.bool un])) (.rep (coE.T ⟨nm,ty,nn,un⟩)):=fun X v w hf e=>by
 rw[show v=_ from e];exact fun w' _=>⟨Col.cells ⟨nm,ty,nn,un⟩,rfl,rfl⟩
theorem Sub.itAll{L:List Own}{Φ:List (World->Prop)}:Sub L Φ (.is (.agg #[.bool true,.int .i64 0,.int .i64 0,.int .i64 0,.string em,.string em,.string em,.int .i64 0,.slice none 0 0])) (.rep (itE.T ⟨true,ex0⟩)):=fun X v w hf e=>by
 rw[show v=_ from e];exact fun w' _=>⟨_,rfl,exCells 0 0 0 em em em 0 none 0 0,rfl,Z9R⟩
theorem Sub.itEx{L:List Own}{Φ:List (World->Prop)}{x:Ex}{es:List Value}{cs:Array Value}(hF:ExR x (.agg es.toArray)∈Φ)(hc:cs=(Value.bool false::es).toArray):Sub L Φ (.is (.agg cs)) (.rep (itE.T ⟨false,x⟩)):=fun X v w hf e=>by
 rw[show v=_ from e,hc];exact fun w' hk=>⟨_,rfl,es,rfl,hf.2 _ hF w' hk⟩
theorem Sub.kyEx{L:List Own}{Φ:List (World->Prop)}{x:Ex}{d:Bool}{es:List Value}{cs:Array Value}(hF:ExR x (.agg es.toArray)∈Φ)(hc:cs=(es++[Value.bool d]).toArray):Sub L Φ (.is (.agg cs)) (.rep (kyE.T ⟨x,d⟩)):=fun X v w hf e=>by
 rw[show v=_ from e,hc];exact fun w' hk=>⟨_,rfl,es,rfl,hf.2 _ hF w' hk⟩
theorem Z4O(N:Nat)(T:Tk)(hc:T.ts.length<=T.cap)(h9:T.ts.length<=2049)(b:Nat)(ts:List T3)(hts:ts<:+T.ts):CallP Tryd.prog Z2W [PB T b ts] [T.G,AF,NH N] [.is (.pointer (some ⟨b,0,none⟩))] (colP ts=none) flt (fun z:Pz.Col×List T3=>colP ts=some z) (fun z=>[PB T b z.2]) (fun z=>.rep (coE.T z.1)):=
CallP.of (fn:=Tryd.f33) Tryd.func33 (n:=49) rfl rfl rfl (fun _ _=>by kernel_rfl) fun E W hb0=>by
 refine vQ ?_;refine JO.alloc Z6r rfl fun b2=>(vP [0,2] ?_);refine Jm rfl ?_;refine JO.callPK (Lr:=[_]) (Zr T hc b ts hts) rfl (List.perm_append_comm (l₁:=[_]) (l₂:=[_])) qF qA (fun hbad=>?_) ?_
 · exact JX.pnI (by unfold colP;rw[hbad];rfl)
 intro z1 hz1;refine vD ?_;refine Jq (Zo (cs:=[_,_,_,_]) Z8V (.cons rfl .nil) rfl rfl) (JO.alloc Z6r rfl fun b3=>(JO.m (Z2 rfl rfl qU qC qO Z2v) (by rfl) ?_));refine vP [0,2,3] ?_;refine Jq (ZD (cs:=[_,_,_]) Z1A qM qM (.cons rfl (.cons rfl (.cons rfl .nil))) rfl rfl rfl) ?_;refine JO.openNew (s:=9) rfl (fun r9=>?_);refine Jq (ZS Z2J rfl) (Jm rfl (vS [0,2,3,9,10,11] ?_));apply yk
 repeat apply yQ
 refine J.loopG (α:=Nat×Int×List T3) (fun x=>[(0,.is (.pointer (some ⟨b,0,none⟩))),(2,.is (.pointer (some ⟨b2,0,none⟩))),(3,.is (.pointer (some ⟨b3,0,none⟩))),(9,.is (.slice (some ⟨r9,0,none⟩) 3 3)),(10,.is (.int .i64 3)),(11,.is (.int .i64 (x.1:Int)))]) (fun x=>[⟨b3,Z38,.is (.agg #[.string z1.1,.int .i64 x.2.1,.bool false,.bool false])⟩,PB T b x.2.2,⟨b2,Z38,.is (.agg #[.string ⟨#[]⟩,.int .i64 0,.bool false,.bool false])⟩]) (fun x=>fun _=>True) (fun x=>x.1<=3/\x.2.2<:+T.ts/\coI z1.2 x.1 x.2.1 x.2.2) (fun x=>3-x.1) (0,0,z1.2) [0,2,3,9,10,11] (.cons rfl (.cons rfl (.cons rfl (.cons rfl (.cons rfl (.cons rfl .nil)))))) rfl (fun _=>trivial) ⟨Nat.zero_le _,(show z1.2<:+T.ts from(Zw _ _ hz1).1.trans hts),⟨fun _=>⟨rfl,rfl⟩,fun h=>absurd rfl h⟩⟩ fun⟨i,ty,us⟩ ⟨hi,hus,hI⟩=>?_;try dsimp only
 try dsimp only at hi
 try dsimp only at hus
 try dsimp only at hI
 refine vQ ?_;refine Jq (Z1o rfl rfl) (vS [0,2,3,9,10,11,12] ?_);refine yC rfl (fun ht12=>?_) (fun ht12=>?_)
 try simp only[yd,yf]at ht12
 apply yK;refine vN ?_;apply yk;refine vQ ?_;refine Jm rfl (Jq (Zq Z3k rfl rfl rfl qM qM) ?_);refine Jq (Z5O (cs:=tyVs) (u:=.string (tyO.getD i (em,0)).1) ZC rfl qI (Zeb qM)) ?_;refine Ja rfl (Ja rfl (vS [0,2,3,4,5,9,10,11] ?_))
 by_cases hty0:ty=0
 refine vQ ?_;refine Jq (Z0 Z2E rfl) (Jq (Z5 Zy rfl rfl) (Jq (Ob.bc (ZT rfl rfl) (cc:=true) (by rw[hty0];rfl)) ?_));refine Jm rfl (JO.gd rfl rfl rfl (Jm rfl (JO.gd rfl rfl rfl (Jm rfl (JO.gd rfl rfl rfl (JO.callK (Lr:=[_,_]) (Za T hc b (us) ((show us<:+T.ts from hus)) (tyO.getD i (em,0)).1) rfl (.swap _ _ _) qF qA ?_))))));intro _ _;refine vD ?_;refine Jq (Z9p rfl rfl) (vS [0,2,3,4,9,10,11,23] ?_);refine yC rfl (fun ht23=>?_) (fun ht23=>?_);have hI0:coI z1.2 i 0 us:=hty0 ▸ hI;rw[ZU ht23];refine vQ ?_;refine Jm rfl (Jq (ZB (cc:=((i:Nat):Int)+1) rfl rfl rfl qM qM) ?_);refine Jq (Z0 Z2E rfl) (JO.m (Zc (cs':=[_,_,_,_]) rfl rfl qU rfl rfl rfl rfl Z30) (by rfl) ?_);refine vS [0,2,3,9,10,11] ?_
 first|(have hnt5:isT 1 (tyO.getD i (em,0)).1 us=false:=ht23;have hI0:coI z1.2 i 0 us:=hty0 ▸ hI;rw[Z17 hnt5])|skip
 refine vQ ?_;refine Jq (ZB (cc:=((i+1:Nat):Int)) rfl rfl qM qM qM) ?_;refine Jm rfl ?_;apply yI
 repeat refine JX.normal_block ?_
 refine JX.roundG (x:=(i,ty,us)) (i+1,((i:Nat):Int)+1,us.tail) ?_ ?_ [0,2,3,9,10,11] ?_ ?_ ?_ ?_
 · exact⟨by show i+1<=3;omega,Zl hus,Zdg hI0 qM ht23⟩
 · exact(by show 3-(i+1)<3-i;omega)
 · exact qS
 · exact qH
 · exact qG
 · exact fun _ _ _=>fun _ _=>trivial
 apply yK
 repeat first|apply yX|apply yB
 first|(have hnt5:isT 1 (tyO.getD i (em,0)).1 us=false:=ht23;have hI0:coI z1.2 i 0 us:=hty0 ▸ hI;rw[Z17 hnt5])|skip
 refine vQ ?_;refine Jq (ZB (cc:=((i+1:Nat):Int)) rfl rfl qM qM qM) ?_;refine Jm rfl ?_;apply yI
 repeat refine JX.normal_block ?_
 refine JX.roundG (x:=(i,ty,us)) (i+1,ty,us) ?_ ?_ [0,2,3,9,10,11] ?_ ?_ ?_ ?_
 · exact⟨by show i+1<=3;omega,hus,(by show coI z1.2 (i+1) ty us;rw[hty0];exact ZdM hI0 qM hnt5)⟩
 · exact(by show 3-(i+1)<3-i;omega)
 · exact qS
 · exact qH
 · exact qG
 · exact fun _ _ _=>fun _ _=>trivial
 refine vQ ?_;refine Jq (Z0 Z2E rfl) (Jq (Z5 Zy rfl rfl) (Jq (Ob.bc (ZT rfl rfl) (cc:=false) (by simpa using hty0)) ?_));refine Jm rfl (JO.gn rfl rfl rfl rfl rfl (JO.gn rfl rfl rfl rfl rfl (JO.gn rfl rfl rfl rfl rfl (Jq (Z9y rfl rfl) (vS [0,2,3,4,9,10,11,23] ?_)))));refine yC rfl (fun ht23=>?_) (fun ht23=>?_)
 exfalso
 cases ht23
 try simp only[yd,yf]at ht23
 apply yK
 repeat first|apply yX|apply yB
 first|(have hnt5:isT 1 (tyO.getD i (em,0)).1 us=false:=ht23;have hI0:coI z1.2 i 0 us:=hty0 ▸ hI;rw[Z17 hnt5])|skip
 refine vQ ?_;refine Jq (ZB (cc:=((i+1:Nat):Int)) rfl rfl qM qM qM) ?_;refine Jm rfl ?_;apply yI
 repeat refine JX.normal_block ?_
 refine JX.roundG (x:=(i,ty,us)) (i+1,ty,us) ?_ ?_ [0,2,3,9,10,11] ?_ ?_ ?_ ?_
 · exact⟨by show i+1<=3;omega,hus,ZdH hI hty0⟩
 · exact(by show 3-(i+1)<3-i;omega)
 · exact qS
 · exact qH
 · exact qG
 · exact fun _ _ _=>fun _ _=>trivial
 try simp only[yd,yf]at ht12
 repeat apply yQ
 refine J.exit ?_
 repeat first|refine yH ?_|refine yM rfl ?_|refine yE ?_
 refine vN ?_;apply yN;refine Jm rfl (Jq (Z0 Z2E rfl) (Jq (Z5 Zy rfl rfl) (Jq (Z1U rfl rfl) ?_)));refine JO.callPK (Lr:=_) (Zb (.pointer (some ⟨b,0,none⟩)) (decide (0<ty))) rfl (Z1b _) Z13 qA (fun hbad=>?_) ?_
 · exact JX.pnI (by unfold colP;rw[hz1];simp only[Option.bind_some];rw[(ZaE hI qM).1 (of_decide_eq_false hbad)];rfl)
 intro _ hmo;refine vD ?_;have hty:=(ZaE hI qM).2 (of_decide_eq_true hmo);refine vP [0,2,3] ?_;refine Jm rfl (JO.callK (Lr:=[_,_]) (Za T hc b (us) ((show us<:+T.ts from hus)) Z2l) rfl (.swap _ _ _) qF qA ?_);intro _ _;refine vD ?_;refine vS [0,2,3,34] ?_;refine yC rfl (fun ht34=>?_) (fun ht34=>?_);have hnt:isT 1 Z2l us=true:=ht34;rw[ZU hnt];refine vQ ?_;refine Jm rfl ?_;refine JO.callPK (Lr:=[_,_]) (Zg T hc b (us.tail) (Zl hus) Z4B (by decide+kernel) (by decide+kernel) (asc (by decide+kernel))) rfl (.refl _) qF qA (fun hbad=>?_) ?_
 · exact JX.pnI (by unfold colP;rw[hz1];simp only[Option.bind_some];rw[hty];simp only[Option.bind_some];rw[if_pos hnt];rw[hbad];rfl)
 intro z2 hz2;refine vD ?_;refine vP [0,2,3] ?_;refine Jq (Z0 Z3m rfl) (JO.m (Zc (cs':=[_,_,_,_]) rfl rfl qU rfl rfl rfl rfl Z2S) (by rfl) ?_);refine vS [0,2,3] ?_
 first|(have hnt:isT 1 Z2l us=false:=ht34;rw[Z17 hnt];have husx:us<:+T.ts:=hus)|(have husx:z2.2<:+T.ts:=(Z9 _ _ _ _ hz2).1.trans (Zl hus))
 refine vQ ?_;refine Jm rfl (JO.callK (Lr:=[_,_]) (Za T hc b _ husx Z2M) rfl (.refl _) qF qA ?_);intro _ _;refine vD ?_;refine vS [0,2,3,39] ?_;refine yC rfl (fun ht39=>?_) (fun ht39=>?_);have hpr:isT 1 Z2M _=true:=ht39;rw[ZU hpr];refine vQ ?_;refine Jm rfl ?_;refine JO.callPK (Lr:=[_,_]) (Zg T hc b _ (Zl husx) ZaO (by decide+kernel) (by decide+kernel) (asc (by decide+kernel))) rfl (.refl _) qF qA (fun hbad=>?_) ?_
 · exact JX.pnI (by first|(unfold colP;rw[hz1];simp only[Option.bind_some];rw[hty];simp only[Option.bind_some];rw[if_pos hnt];rw[hz2];simp only[Option.bind_some];unfold colEnd;rw[if_pos hpr,hbad];rfl)|(unfold colP;rw[hz1];simp only[Option.bind_some];rw[hty];simp only[Option.bind_some];rw[if_neg (by rw[hnt];decide)];unfold colEnd;rw[if_pos hpr,hbad];rfl))
 intro z3 hz3;refine vD ?_;refine vP [2,3] ?_;refine Jq (Z0 Z3m rfl) (JO.m (Zc (cs':=[_,_,_,_]) rfl rfl qU rfl rfl rfl rfl Z2S) (by rfl) ?_);refine Jq (Z0 Z2A rfl) (JO.m (Zc (cs':=[_,_,_,_]) rfl rfl qU rfl rfl rfl rfl Z2S) (by rfl) ?_);refine vP [2,3] ?_;refine Jq (Z18 (cs:=[_,_,_,_]) Z1u rfl rfl rfl) (JO.m (Z2 rfl rfl qU qC qO Z2v) (by rfl) ?_);refine vS [2] ?_;refine vR ?_;refine JX.toP ?_;exact JX.retLCs (Lr:=[_,_]) rfl (⟨z1.1,ty,true,true⟩,z3.2) (by unfold colP;rw[hz1];simp only[Option.bind_some];rw[hty];simp only[Option.bind_some];rw[if_pos hnt];rw[hz2];simp only[Option.bind_some];unfold colEnd;rw[if_pos hpr,hz3];rfl) (.refl _) rfl rfl hb0 rfl Z1u HasOwn.mem (Z11 rfl) Sub.coT;apply yK
 repeat first|apply yX|apply yB
 have hpr:isT 1 Z2M _=false:=ht39;rw[Z17 hpr];refine vQ ?_;refine Jm rfl (JO.callK (Lr:=[_,_]) (Za T hc b _ husx Z2G) rfl (.refl _) qF qA ?_);intro _ _;refine vD ?_;refine Jq (Z0 Z2A rfl) (JO.m (Zc (cs':=[_,_,_,_]) rfl rfl qU rfl rfl rfl rfl Z2S) (by rfl) ?_);refine vP [2,3] ?_;refine Jq (Z18 (cs:=[_,_,_,_]) Z1u rfl rfl rfl) (JO.m (Z2 rfl rfl qU qC qO Z2v) (by rfl) ?_);refine vS [2] ?_;refine vR ?_;refine JX.toP ?_;exact JX.retLCs (Lr:=[_,_]) rfl (⟨z1.1,ty,true,isT 1 Z2G z2.2⟩,skT 1 Z2G z2.2) (by unfold colP;rw[hz1];simp only[Option.bind_some];rw[hty];simp only[Option.bind_some];rw[if_pos hnt];rw[hz2];simp only[Option.bind_some];unfold colEnd;rw[if_neg (by rw[hpr];decide)]) (.refl _) rfl rfl hb0 rfl Z1u HasOwn.mem (Z11 rfl) Sub.coT;apply yK
 repeat first|apply yX|apply yB
 first|(have hnt:isT 1 Z2l us=false:=ht34;rw[Z17 hnt];have husx:us<:+T.ts:=hus)|(have husx:z2.2<:+T.ts:=(Z9 _ _ _ _ hz2).1.trans (Zl hus))
 refine vQ ?_;refine Jm rfl (JO.callK (Lr:=[_,_]) (Za T hc b _ husx Z2M) rfl (.refl _) qF qA ?_);intro _ _;refine vD ?_;refine vS [0,2,3,39] ?_;refine yC rfl (fun ht39=>?_) (fun ht39=>?_);have hpr:isT 1 Z2M _=true:=ht39;rw[ZU hpr];refine vQ ?_;refine Jm rfl ?_;refine JO.callPK (Lr:=[_,_]) (Zg T hc b _ (Zl husx) ZaO (by decide+kernel) (by decide+kernel) (asc (by decide+kernel))) rfl (.refl _) qF qA (fun hbad=>?_) ?_
 · exact JX.pnI (by first|(unfold colP;rw[hz1];simp only[Option.bind_some];rw[hty];simp only[Option.bind_some];rw[if_pos hnt];rw[hz2];simp only[Option.bind_some];unfold colEnd;rw[if_pos hpr,hbad];rfl)|(unfold colP;rw[hz1];simp only[Option.bind_some];rw[hty];simp only[Option.bind_some];rw[if_neg (by rw[hnt];decide)];unfold colEnd;rw[if_pos hpr,hbad];rfl))
 intro z3 hz3;refine vD ?_;refine vP [2,3] ?_;refine Jq (Z0 Z3m rfl) (JO.m (Zc (cs':=[_,_,_,_]) rfl rfl qU rfl rfl rfl rfl Z2S) (by rfl) ?_);refine Jq (Z0 Z2A rfl) (JO.m (Zc (cs':=[_,_,_,_]) rfl rfl qU rfl rfl rfl rfl Z2S) (by rfl) ?_);refine vP [2,3] ?_;refine Jq (Z18 (cs:=[_,_,_,_]) Z1u rfl rfl rfl) (JO.m (Z2 rfl rfl qU qC qO Z2v) (by rfl) ?_);refine vS [2] ?_;refine vR ?_;refine JX.toP ?_;exact JX.retLCs (Lr:=[_,_]) rfl (⟨z1.1,ty,true,true⟩,z3.2) (by unfold colP;rw[hz1];simp only[Option.bind_some];rw[hty];simp only[Option.bind_some];rw[if_neg (by rw[hnt];decide)];unfold colEnd;rw[if_pos hpr,hz3];rfl) (.refl _) rfl rfl hb0 rfl Z1u HasOwn.mem (Z11 rfl) Sub.coT;apply yK
 repeat first|apply yX|apply yB
 have hpr:isT 1 Z2M _=false:=ht39;rw[Z17 hpr];refine vQ ?_;refine Jm rfl (JO.callK (Lr:=[_,_]) (Za T hc b _ husx Z2G) rfl (.refl _) qF qA ?_);intro _ _;refine vD ?_;refine Jq (Z0 Z2A rfl) (JO.m (Zc (cs':=[_,_,_,_]) rfl rfl qU rfl rfl rfl rfl Z2S) (by rfl) ?_);refine vP [2,3] ?_;refine Jq (Z18 (cs:=[_,_,_,_]) Z1u rfl rfl rfl) (JO.m (Z2 rfl rfl qU qC qO Z2v) (by rfl) ?_);refine vS [2] ?_;refine vR ?_;refine JX.toP ?_;exact JX.retLCs (Lr:=[_,_]) rfl (⟨z1.1,ty,false,isT 1 Z2G us⟩,skT 1 Z2G us) (by unfold colP;rw[hz1];simp only[Option.bind_some];rw[hty];simp only[Option.bind_some];rw[if_neg (by rw[hnt];decide)];unfold colEnd;rw[if_neg (by rw[hpr];decide)]) (.refl _) rfl rfl hb0 rfl Z1u HasOwn.mem (Z11 rfl) Sub.coT
attribute [local irreducible] SlE ExsR
def PlF(k:Int)(v:Value)(w:World):Prop:=∃bx,v= .func (.func ZZ) #[] #[.pointer (some ⟨bx,0,none⟩)]/\HeapIs bx [.int .i64 k] Z3V w
theorem Sub.plF{L:List Own}{Φ:List (World->Prop)}{k:Int}{bx:Nat}(hF:HeapIs bx [.int .i64 k] Z3V∈Φ):Sub L Φ (.is (.func (.func ZZ) #[] #[.pointer (some ⟨bx,0,none⟩)])) (.rep (PlF k)):=fun X v w hf e=>by
 rw[show v=_ from e];exact fun w' hk=>⟨bx,rfl,hf.2 _ hF w' hk⟩
theorem Z5F(N:Nat)(T:Tk)(hc:T.ts.length<=T.cap)(h9:T.ts.length<=2049)(b:Nat)(ts:List T3)(hts:ts<:+T.ts)(e:Ps Ex)(hex: ∀us,us<:+T.ts->us.length<=ts.length->CallP Tryd.prog Zn [PB T b (us)] [T.G,AF] [.is (.pointer (some ⟨b,0,none⟩))] (e (us)=none) flt (fun z:Ex×List T3=>e (us)=some z) (fun z=>[PB T b z.2]) (fun z=>.rep (ExR z.1))):CallP Tryd.prog Z3d [PB T b ts] [T.G,AF,NH N] [.is (.pointer (some ⟨b,0,none⟩))] (itemP e ts=none) flt (fun z:Pz.Itm×List T3=>itemP e ts=some z) (fun z=>[PB T b z.2]) (fun z=>.rep (itE.T z.1)):=
CallP.of (fn:=Tryd.f41) Tryd.func41 (n:=9) rfl rfl rfl (fun _ _=>by kernel_rfl) fun E W hb0=>by
 refine vQ ?_;refine JO.alloc Z7r rfl fun b2=>(vP [0,2] ?_);refine Jm rfl (JO.callK (Lr:=[_]) (Zh T hc b (ts) (hts) Z25) rfl (List.perm_append_comm (l₁:=[_]) (l₂:=[_])) qF qA ?_);intro _ _;refine vD ?_;refine vS [0,2,4] ?_;refine yC rfl (fun ht4=>?_) (fun ht4=>?_);have hs:isT 5 Z25 ts=true:=ht4;rw[ZU hs];refine vQ ?_;refine Jq (Zo (cs:=[_,_,_,_,_,_,_,_,_]) Z7i (.cons rfl .nil) rfl rfl) (JO.m (Z2 rfl rfl qU qC qO Z5n) (by rfl) ?_);refine vS [2] ?_;refine vR ?_;refine JX.toP ?_;exact JX.retLCs (Lr:=[_]) rfl (⟨true,ex0⟩,ts.tail) (by unfold itemP;rw[if_pos hs]) (.refl _) rfl rfl hb0 rfl Z5g HasOwn.mem (Z11 rfl) Sub.itAll;apply yK
 repeat first|apply yX|apply yB
 have hs:isT 5 Z25 ts=false:=ht4;rw[Z17 hs];refine vQ ?_;refine Jm rfl ?_;refine JO.callPK (Lr:=[_]) (hex ts hts (Nat.le_refl _)) rfl (.refl _) qF qA (fun hbad=>?_) ?_
 · exact JX.pnI (by unfold itemP;rw[if_neg (by rw[hs];decide),hbad];rfl)
 intro z hz;refine vD ?_;refine JO.openA (s:=7) rfl (fun a7 l7 q7 b7_ o7_ _ _=>?_);refine Jq (Zo (cs:=[_,_,_,_,_,_,_,_,_]) Z7i (.cons rfl .nil) rfl rfl) (JO.m (Z2 rfl rfl qU qC qO Z5n) (by rfl) ?_);refine vS [2] ?_;refine vR ?_;refine JX.toP ?_;exact JX.retLCs (Lr:=[_]) rfl (⟨false,z.1⟩,z.2) (by unfold itemP;rw[if_neg (by rw[hs];decide),hz];rfl) (.refl _) rfl rfl hb0 rfl Z5g HasOwn.mem (Z11 rfl) (Sub.itEx qI rfl)
theorem Z6m(N:Nat)(T:Tk)(hc:T.ts.length<=T.cap)(h9:T.ts.length<=2049)(b:Nat)(ts:List T3)(hts:ts<:+T.ts)(e:Ps Ex)(exprDn: ∀{us:List T3} {z:Ex×List T3},e us=some z->z.2<:+us)(hex: ∀us,us<:+T.ts->us.length<=ts.length->CallP Tryd.prog Zn [PB T b (us)] [T.G,AF] [.is (.pointer (some ⟨b,0,none⟩))] (e (us)=none) flt (fun z:Ex×List T3=>e (us)=some z) (fun z=>[PB T b z.2]) (fun z=>.rep (ExR z.1))):CallP Tryd.prog Z3n [PB T b ts] [T.G,AF,NH N] [.is (.pointer (some ⟨b,0,none⟩))] (keyP e ts=none) flt (fun z:Pz.Ky×List T3=>keyP e ts=some z) (fun z=>[PB T b z.2]) (fun z=>.rep (kyE.T z.1)):=
CallP.of (fn:=Tryd.f46) Tryd.func46 (n:=14) rfl rfl rfl (fun _ _=>by kernel_rfl) fun E W hb0=>by
 refine vQ ?_;refine JO.alloc Z65 rfl fun b2=>(vP [0,2] ?_);refine Jm rfl ?_;refine JO.callPK (Lr:=[_]) (hex ts hts (Nat.le_refl _)) rfl (List.perm_append_comm (l₁:=[_]) (l₂:=[_])) qF qA (fun hbad=>?_) ?_
 · exact JX.pnI (by unfold keyP;rw[hbad];rfl)
 intro z hz;refine vD ?_;refine JO.openA (s:=5) rfl (fun a5 l5 q5 b5_ o5_ _ _=>?_);refine Jq (Zo (cs:=[_,_,_,_,_,_,_,_,_]) ZaR (.cons rfl .nil) rfl rfl) (JO.alloc Z65 rfl fun b3=>(JO.m (Z2 rfl rfl qU qC qO Z4f) (by rfl) ?_));refine vP [0,2,3] ?_;refine Jm rfl (JO.callK (Lr:=[_,_]) (Za T hc b (z.2) (((exprDn hz).trans hts)) Z7V) rfl (.swap _ _ _) qF qA ?_);intro _ _;refine vD ?_;refine Jq (Z5r rfl) (vS [0,2,3,9] ?_);refine yC rfl (fun ht9=>?_) (fun ht9=>?_);have ha:isT 1 Z7V z.2=false:=by simpa using ht9
 rw[Z17 ha];refine vQ ?_;refine Jm rfl (JO.callK (Lr:=[_,_]) (Za T hc b (z.2) (((exprDn hz).trans hts)) Z6J) rfl (.refl _) qF qA ?_);intro _ _;refine vD ?_;refine Jq (Z0 Z9a rfl) (JO.m (Zc (cs':=[_,_,_,_,_,_,_,_,_]) rfl rfl qU rfl rfl rfl rfl Z2S) (by rfl) ?_);refine vS [2,3] ?_
 first|(have ha:isT 1 Z7V z.2=true:=(by simpa using ht9);rw[ZU ha])|skip
 refine vQ ?_;refine Jq (Z18 (cs:=[_,_,_,_,_,_,_,_,_]) Z3u rfl rfl rfl) (JO.m (Z2 rfl rfl qU qC qO Z4f) (by rfl) ?_);refine vS [2] ?_;refine vR ?_;refine JX.toP ?_;exact JX.retLCs (Lr:=[_,_]) rfl (⟨z.1,isT 1 Z6J z.2⟩,skT 1 Z6J z.2) (by unfold keyP;rw[hz,Option.map_some,if_neg (by rw[ha];decide)]) (.refl _) rfl rfl hb0 rfl Z3u HasOwn.mem (Z11 rfl) (Sub.kyEx qI rfl);apply yK
 repeat first|apply yX|apply yB
 first|(have ha:isT 1 Z7V z.2=true:=(by simpa using ht9);rw[ZU ha])|skip
 refine vQ ?_;refine Jq (Z18 (cs:=[_,_,_,_,_,_,_,_,_]) Z3u rfl rfl rfl) (JO.m (Z2 rfl rfl qU qC qO Z4f) (by rfl) ?_);refine vS [2] ?_;refine vR ?_;refine JX.toP ?_;exact JX.retLCs (Lr:=[_,_]) rfl (⟨z.1,false⟩,z.2.tail) (by unfold keyP;rw[hz,Option.map_some,if_pos ha]) (.refl _) rfl rfl hb0 rfl Z3u HasOwn.mem (Z11 rfl) (Sub.kyEx qI rfl)
theorem Z1T(N:Nat)(T:Tk)(hc:T.ts.length<=T.cap)(h9:T.ts.length<=2049)(b:Nat)(ts:List T3)(hts:ts<:+T.ts)(e:Ps Ex)(hex: ∀us,us<:+T.ts->us.length<=ts.length->CallP Tryd.prog Zn [PB T b (us)] [T.G,AF] [.is (.pointer (some ⟨b,0,none⟩))] (e (us)=none) flt (fun z:Ex×List T3=>e (us)=some z) (fun z=>[PB T b z.2]) (fun z=>.rep (ExR z.1))):CallP Tryd.prog Z5f [PB T b ts] [T.G,AF,NH N] [.is (.pointer (some ⟨b,0,none⟩))] (whereP e ts=none) flt (fun z:List Ex×List T3=>whereP e ts=some z) (fun z=>[PB T b z.2]) (fun z=>.rep (SlE exE (FX N) z.1)):=
CallP.ofN (N:=N) (List.mem_cons_of_mem _ (List.mem_cons_of_mem _ List.mem_cons_self)) (fn:=Tryd.f43) Tryd.func43 (n:=9) rfl rfl rfl (fun _ _=>by kernel_rfl) fun E W hNW hb0=>by
 refine vQ ?_;refine Ja rfl (vP [0] ?_);refine Jm rfl (JO.callK (Lr:=[]) (Za T hc b (ts) (hts) Z71) rfl (.refl _) qF qA ?_);intro _ _;refine vD ?_;refine Jq (Z5r rfl) (vS [0,5] ?_);refine yC rfl (fun ht5=>?_) (fun ht5=>?_);have hw:isT 1 Z71 ts=false:=by simpa using ht5
 rw[Z17 hw];refine vQ ?_;refine Ja rfl (vS [2] ?_);refine vR ?_;refine JX.toP ?_;exact JX.retL1 (Lr:=[]) rfl ([],ts) (by unfold whereP;rw[if_neg (by rw[hw];decide)]) (.refl _) rfl rfl hb0 rfl (Sub.slENil fun _=>FrS.nil _);apply yK
 repeat first|apply yX|apply yB
 have hw:isT 1 Z71 ts=true:=by simpa using ht5
 rw[ZU hw];refine vQ ?_;refine Jm rfl ?_;refine JO.callPK (Lr:=[]) (hex ts.tail (Zl hts) (by have:=(Zt hw).2;omega)) rfl (.refl _) qF qA (fun hbad=>?_) ?_
 · exact JX.pnI (by unfold whereP;rw[if_pos hw,hbad];rfl)
 intro z hz;refine vD ?_;rw[Z75];refine JO.openT (s:=7) rfl (fun p1 hp1=>?_);refine JO.buildE Z4C ZK rfl qD rfl rfl (fun b8=>?_);refine Ja rfl (vS [2] ?_);refine J.freezeOMW (e:=Z4) (sz:=8) hNW Cel.hlen (growE p1) .here (fun q hq=>by simp only[List.map_cons,List.map_nil,List.mem_singleton]at hq;exact⟨_,List.mem_cons_self,hq.symm⟩) rfl rfl ?_;refine J.fact (CelF exE [p1]) (fun X w hf _=>fun w' hk p hp=>by rw[List.mem_singleton.1 hp];exact hf _ qI w' hk) ?_;refine vR ?_;refine JX.toP ?_;exact JX.retL1 (Lr:=[]) rfl ([p1].map Cel.x,z.2) (by unfold whereP;rw[if_pos hw,hz,List.map_singleton,hp1];rfl) (.refl _) rfl rfl hb0 rfl (Sub.slEO (growE p1) qI qI qI)
theorem Z4R(N:Nat)(T:Tk)(hc:T.ts.length<=T.cap)(h9:T.ts.length<=2049)(b:Nat)(ts:List T3)(hts:ts<:+T.ts)(e:Ps Ex)(hex: ∀us,us<:+T.ts->us.length<=ts.length->CallP Tryd.prog Zn [PB T b (us)] [T.G,AF] [.is (.pointer (some ⟨b,0,none⟩))] (e (us)=none) flt (fun z:Ex×List T3=>e (us)=some z) (fun z=>[PB T b z.2]) (fun z=>.rep (ExR z.1))):CallP Tryd.prog Z1W [PB T b ts] [T.G,AF,NH N] [.is (.pointer (some ⟨b,0,none⟩))] (removeP e ts=none) flt (fun z:Pz.St×List T3=>removeP e ts=some z) (fun z=>[PB T b z.2]) (fun z=>.rep (StR N z.1)):=
CallP.of (fn:=Tryd.f18) Tryd.func18 (n:=10) rfl rfl rfl (fun _ _=>by kernel_rfl) fun E W hb0=>by
 refine vQ ?_;refine JO.alloc ZE rfl fun b2=>(vP [0,2] ?_);refine Jm rfl ?_;refine JO.callPK (Lr:=[_]) (Zg T hc b (ts) (hts) Z6P (by decide+kernel) (by decide+kernel) (asc (by decide+kernel))) rfl (List.perm_append_comm (l₁:=[_]) (l₂:=[_])) qF qA (fun hbad=>?_) ?_
 · exact JX.pnI (by unfold removeP;rw[hbad];rfl)
 intro z0 hz0;have h0:Lt z0.2 ts:=Z9 _ _ _ _ hz0;refine vD ?_;refine vP [0,2] ?_;refine Jm rfl ?_;refine JO.callPK (Lr:=[_]) (Zr T hc b z0.2 (h0.1.trans hts)) rfl (.refl _) qF qA (fun hbad=>?_) ?_
 · exact JX.pnI (by unfold removeP;rw[hz0,Option.bind_some,hbad];rfl)
 intro z1 hz1;have h1:Lt z1.2 ts:=Lt.trans (Zw _ _ hz1) h0.1;refine vD ?_;refine Jm rfl ?_;refine JO.callPK (Lr:=[_]) (Z1T N T hc h9 b z1.2 (h1.1.trans hts) e (fun us hus hu=>hex us hus (by have:=h1.2;omega))) rfl (.refl _) qF qA (fun hbad=>?_) ?_
 · exact JX.pnI (by unfold removeP;rw[hz0,Option.bind_some,hz1,Option.bind_some,hbad];rfl)
 intro z2 hz2;refine vD ?_;refine JO.openEv (s:=8) rfl (fun aw lw cw _ _=>?_);refine Jq (Zo (cs:=[_,_,_,_,_,_,_,_,_,_,_,_,_,_]) Z1y (.cons rfl (.cons rfl (.cons rfl (.cons rfl .nil)))) rfl rfl) (JO.m (Z2 rfl rfl qU qC qO Zk) (by rfl) ?_);refine vS [2] ?_;refine vR ?_;refine JX.toP ?_;exact JX.retLCs (Lr:=[_]) rfl ({stK 6 with tb:=z1.1,where_:=z2.1},z2.2) (by unfold removeP;rw[hz0,Option.bind_some,hz1,Option.bind_some,hz2];rfl) (.refl _) rfl rfl hb0 rfl Zm HasOwn.mem (Z11 rfl) (Sub.st rfl fun X w hf w' hk=>⟨Ze (FrS.nil _),Ze (FrS.nil _),Ze trivial,Ze trivial,Ze trivial,hf _ qI w' hk,Z1e,Ze trivial,Z1e⟩)
theorem Z3s(N:Nat)(T:Tk)(hc:T.ts.length<=T.cap)(h9:T.ts.length<=2049)(b:Nat)(ts:List T3)(hts:ts<:+T.ts)(bx:Nat)(k:Int):CallP Tryd.prog ZZ [PB T b ts] [T.G,AF,NH N,HeapIs bx [.int .i64 k] Z3V] ([.is (.pointer (some ⟨b,0,none⟩))]++[Value.pointer (some ⟨bx,0,none⟩)].map Ty.is) False flt (fun z:Pz.St×List T3=>z=(stK k,ts)) (fun z=>[PB T b z.2]) (fun z=>.rep (StR N z.1)):=
CallP.of (fn:=Tryd.f49) Tryd.func49 (n:=6) rfl rfl rfl (fun _ _=>by kernel_rfl) fun E W hb0=>by
 refine vQ ?_;refine JO.alloc ZE rfl fun b3=>(vP [1,3] ?_);refine Jq (Z5O (cs:=[Value.int .i64 k]) (u:=.int .i64 k) Zy rfl qI rfl) ?_;refine Jq (Zo (cs:=[_,_,_,_,_,_,_,_,_,_,_,_,_,_]) Z1y (.cons rfl (.cons rfl .nil)) rfl rfl) (JO.m (Z2 rfl rfl qU qC qO Zk) (by rfl) ?_);refine vS [3] ?_;refine vR ?_;refine JX.toP ?_;exact JX.retLCs (Lr:=[_]) rfl (stK k,ts) (by rfl) (List.perm_append_comm (l₁:=[_]) (l₂:=[_])) rfl rfl hb0 rfl Zm HasOwn.mem (Z11 rfl) (Sub.st rfl fun X w hf w' hk=>⟨Ze (FrS.nil _),Ze (FrS.nil _),Ze trivial,Ze trivial,Ze trivial,Ze (FrS.nil _),Z1e,Ze trivial,Z1e⟩)
theorem Z45(k:Int):CallTy Tryd.prog Z90 [.is (.int .i64 k)] (.rep (PlF k)):=
 CallTy.of (fn:=Tryd.f19) Tryd.func19 (n:=4) rfl rfl rfl (fun _ _=>by kernel_rfl) fun E W=>by
 refine vQ ?_;refine JO.box rfl rfl fun b1=>(Ja rfl (vP [1] ?_));refine Jq (Z28 .nil (.cons rfl .nil)) (Ja rfl (vS [2] ?_));refine J.freeze1 rfl (fun _ h=>h) rfl rfl ?_;refine vR ?_;exact JX.ret1sub rfl rfl rfl (Sub.plF List.mem_cons_self)
end Go.Proofs.YtbedigkncjbggaaDoor
set_option maxRecDepth 20000
namespace Go.Proofs.YtbedigkncjbggaaDoor
open Go Go.Vc
open Go.Pz
def pcE:Enc (ByteArray×Cel exE) where
 sz:=1
 R x cs w:=cs=[.string x.1]/\CelR x.2 w
 v:=hdv
 pos:=by decide
 len:=by rintro x cs w ⟨rfl,_⟩;rfl
 one:=by rintro x cs w ⟨rfl,_⟩ u hu;rw[List.mem_singleton.1 hu];rfl
 nu:=by rintro x cs w ⟨rfl,_⟩;exact⟨_,rfl,by simp[undef]⟩
 inj:=Z8t
theorem ZcF:pcE.flat:=fun p=>Z7G p.h p.o
abbrev pcX(z:ByteArray×Cel exE):ByteArray×Ex:=(z.1,z.2.x)
theorem ZcQ{G:GoS}{xs:List (ByteArray×Cel exE)}{v:Value}{w:World}(h:SlE pcE G xs v w):SlE stE G ((xs.map pcX).map (·.1)) v w:=by
 obtain⟨ps,a,len,cap,hm,hv,hlc,hR,hF,hG⟩:=h
 let f:Cel pcE->Cel stE:=fun p=>⟨p.x.1,p.cs,p.h,p.o⟩
 refine⟨ps.map f,a,len,cap,?_,hv,hlc,⟨by rw[List.length_map];exact hR.1,fun hn=>?_⟩,fun q hq=>?_,hG⟩
 · rw[<-hm,List.map_map,List.map_map,List.map_map];rfl
 · obtain⟨b,o,ha,hr⟩:=hR.2 hn
   refine⟨b,o,ha,fun i q hq=>?_⟩;rw[List.getElem?_map]at hq;obtain⟨p,hp,rfl⟩:=Option.map_eq_some_iff.1 hq;exact hr i p hp
 · obtain⟨p,hp,rfl⟩:=List.mem_map.1 hq
   exact(hF p hp).1
theorem Zd0{G:GoS}{xs:List (ByteArray×Cel exE)}{v:Value}{w:World}(h:SlE pcE G xs v w):CelF exE (xs.map (·.2)) w:=by
 obtain⟨ps,a,len,cap,hm,hv,hlc,hR,hF,hG⟩:=h;intro p hp;rw[<-hm]at hp;obtain⟨x,hx,rfl⟩:=List.mem_map.1 hp;obtain⟨q,hq,rfl⟩:=List.mem_map.1 hx;exact(hF q hq).2
theorem Sub.pcT{L:List Own}{Φ:List (World->Prop)}{n:ByteArray}{p:Cel exE}(hF:CelR p∈Φ):Sub L Φ (.is (.string n)) (.rep (pcE.T (n,p))):=fun X v w hf e=>by
 rw[show v=_ from e];exact fun w' hk=>⟨[.string n],rfl,rfl,hf.2 _ hF w' hk⟩
def p0E:Cel exE:=⟨ex0,exCells 0 0 0 em em em 0 none 0 0,rfl,by
 intro u hu;simp only[exCells,List.mem_cons,List.mem_nil_iff,or_false]at hu;rcases hu with rfl|rfl|rfl|rfl|rfl|rfl|rfl|rfl<;>rfl⟩
abbrev UpS:=List (Cel exE)×Option (Nat×List Value)×Nat
abbrev upX(nm:ByteArray)(b3:Nat)(s:UpS):List Own:=⟨b3,Zs,.is (.agg #[.int .i64 5,.string nm,.string ⟨#[]⟩,.slice none 0 0,.slice none 0 0,.slice none 0 0,.slice none 0 0,.slice none 0 0,.slice none 0 0,.slice none 0 0,.slice none 0 0,.int .i64 (-1),sliceO s.2.1 s.1.length s.2.2,.bool false])⟩::ownO s.2.1 Z4 []
def upI(s:UpS)(l:List (ByteArray×Cel exE)):Prop:=s.1=l.map (·.2)/\Grows Cel.cs 8 s.1 s.2.1 s.2.2
structure UpM where
 z:Option ((Ex×List T3)×Cel exE)
 ap:Option (Nat×List Value×Nat)
 e8:Bool
 e10:Bool
abbrev UpM.p(s:UpM):Cel exE:=match s.z with|none=>p0E|some z=>z.2
def UpM.cur(ps:List (Cel exE))(st:Option (Nat×List Value))(s:UpM):Option (Nat×List Value):=match s.ap with|none=>st|some a=>some (a.1,if s.e8=true then splice a.2.1 (ps.length*8) s.p.cs else a.2.1)
abbrev apV(ps:List (Cel exE)):Option (Nat×List Value×Nat)->Value
 |none=>.slice none 0 0
 |some a=>.slice (some ⟨a.1,0,none⟩) (ps.length+1) a.2.2
def UpM.fld(ps:List (Cel exE))(st:Option (Nat×List Value))(cap:Nat)(s:UpM):Value:=if s.e10=true then apV ps s.ap else sliceO st ps.length cap
abbrev upB(nm:ByteArray)(b3:Nat)(v:Value):Own:=⟨b3,Zs,.is (.agg #[.int .i64 5,.string nm,.string ⟨#[]⟩,.slice none 0 0,.slice none 0 0,.slice none 0 0,.slice none 0 0,.slice none 0 0,.slice none 0 0,.slice none 0 0,.slice none 0 0,.int .i64 (-1),v,.bool false])⟩
def usO(us:List T3):Option ((Ex×List T3)×Cel exE)->List T3
 |none=>us
 |some z=>z.1.2
def UpM.L(T:Tk)(b:Nat)(us:List T3)(nm:ByteArray)(b3:Nat)(ps:List (Cel exE))(st:Option (Nat×List Value))(cap:Nat)(s:UpM):List Own:=PB T b (usO us s.z)::upB nm b3 (s.fld ps st cap)::ownO (s.cur ps st) Z4 []
def UpM.T(b b3:Nat)(ps:List (Cel exE))(st:Option (Nat×List Value))(cap:Nat)(s:UpM):Nat->Ty
 |0=>.is (.pointer (some ⟨b3,12,none⟩))
 |1=>.is (sliceO st ps.length cap)
 |2=>.is (.pointer (some ⟨b,0,none⟩))
 |3=>TC s.p
 |4=>.is (.int .i64 (ps.length:Nat))
 |5=>.newSl (.cells p0E.cs.toArray 39 (0,0)) 1 1
 |6=>.is (apV ps s.ap)
 |7=>match s.ap with|none=>.any|some a=>.is (.pointer (some ⟨a.1,0+((ps.length:Nat):Int).toNat*8,none⟩))
 |9=>.is (.pointer (some ⟨b3,12,none⟩))
 |_=>.any
structure UpM.inv (e:Ps Ex) (us:List T3) (ps:List (Cel exE)) (s:UpM) (D:Array Bool):Prop where
 z:D.getD 3 false=s.z.isSome
 r: ∀z,s.z=some z->e us=some z.1/\z.2.x=z.1.1
 a:D.getD 6 false=s.ap.isSome
 g: ∀a,s.ap=some a->Grows Cel.cs 8 (ps++[p0E]) (some (a.1,a.2.1)) a.2.2
 e8:D.getD 8 false=s.e8
 e10:D.getD 10 false=s.e10
 c6:D.getD 6 false=true->∀j,j<6->D.getD j false=true
 c7:D.getD 7 false=true->D.getD 6 false=true
 c8:D.getD 8 false=true->D.getD 6 false=true
 c10:D.getD 10 false=true->D.getD 6 false=true
theorem UpM.inv.quiet{e:Ps Ex}{us:List T3}{ps:List (Cel exE)}{s:UpM}{D:Array Bool}(h:s.inv e us ps D){i:Nat}(hs:i<D.size)(hi:i≠3/\i≠6/\i≠8/\i≠10)(h7:i=7->D.getD 6 false=true):s.inv e us ps (D.setIfInBounds i true):=by
 obtain⟨h3,h6,h8,h10⟩:=hi;refine⟨by rw[Zu hs (Ne.symm h3)];exact h.z,h.r,by rw[Zu hs (Ne.symm h6)];exact h.a,h.g,by rw[Zu hs (Ne.symm h8)];exact h.e8,by rw[Zu hs (Ne.symm h10)];exact h.e10,fun h1 j hj=>(ZL hs).2 (.inr (h.c6 (by rw[<-Zu hs (Ne.symm h6)];exact h1) j hj)),fun h1=>?_,fun h1=>?_,fun h1=>?_⟩
 · rw[Zu hs (Ne.symm h6)]
   by_cases e7:i=7
   · exact h7 e7
   · exact h.c7 (by rw[<-Zu hs (Ne.symm e7)];exact h1)
 · rw[Zu hs (Ne.symm h6)]
   exact h.c8 (by rw[<-Zu hs (Ne.symm h8)];exact h1)
 · rw[Zu hs (Ne.symm h6)]
   exact h.c10 (by rw[<-Zu hs (Ne.symm h10)];exact h1)
theorem Z52{D:Array Bool}{i j:Nat}(h:D.getD i false=true->D.getD j false=true)(hj:D.getD j false=false):D.getD i false=false:=by
 cases hq:D.getD i false with
 |false=>rfl
 |true=>rw[h hq]at hj;cases hj
theorem UpM.inv.call{e:Ps Ex}{us:List T3}{ps:List (Cel exE)}{s:UpM}{D:Array Bool}(h:s.inv e us ps D)(hs:3<D.size){z:(Ex×List T3)×Cel exE}(hz:e us=some z.1)(hx:z.2.x=z.1.1):UpM.inv e us ps {s with z:=some z} (D.setIfInBounds 3 true):=
 ⟨by rw[(ZL hs).2 (.inl rfl)];rfl,fun y hy=>by injection hy with hy;subst hy;exact⟨hz,hx⟩,by rw[Zu hs qD];exact h.a,h.g,by rw[Zu hs qD];exact h.e8,by rw[Zu hs qD];exact h.e10,
  fun h1 j hj=>(ZL hs).2 (.inr (h.c6 (by rw[<-Zu hs qD];exact h1) j hj)),fun h1=>by rw[Zu hs qD]at h1 ⊢;exact h.c7 h1,fun h1=>by rw[Zu hs qD]at h1 ⊢;exact h.c8 h1,fun h1=>by rw[Zu hs qD]at h1 ⊢;exact h.c10 h1⟩
theorem UpM.inv.app{e:Ps Ex}{us:List T3}{ps:List (Cel exE)}{s:UpM}{D:Array Bool}(h:s.inv e us ps D)(hs:6<D.size)(hall: ∀j,j<6->D.getD j false=true){a:Nat×List Value×Nat}(hG:Grows Cel.cs 8 (ps++[p0E]) (some (a.1,a.2.1)) a.2.2):UpM.inv e us ps {s with ap:=some a} (D.setIfInBounds 6 true):=
 ⟨by rw[Zu hs qD];exact h.z,h.r,by rw[(ZL hs).2 (.inl rfl)];rfl,fun y hy=>by injection hy with hy;subst hy;exact hG,by rw[Zu hs qD];exact h.e8,by rw[Zu hs qD];exact h.e10,
  fun _ j hj=>(ZL hs).2 (.inr (hall j hj)),fun _=>(ZL hs).2 (.inl rfl),fun _=>(ZL hs).2 (.inl rfl),fun _=>(ZL hs).2 (.inl rfl)⟩
theorem UpM.inv.st8{e:Ps Ex}{us:List T3}{ps:List (Cel exE)}{s:UpM}{D:Array Bool}(h:s.inv e us ps D)(hs:8<D.size)(h6:D.getD 6 false=true):UpM.inv e us ps {s with e8:=true} (D.setIfInBounds 8 true):=
 ⟨by rw[Zu hs qD];exact h.z,h.r,by rw[Zu hs qD];exact h.a,h.g,(ZL hs).2 (.inl rfl),by rw[Zu hs qD];exact h.e10,
  fun h1 j hj=>(ZL hs).2 (.inr (h.c6 (by rw[<-Zu hs qD];exact h1) j hj)),fun h1=>by rw[Zu hs qD]at h1 ⊢;exact h.c7 h1,fun _=>by rw[Zu hs qD];exact h6,fun h1=>by rw[Zu hs qD]at h1 ⊢;exact h.c10 h1⟩
theorem UpM.inv.st10{e:Ps Ex}{us:List T3}{ps:List (Cel exE)}{s:UpM}{D:Array Bool}(h:s.inv e us ps D)(hs:10<D.size)(h6:D.getD 6 false=true):UpM.inv e us ps {s with e10:=true} (D.setIfInBounds 10 true):=
 ⟨by rw[Zu hs qD];exact h.z,h.r,by rw[Zu hs qD];exact h.a,h.g,by rw[Zu hs qD];exact h.e8,(ZL hs).2 (.inl rfl),
  fun h1 j hj=>(ZL hs).2 (.inr (h.c6 (by rw[<-Zu hs qD];exact h1) j hj)),fun h1=>by rw[Zu hs qD]at h1 ⊢;exact h.c7 h1,fun h1=>by rw[Zu hs qD]at h1 ⊢;exact h.c8 h1,fun _=>by rw[Zu hs qD];exact h6⟩
theorem UpM.T_same{b b3:Nat}{ps:List (Cel exE)}{st:Option (Nat×List Value)}{cap:Nat}{s s':UpM}{D:Array Bool}(h3:D.getD 3 false=true->s'.p=s.p)(h6:D.getD 6 false=true\/D.getD 7 false=true->s'.ap=s.ap){j:Nat}(hj:D.getD j false=true):s'.T b b3 ps st cap j=s.T b b3 ps st cap j:=by
 match j,hj with
 |3,hj=>show TC s'.p=TC s.p;rw[h3 hj]
 |6,hj=>show Ty.is (apV ps s'.ap)=Ty.is (apV ps s.ap);rw[h6 (.inl hj)]
 |7,hj=>simp only[UpM.T];rw[h6 (.inr hj)]
 |0,_=>rfl
 |1,_=>rfl
 |2,_=>rfl
 |4,_=>rfl
 |5,_=>rfl
 |8,_=>rfl
 |9,_=>rfl
 |j+10,_=>rfl
theorem pickEx{P:Program}{L:List Own}{Φ:List (World->Prop)}{H:Know}{o:Oper}{Bad:Prop}{ch:List PanicEntry}{G:Type}{f:G->Ex}{Lg:G->List Own}(h:BigObP P L Φ H o Bad ch (fun g=>.rep (ExR (f g))) Lg):BigObP P L Φ H o Bad ch (G:={q:G×Cel exE // q.2.x=f q.1}) (fun q=>TC q.1.2) (fun q=>Lg q.1.1):=by
 simp only[Z75]at h;exact h.pick
attribute [local irreducible] SlE ExsR
theorem Z4b(N:Nat)(T:Tk)(hc:T.ts.length<=T.cap)(h9:T.ts.length<=2049)(b:Nat)(ts:List T3)(hts:ts<:+T.ts)(e:Ps Ex)(hex: ∀us,us<:+T.ts->us.length<=ts.length->CallP Tryd.prog Zn [PB T b (us)] [T.G,AF] [.is (.pointer (some ⟨b,0,none⟩))] (e (us)=none) flt (fun z:Ex×List T3=>e (us)=some z) (fun z=>[PB T b z.2]) (fun z=>.rep (ExR z.1)))(nm:ByteArray)(b3:Nat)(s:UpS)(l:List (ByteArray×Cel exE))(hI:upI s l)(hl:l.length+ts.length<=4096):CallP Tryd.prog Z2B (PB T b ts::upX nm b3 s) [T.G,AF,NH N] ([.is (.pointer (some ⟨b,0,none⟩))]++[Value.pointer (some ⟨b3,0,none⟩)].map Ty.is) (setP e ts=none) flt (fun z:(ByteArray×Cel exE)×List T3×UpS=>setP e ts=some (pcX z.1,z.2.1)/\upI z.2.2 (l++[z.1])) (fun z=>PB T b z.2.1::upX nm b3 z.2.2) (fun z=>.rep (pcE.T z.1)):=
CallP.of (fn:=Tryd.f48) Tryd.func48 (n:=21) rfl rfl rfl (fun _ _=>by kernel_rfl) fun E W hb0=>by
 obtain⟨ps,st,cap⟩:=s;obtain⟨hps,hG⟩:=hI;dsimp only at hps hG;have hpl:ps.length=l.length:=by rw[hps,List.length_map]
 refine vQ ?_;refine Ja rfl (vP [0,1] ?_);refine Jm rfl ?_;refine JO.callPK (Lr:=⟨b3,Zs,.is (.agg #[.int .i64 5,.string nm,.string ⟨#[]⟩,.slice none 0 0,.slice none 0 0,.slice none 0 0,.slice none 0 0,.slice none 0 0,.slice none 0 0,.slice none 0 0,.slice none 0 0,.int .i64 (-1),sliceO st ps.length cap,.bool false])⟩::ownO st Z4 []) (Zr T hc b ts hts) rfl (.refl _) qF qA (fun hbad=>?_) ?_
 · exact JX.pnI (by unfold setP;rw[hbad];rfl)
 intro z1 hz1;have h1:Lt z1.2 ts:=Zw _ _ hz1;refine vD ?_;refine Ja rfl (vP [0,1,4] ?_);refine Jm rfl (Jm rfl (JO.callK (Lr:=⟨b3,Zs,.is (.agg #[.int .i64 5,.string nm,.string ⟨#[]⟩,.slice none 0 0,.slice none 0 0,.slice none 0 0,.slice none 0 0,.slice none 0 0,.slice none 0 0,.slice none 0 0,.slice none 0 0,.int .i64 (-1),sliceO st ps.length cap,.bool false])⟩::ownO st Z4 []) (Zh T hc b (z1.2) ((show z1.2<:+T.ts from(Zw _ _ hz1).1.trans hts)) s_eq) rfl (.refl _) qF qA ?_));intro _ _;refine vD ?_;refine JO.callPK (Lr:=_) (Zb (.pointer (some ⟨b,0,none⟩)) (isT 5 s_eq z1.2)) rfl (Z1b _) Z13 qA (fun hbad=>?_) ?_
 · exact JX.pnI (by unfold setP;rw[hz1,Option.bind_some,wantN hbad];rfl)
 intro _ heq;refine vD ?_;refine vS [0,1,4] ?_;rw[ZU heq];have hlt:=(Zt heq).2
 repeat apply yQ
 refine J.regMach (Bad:=e z1.2.tail=none) (ch:=flt) 11 (UpM.L T b z1.2.tail nm b3 ps st cap) (UpM.T b b3 ps st cap) (UpM.inv e z1.2.tail ps) (fun i=>i==3||i==6||i==8||i==10) ⟨none,none,false,false⟩ rfl ?_ (fun hbad=>?_) hmx qK rfl qK ?_ ?_ ?_
 · exact⟨rfl,(fun z h=>by cases h),rfl,(fun z h=>by cases h),rfl,rfl,(fun h=>by cases h),(fun h=>by cases h),(fun h=>by cases h),(fun h=>by cases h)⟩
 · exact JX.pnI (by unfold setP;rw[hz1,Option.bind_some,wantY heq,Option.bind_some,hbad];rfl)
 · intro s D i o hs hinv hA hbg hd hr
   match i,hA,hbg,hd,hr with
   |0,hA,_,hd,hr=>
     obtain rfl:=Option.some.inj hA;exact⟨hinv.quiet qM qD (fun h=>by cases h),rfl,(Z0 Z3N rfl)⟩
   |1,hA,_,hd,hr=>
     obtain rfl:=Option.some.inj hA;have h6:D.getD 6 false=false:=Z52 (fun h=>hinv.c6 h 1 qD) hd;have h10:s.e10=false:=by rw[<-hinv.e10];exact Z52 hinv.c10 h6
     refine⟨hinv.quiet qM qD (fun h=>by cases h),rfl,?_⟩;have hL:upB nm b3 (sliceO st ps.length cap)∈s.L T b z1.2.tail nm b3 ps st cap:=by
       refine List.mem_cons_of_mem _ (List.mem_cons.2 (.inl ?_));unfold UpM.fld;rw[h10];rfl
     haveI:HasOwn (s.L T b z1.2.tail nm b3 ps st cap) b3 Zs (upB nm b3 (sliceO st ps.length cap)).T:=⟨hL⟩
     exact Z5 (V:=.agg #[.int .i64 5,.string nm,.string ⟨#[]⟩,.slice none 0 0,.slice none 0 0,.slice none 0 0,.slice none 0 0,.slice none 0 0,.slice none 0 0,.slice none 0 0,.slice none 0 0,.int .i64 (-1),sliceO st ps.length cap,.bool false]) ZW rfl rfl
   |2,hA,_,hd,hr=>
     obtain rfl:=Option.some.inj hA;exact⟨hinv.quiet qM qD (fun h=>by cases h),rfl,(Z1 rfl)⟩
   |3,_,hbg,_,_=>exact absurd hbg qD
   |4,hA,_,hd,hr=>
     obtain rfl:=Option.some.inj hA;exact⟨hinv.quiet qM qD (fun h=>by cases h),rfl,(Z9q hG ZY rfl)⟩
   |5,hA,_,hd,hr=>
     obtain rfl:=Option.some.inj hA;exact⟨hinv.quiet qM qD (fun h=>by cases h),rfl,((show Ob _ _ _ _ _ (.newSl (.cells p0E.cs.toArray 39 (0,0)) 1 1)from ZD (cs:=p0E.cs) ZK qM qM (.cons rfl .nil) rfl rfl rfl))⟩
   |6,_,hbg,_,_=>exact absurd hbg qD
   |7,hA,_,hd,hr=>
     obtain rfl:=Option.some.inj hA;have h6:=hr _ rfl ⟨6,.data⟩ (by simp) rfl;refine⟨hinv.quiet qM qD (fun _=>h6),rfl,?_⟩;obtain⟨zo,ap,e8,e10⟩:=s;have ha:=hinv.a;rw[h6]at ha;cases ap with
     |none=>cases ha
     |some a=>exact Zq Z2R rfl rfl rfl qM qM
   |8,_,hbg,_,_=>exact absurd hbg qD
   |9,hA,_,hd,hr=>
     obtain rfl:=Option.some.inj hA;exact⟨hinv.quiet qM qD (fun h=>by cases h),rfl,(Z0 Z3N rfl)⟩
   |10,_,hbg,_,_=>exact absurd hbg qD
   |i+11,hA,_,hd,hr=>simp at hA
 · intro s D i o hs hinv hA hbg hd hr
   match i,hA,hbg,hd,hr with
   |0,_,hbg,_,_=>exact absurd hbg qD
   |1,_,hbg,_,_=>exact absurd hbg qD
   |2,_,hbg,_,_=>exact absurd hbg qD
   |3,hA,_,hd,hr=>
     obtain rfl:=Option.some.inj hA;obtain⟨zo,ap,e8,e10⟩:=s;have h6:D.getD 6 false=false:=Z52 (fun h=>hinv.c6 h 3 qD) hd;have h7:=Z52 hinv.c7 h6;have h8:=Z52 hinv.c8 h6;have hap:ap=none:=by
       have ha:=hinv.a;rw[h6]at ha;cases ap with
       |none=>rfl
       |some a=>cases ha
     subst hap;have hzo:zo=none:=by
       have:=hinv.z;rw[hd]at this;cases zo with
       |none=>rfl
       |some r=>cases this
     subst hzo;refine⟨rfl,.inr (BigObP.to (G:={q:{z:Ex×List T3 // e z1.2.tail=some z}×Cel exE // q.2.x=q.1.1.1}) (Tg:=fun q=>TC q.1.2) (Lg:=fun q=>[PB T b q.1.1.1.2]++(upB nm b3 (UpM.fld ps st cap ⟨none,none,e8,e10⟩)::ownO st Z4 [])) ?_ (fun q=>⟨⟨some (q.1.1.1,q.1.2),none,e8,e10⟩,hinv.call qM q.1.1.2 q.2,fun j hj=>UpM.T_same (s:=⟨none,none,e8,e10⟩) (s':=⟨some (q.1.1.1,q.1.2),none,e8,e10⟩) (fun h=>absurd h (by rw[hd];decide)) (fun h=>rfl) hj⟩) (fun _=>rfl) (fun _=>.refl _))⟩;exact pickEx (f:=fun g:{z:Ex×List T3 // e z1.2.tail=some z}=>g.1.1) (Z3W rfl (hex z1.2.tail (Zl (show z1.2<:+T.ts from(Zw _ _ hz1).1.trans hts)) (by have:=h1.2;have:=(Zt heq).2;omega)) (.refl _) qF qA)
   |4,_,hbg,_,_=>exact absurd hbg qD
   |5,_,hbg,_,_=>exact absurd hbg qD
   |6,hA,_,hd,hr=>
     obtain rfl:=Option.some.inj hA;have hall: ∀j,j<6->D.getD j false=true:=fun j hj=>by
       match j,hj with
       |0,_=>exact hr _ rfl ⟨0,.phase⟩ (by simp) rfl
       |1,_=>exact hr _ rfl ⟨1,.data⟩ (by simp) rfl
       |2,_=>exact hr _ rfl ⟨2,.phase⟩ (by simp) rfl
       |3,_=>exact hr _ rfl ⟨3,.chain⟩ (by simp) rfl
       |4,_=>exact hr _ rfl ⟨4,.phase⟩ (by simp) rfl
       |5,_=>exact hr _ rfl ⟨5,.data⟩ (by simp) rfl
     obtain⟨zo,ap,e8,e10⟩:=s;have h7:=Z52 hinv.c7 hd;have h8:=Z52 hinv.c8 hd;have h10:=Z52 hinv.c10 hd;have hap:ap=none:=by
       have ha:=hinv.a;rw[hd]at ha;cases ap with
       |none=>rfl
       |some a=>cases ha
     subst hap;obtain rfl:e8=false:=by have:=hinv.e8;rw[h8]at this;exact this.symm
     obtain rfl:e10=false:=by have:=hinv.e10;rw[h10]at this;exact this.symm
     have hXX: ∀(q:GrG Cel.cs 8 (ps++[p0E])),∃b17 cs17,q.1.1=some (b17,cs17):=fun q=>Z3l q.2 (by simp);refine⟨rfl,.inl (BigOb.to (G:=GrG Cel.cs 8 (ps++[p0E])) (Tg:=fun g=>.is (sliceO g.1.1 (ps++[p0E]).length g.1.2)) (Lg:=fun g=>PB T b (usO z1.2.tail zo)::upB nm b3 (sliceO st ps.length cap)::ownO g.1.1 Z4 []) ?_ (fun q=>⟨⟨zo,some ((q.1.1.getD (0,[])).1,(q.1.1.getD (0,[])).2,q.1.2),false,false⟩,hinv.app qM hall ?_,fun j hj=>UpM.T_same (s:=⟨zo,none,false,false⟩) (s':=⟨zo,some ((q.1.1.getD (0,[])).1,(q.1.1.getD (0,[])).2,q.1.2),false,false⟩) (fun _=>rfl) (fun h=>absurd h (by rw[hd,h7];decide)) hj⟩) (fun q=>?_) (fun q=>?_))⟩
     · have hLq:UpM.L T b z1.2.tail nm b3 ps st cap ⟨zo,none,false,false⟩=PB T b (usO z1.2.tail zo)::upB nm b3 (sliceO st ps.length cap)::ownO st Z4 []:=rfl
       rw[hLq];exact ZdY [p0E] Z1S (.there (.there .here)) hG rfl rfl (srcE p0E ZY) (by simp) (by show(ps.length+1)*104<=140737488355328;omega) (by show ps.length+1<=9223372036854775807;omega)
     · obtain⟨⟨go,gc⟩,hq⟩:=q
       obtain⟨b17,cs17,rfl⟩:=Z3l hq (by simp);exact hq
     · obtain⟨⟨go,gc⟩,hq⟩:=q
       obtain⟨b17,cs17,rfl⟩:=Z3l hq (by simp);show Ty.is (Value.slice (some ⟨b17,0,none⟩) (ps.length+1) gc)=Ty.is (sliceO (some (b17,cs17)) (ps++[p0E]).length gc);rw[List.length_append];rfl
     · obtain⟨⟨go,gc⟩,hq⟩:=q
       obtain⟨b17,cs17,rfl⟩:=Z3l hq (by simp);exact .refl _
   |7,_,hbg,_,_=>exact absurd hbg qD
   |8,hA,_,hd,hr=>
     obtain rfl:=Option.some.inj hA;have h3:=hr _ rfl ⟨3,.data⟩ (by simp) rfl;have h6:=hr _ rfl ⟨6,.chain⟩ (by simp) rfl;have h7:=hr _ rfl ⟨7,.data⟩ (by simp) rfl;obtain⟨zo,ap,e8,e10⟩:=s;have ha:=hinv.a;rw[h6]at ha;cases ap with
     |none=>cases ha
     |some a=>
     obtain rfl:e8=false:=by have:=hinv.e8;rw[hd]at this;exact this.symm
     have hG6:=hinv.g a rfl;refine⟨rfl,.inl ((BigOb.ofM (ZdL (T:=TC (UpM.p ⟨zo,some a,false,e10⟩)) rfl (by simp[Op.operands]) TC.is (Za9 Cel.hlen (fun x=>List.all_eq_true.2 x.o) Zf (.inl rfl) (.inr ⟨rfl,rfl⟩) hG6 (i:=ps.length) (v:=UpM.p ⟨zo,some a,false,e10⟩) (by simp) (by show 0+((ps.length:Nat):Int).toNat*8=ps.length*8;omega) (.there (.there .here)))) rfl).to (fun _=>⟨⟨zo,some a,true,e10⟩,hinv.st8 qM h6,fun j hj=>UpM.T_same (fun _=>rfl) (fun _=>rfl) hj⟩) (fun _=>rfl) (fun _=>.refl _))⟩
   |9,_,hbg,_,_=>exact absurd hbg qD
   |10,hA,_,hd,hr=>
     obtain rfl:=Option.some.inj hA;have h6:=hr _ rfl ⟨6,.data⟩ (by simp) rfl;obtain⟨zo,ap,e8,e10⟩:=s;have ha:=hinv.a;rw[h6]at ha;cases ap with
     |none=>cases ha
     |some a=>
     obtain rfl:e10=false:=by have:=hinv.e10;rw[hd]at this;exact this.symm
     refine⟨rfl,.inl (BigOb.to (G:=Unit) (Tg:=fun _=>.any) (Lg:=fun _=>PB T b (usO z1.2.tail zo)::upB nm b3 (apV ps (some a))::ownO (UpM.cur ps st ⟨zo,some a,e8,false⟩) Z4 []) ?_ (fun _=>⟨⟨zo,some a,e8,true⟩,hinv.st10 qM h6,fun j hj=>UpM.T_same (s:=⟨zo,some a,e8,false⟩) (s':=⟨zo,some a,e8,true⟩) (fun _=>rfl) (fun _=>rfl) hj⟩) (fun _=>rfl) (fun _=>.refl _))⟩;have hLq:UpM.L T b z1.2.tail nm b3 ps st cap ⟨zo,some a,e8,false⟩=PB T b (usO z1.2.tail zo)::upB nm b3 (sliceO st ps.length cap)::ownO (UpM.cur ps st ⟨zo,some a,e8,false⟩) Z4 []:=rfl;rw[hLq];exact BigOb.ofM (Zc (V:=apV ps (some a)) rfl rfl (.there .here) rfl rfl rfl rfl Z2f) rfl
   |i+11,hA,_,hd,hr=>simp at hA
 intro s D hs hall hinv;obtain⟨zo,ap,e8,e10⟩:=s;obtain rfl:e8=true:=by have:=hinv.e8;rw[hall 8 qD]at this;exact this.symm
 obtain rfl:e10=true:=by have:=hinv.e10;rw[hall 10 qD]at this;exact this.symm
 have ha:=hinv.a;rw[hall 6 qD]at ha;have hz3:=hinv.z;rw[hall 3 qD]at hz3;obtain⟨⟨b17,cs17,cap2⟩,rfl⟩:=Option.isSome_iff_exists.1 ha.symm;obtain⟨⟨z,p1⟩,rfl⟩:=Option.isSome_iff_exists.1 hz3.symm;obtain⟨hz,hp1⟩:=hinv.r _ rfl;dsimp only at hz hp1;have hG3:=Zbg Cel.hlen (hinv.g _ rfl) (i:=ps.length) (by simp) p1;rw[ZcD]at hG3;refine JO.subL (L':=PB T b z.2::upX nm b3 (ps++[p1],some (b17,splice cs17 (ps.length*8) p1.cs),cap2)) (.of_eq (by simp only[UpM.L,UpM.fld,UpM.cur,upX,if_true,List.length_append];rfl)) ?_;refine JO.open_ (s:=14) (R:=fun v w=>v=exE.v p1.cs/\CelR p1 w) rfl ?_;rintro _ ⟨_,rfl,_⟩;refine JO.fact (CelR p1) (fun X w hf _=>fun w' hk=>(hf _ List.mem_cons_self w' hk).2) (vP [4] ?_);refine Jm rfl (Ja rfl (vS [3] ?_));refine vR ?_;refine JX.toP ?_;exact JX.retL1 (Lr:=[]) rfl ((z1.1,p1),z.2,(ps++[p1],some (b17,splice cs17 (ps.length*8) p1.cs),cap2)) ⟨by unfold setP;rw[hz1,Option.bind_some,wantY heq,Option.bind_some,hz];simp only[Option.map_some,pcX,hp1],by rw[List.map_append,<-hps];rfl,hG3⟩ (.of_eq (List.append_nil _).symm) rfl rfl hb0 rfl (Sub.pcT qI)
end Go.Proofs.YtbedigkncjbggaaDoor
