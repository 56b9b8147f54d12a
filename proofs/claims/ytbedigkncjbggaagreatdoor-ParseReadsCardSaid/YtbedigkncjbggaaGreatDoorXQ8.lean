/- All expressions of a statement; a statement is the same as itself. No condition. -/
import Derived.Test.YtbedigkncjbggaaGreatDoorXQ7
import Derived.Test.YtbedigkncjbggaaGreatDoorXG7
import Derived.Test.YtbedigkncjbggaaGreatDoorXQ2
import Derived.Test.YtbedigkncjbggaaGreatDoorXG3
import Derived.Test.YtbedigkncjbggaaGreatDoorXQ1
set_option maxRecDepth 20000
namespace Go.Proofs.YtbedigkncjbggaaGreatDoor
open Go Go.Vc
open Go.Pz
theorem Zb2:CEq Tryz.prog Z1l ZJ Z48 Ze7:=⟨by kernel_rfl,by kernel_rfl,by kernel_rfl,by kernel_rfl,by kernel_rfl,by kernel_rfl,by kernel_rfl⟩
theorem J.pureF{P:Program}{c:Ctx}{K:List (Nat×Ty)}{L:List Own}{Φ:List (World->Prop)}{Q:Exit->Act->World->Prop}{y:Code}{F:World->Prop}(h:F∈Φ)(hj:(∃w,F w)->J P c K L Φ y Q):J P c K L Φ y Q:=
 ⟨fun X a w hs=>(hj ⟨w,(hs.f F h).now⟩).out X a w hs⟩
theorem Zeg{ps:List (Cel coE)}{l:List Col}(h: ∃w,CelF coE ps w)(hm:ps.map Cel.x=l){i:Nat}(hi:i<ps.length)(hi':i<l.length):ps[i].cs=[.string (l[i]).nm,.int .i64 (l[i]).ty,.bool (l[i]).nn,.bool (l[i]).un]:=by
 obtain⟨w,hw⟩:=h;subst hm;have:ps[i].cs=(ps[i].x).cells:=hw _ (List.getElem_mem hi);rw[this];simp[Col.cells]
theorem Zej{ps:List (Cel stE)}{l:List ByteArray}(h: ∃w,CelF stE ps w)(hm:ps.map Cel.x=l){i:Nat}(hi:i<ps.length)(hi':i<l.length):ps[i].cs=[.string (l[i])]:=by
 obtain⟨w,hw⟩:=h;subst hm;have:ps[i].cs=[.string ps[i].x]:=hw _ (List.getElem_mem hi);rw[this];simp
theorem ZgJ{xs:List Ex}{v:Value}{w:World}(h:ExsR xs v w): ∃a cap,v= .slice a xs.length cap:=by
 obtain⟨a,len,cap,rfl,hk⟩:=h;exact⟨a,cap,by rw[hk.1]⟩
theorem Zee{ps:List (Cel rwE)}{l:List (List Ex)}(h: ∃w,CelF rwE ps w)(hm:ps.map Cel.x=l){i:Nat}(hi:i<ps.length)(hi':i<l.length): ∃a cap,ps[i].cs=[.slice a (l[i]).length cap]:=by
 obtain⟨w,hw⟩:=h;subst hm;obtain⟨v,h1,h2⟩:=hw _ (List.getElem_mem hi);obtain⟨a,cap,rfl⟩:=ZgJ h2;exact⟨a,cap,by rw[h1];simp⟩
theorem Zbg{ps:List (Cel itE)}{l:List Itm}(h: ∃w,CelF itE ps w)(hm:ps.map Cel.x=l){i:Nat}(hi:i<ps.length)(hi':i<l.length):(ps[i].cs)[0]? =some (.bool (l[i]).all):=by
 obtain⟨w,hw⟩:=h;subst hm;obtain⟨es,h1,h2⟩:=hw _ (List.getElem_mem hi);rw[h1];simp
theorem ZdS{ps:List (Cel srE)}{l:List Pz.Src}(h: ∃w,CelF srE ps w)(hm:ps.map Cel.x=l){i:Nat}(hi:i<ps.length)(hi':i<l.length): ∃a cap,ps[i].cs=[.string (l[i]).tb,.string (l[i]).nm,.slice a (l[i]).on.length cap]:=by
 obtain⟨w,hw⟩:=h;subst hm;obtain⟨v,h1,h2⟩:=hw _ (List.getElem_mem hi);obtain⟨a,cap,rfl⟩:=ZgJ h2;exact⟨a,cap,by rw[h1];simp⟩
theorem Ze2{ps:List (Cel kyE)}{l:List Ky}(h: ∃w,CelF kyE ps w)(hm:ps.map Cel.x=l){i:Nat}(hi:i<ps.length)(hi':i<l.length):(ps[i].cs)[8]? =some (.bool (l[i]).desc):=by
 obtain⟨w,hw⟩:=h;subst hm;obtain⟨es,h1,h2⟩:=hw _ (List.getElem_mem hi);have h8:=Z9H h2;rw[h1,List.getElem?_append_right qM,h8];simp
theorem Z7F(N:Nat)(S0:Pz.St)(hsm:SmS S0):CallTy Tryz.prog Zdw [.rep (StR N S0)] (.rep (ExsR (exsOf S0))):=
 CallTy.of (fn:=Tryz.f18) Tryz.func18 (n:=81) rfl rfl rfl (fun _ _=>by kernel_rfl) fun E W=>by
 refine J.openSt (s:=0) rfl (fun vc vn vr vi vf vw vg vo vs=>?_);have hsm0:=hsm;obtain⟨hb1,hb2,hb3,hb4,hb5,hb6,hb7,hb8,hb9,hb10,hb11⟩:=hsm;refine J.shapeE (xs:=S0.rows) (v:=vr) qI (fun pr ar lr cr br or_ hpr hvr hlr har=>?_);refine J.shapeE (xs:=S0.items) (v:=vi) qI (fun pi ai li ci bi oi hpi hvi hli hai=>?_);refine J.shapeE (xs:=S0.from_) (v:=vf) qI (fun pf af lf cf bf of_ hpf hvf hlf haf=>?_);refine J.shapeE (xs:=S0.order) (v:=vo) qI (fun po ao lo co bo oo hpo hvo hlo hao=>?_);refine J.fact (ExsR S0.where_ vw) (fun X w hF _ w' hk=>SlE.exs (hF (SlE exE (FX N) S0.where_ vw) qI w' hk)) ?_;refine J.shapeX (xs:=S0.where_) (v:=vw) qI (fun pw aw lw cw bw ow hpw hvw hlw haw=>?_);refine J.shapeX (xs:=S0.group) (v:=vg) qI (fun pg ag lg cg bg og hpg hvg hlg hag=>?_);refine J.shapeX (xs:=S0.sets) (v:=vs) qI (fun px ax lx cx bx ox hpx hvx hlx hax=>?_);subst hvr hvi hvf hvo hvw hvg hvx;have nr:pr.length=S0.rows.length:=by rw[<-hpr,List.length_map]
 have ni:pi.length=S0.items.length:=by rw[<-hpi,List.length_map]
 have nf:pf.length=S0.from_.length:=by rw[<-hpf,List.length_map]
 have no:po.length=S0.order.length:=by rw[<-hpo,List.length_map]
 have nw:pw.length=S0.where_.length:=by rw[<-hpw,List.length_map]
 have ng:pg.length=S0.group.length:=by rw[<-hpg,List.length_map]
 have nx:px.length=S0.sets.length:=by rw[<-hpx,List.length_map]
 refine vQ ?_;refine JO.box rfl rfl fun b1=>(Ja rfl (vP [1] ?_));refine Ja rfl (vP [1,3] ?_);refine Ja rfl (vS [1,3,4] ?_);apply yk
 repeat apply yQ
 refine J.loopH (α:=List (Cel exE)×Option (Nat×List Value)×Nat×Nat) (fun z=>[(1,.is (.pointer (some ⟨b1,0,none⟩))),(3,.is (sliceO z.2.1 z.1.length z.2.2.1)),(4,.is (.int .i64 (z.2.2.2:Nat)))]) (fun z=>ownO z.2.1 Z7 [⟨b1,Z3,.is (stV S0 vc vn (.slice ar lr cr) (.slice ai li ci) (.slice af lf cf) (.slice aw lw cw) (.slice ag lg cg) (.slice ao lo co) (.slice ax lx cx))⟩]) (fun z=>CelF exE z.1) (fun z=>z.2.2.2<=pr.length/\Grows Cel.cs 8 z.1 z.2.1 z.2.2.1/\z.1.map Cel.x=((pr.take z.2.2.2).map Cel.x).flatten/\z.1.length<=16*z.2.2.2) (fun z=>pr.length-z.2.2.2) ([],none,0,0) [1,3,4] (.cons rfl (.cons rfl (.cons rfl .nil))) rfl (fun X w hF=>fun w' hk=>CelF.nil w') ⟨Nat.zero_le _,rfl,rfl,Nat.zero_le _⟩ fun⟨qpr,stpr,cappr,i⟩ ⟨hi,hGpr,hmpr,hlpr⟩=>?_;try dsimp only
 try dsimp only at hi
 try dsimp only at hGpr
 try dsimp only at hmpr
 try dsimp only at hlpr
 refine vQ ?_;refine Jm rfl (Jq (Z0 Z1G rfl) (Jq (Z5 Z1D rfl rfl) (Jq (ZD Z1P rfl) (Jq (Z10 rfl rfl) (vS [1,3,4,12] ?_)))));refine yC rfl (fun ht12=>?_) (fun ht12=>?_)
 try simp only[yd,yf]at ht12
 apply yK;refine vN ?_;apply yk;refine J.fact (ExsR pr[i].x (hdv pr[i].cs)) (fun X w hF _ w' hk=>ZdU (List.getElem_mem _) (hF (CelF rwE pr) qI w' hk)) ?_;refine J.shapeX (xs:=pr[i].x) (v:=hdv pr[i].cs) qI (fun ps a2 l2 cap0 b2 o2 hps hv2 hl2 ha2=>?_);have hln:ps.length<=16:=by rw[<-List.length_map (f:=Cel.x),hps];exact hb2 _ (by rw[<-hpr];exact List.mem_map_of_mem (List.getElem_mem _))
 refine vQ ?_;refine Jm rfl (Jq (Z0 Z1G rfl) (Jq (Z5 Z1D rfl rfl) (Jm rfl (Jq (Zi Z36 rfl (har qM) rfl qM qM) ?_))));refine Jq (Z17 (sz:=1) (j:=0) (enc:=Cel.cs) (u:=.slice a2 l2 cap0) ZB rfl qI (har qM) (List.getElem?_eq_getElem (by omega:i<pr.length)) qM (by rw[ZgL,hv2];rfl)) ?_;refine JO.apA (ps) Z1j Cel.hlen .here hGpr rfl rfl (fun L=>Z65 (a:=a2) (len:=l2) (cap:=cap0) Cel.hlen qD (fun p=>p.o) Zs qI) (by have:=hlpr;(try dsimp only at this);omega) (by have:=hlpr;(try dsimp only at this);omega) rfl (fun st2 cap2 hG2=>?_);refine Ja rfl (vP [1,3,4] ?_);refine Jm rfl (Jq (Zv (cc:=((i+1:Nat):Int)) rfl rfl qM qM qM) ?_);refine Ja rfl ?_;apply yI
 repeat refine JX.normal_block ?_
 refine JX.roundG (x:=(qpr,stpr,cappr,i)) (qpr++ps,st2,cap2,i+1) ?_ ?_ [1,3,4] ?_ ?_ ?_ ?_
 · exact⟨(by show i+1<=_;omega),hG2,(by show(qpr++ps).map Cel.x=_;rw[List.map_append,hmpr,Z3U qM];simp only[List.map_append,List.map_cons,List.map_nil,List.flatten_append,List.flatten_cons,List.flatten_nil,List.append_nil,List.append_assoc,hps]),(by show(qpr++ps).length<=_;rw[List.length_append];have:=hlpr;have:=hln;(try dsimp only at*);omega)⟩
 · exact(by show pr.length-(i+1)<pr.length-i;omega)
 · exact qS
 · exact qH
 · exact qG
 · exact fun X w hF=>fun w' hk p hp=>(List.mem_append.1 hp).elim (fun hp=>hF (CelF exE qpr) qI w' hk p hp) (fun hp=>hF (CelF exE ps) qI w' hk p hp)
 try simp only[yd,yf]at ht12
 repeat apply yQ
 refine J.exit ?_
 repeat first|refine yH ?_|refine yM rfl ?_|refine yE ?_
 repeat first|apply yX|apply yB
 have hi2:i=pr.length:=by omega
 subst hi2;rw[List.take_length]at hmpr;rw[hpr]at hmpr;refine vQ ?_;refine Ja rfl (vS [1,3,5] ?_);apply yk
 repeat apply yQ
 refine J.loopH (α:=List (Cel exE)×Option (Nat×List Value)×Nat×Nat) (fun z=>[(1,.is (.pointer (some ⟨b1,0,none⟩))),(3,.is (sliceO z.2.1 z.1.length z.2.2.1)),(5,.is (.int .i64 (z.2.2.2:Nat)))]) (fun z=>ownO z.2.1 Z7 [⟨b1,Z3,.is (stV S0 vc vn (.slice ar lr cr) (.slice ai li ci) (.slice af lf cf) (.slice aw lw cw) (.slice ag lg cg) (.slice ao lo co) (.slice ax lx cx))⟩]) (fun z=>CelF exE z.1) (fun z=>z.2.2.2<=pi.length/\Grows Cel.cs 8 z.1 z.2.1 z.2.2.1/\z.1.map Cel.x=S0.rows.flatten++(pi.take z.2.2.2).map (·.x.ex)/\z.1.length<=512+z.2.2.2) (fun z=>pi.length-z.2.2.2) (qpr,stpr,cappr,0) [1,3,5] (.cons rfl (.cons rfl (.cons rfl .nil))) rfl (fun X w hF=>hF _ qI) ⟨Nat.zero_le _,hGpr,(by rw[hmpr];simp),(by show qpr.length<=512+0;have:=hlpr;(try dsimp only at this);omega)⟩ fun⟨qpi,stpi,cappi,i⟩ ⟨hi,hGpi,hmpi,hlpi⟩=>?_;try dsimp only
 try dsimp only at hi
 try dsimp only at hGpi
 try dsimp only at hmpi
 try dsimp only at hlpi
 refine vQ ?_;refine Jm rfl (Jq (Z0 Z1y rfl) (Jq (Z5 Z1H rfl rfl) (Jq (ZD Z2i rfl) (Jq (Z10 rfl rfl) (vS [1,3,5,26] ?_)))));refine yC rfl (fun ht26=>?_) (fun ht26=>?_)
 try simp only[yd,yf]at ht26
 apply yK;refine vN ?_;apply yk;obtain⟨u1,q1,hq1,hq2,hq3⟩:=ZfD pi[i];obtain⟨c1,c2,c3,c4,c5,c6,c7,c8,hcs⟩:=cs8 q1;refine J.fact (CelR q1) (fun X w hF _ w' hk=>hq3 pi w' (List.getElem_mem _) (hF (CelF itE pi) qI w' hk)) ?_;refine vQ ?_;refine Jm rfl (Jq (Z0 Z1y rfl) (Jq (Z5 Z1H rfl rfl) (Jm rfl (Jq (Zi Z3N rfl (hai qM) rfl qM qM) ?_))));refine Jq (Z0 Z9j rfl) ?_;refine Jq (ZbP (sz:=9) (i:=i) (j:=1) (n:=8) (enc:=Cel.cs) (cs:=q1.cs) (by rw[q1.h];exact Z8) rfl qI (hai qM) (List.getElem?_eq_getElem (by omega:i<pi.length)) qM (by rw[hq1];show(List.drop 1 (u1::q1.cs)).take 8=q1.cs;rw[List.drop_one,List.tail_cons,List.take_of_length_le (by rw[q1.h];exact Nat.le_refl _)])) ?_;refine Jq (Z1V (p:=q1) Z3F Zy rfl qD rfl) ?_;refine JO.apA ([q1]) Z1j Cel.hlen .here hGpi rfl rfl (srcE q1 Zs) (by have:=hlpi;(try dsimp only at this);(try simp only[List.length_singleton]);omega) (by have:=hlpi;(try dsimp only at this);(try simp only[List.length_singleton]);omega) rfl (fun st2 cap2 hG2=>?_);refine Ja rfl (vP [1,3,5] ?_);refine Jm rfl (Jq (Zv (cc:=((i+1:Nat):Int)) rfl rfl qM qM qM) ?_);refine Ja rfl ?_;apply yI
 repeat refine JX.normal_block ?_
 refine JX.roundG (x:=(qpi,stpi,cappi,i)) (qpi++[q1],st2,cap2,i+1) ?_ ?_ [1,3,5] ?_ ?_ ?_ ?_
 · exact⟨(by show i+1<=_;omega),hG2,(by show(qpi++[q1]).map Cel.x=_;rw[List.map_append,hmpi,Z3U qM];simp only[List.map_append,List.map_cons,List.map_nil,List.append_assoc,hq2]),(by show(qpi++[q1]).length<=_;rw[List.length_append];have:=hlpi;have:=(show[q1].length<=1 from Nat.le_refl 1);(try dsimp only at*);omega)⟩
 · exact(by show pi.length-(i+1)<pi.length-i;omega)
 · exact qS
 · exact qH
 · exact qG
 · exact fun X w hF=>fun w' hk p hp=>(List.mem_append.1 hp).elim (fun hp=>hF (CelF exE qpi) qI w' hk p hp) (fun hp=>by rw[List.mem_singleton.1 hp];exact hF (CelR q1) qI w' hk)
 try simp only[yd,yf]at ht26
 repeat apply yQ
 refine J.exit ?_
 repeat first|refine yH ?_|refine yM rfl ?_|refine yE ?_
 repeat first|apply yX|apply yB
 have hi2:i=pi.length:=by omega
 subst hi2;rw[List.take_length]at hmpi;refine vQ ?_;refine Ja rfl (vS [1,3,6] ?_);apply yk
 repeat apply yQ
 refine J.loopH (α:=List (Cel exE)×Option (Nat×List Value)×Nat×Nat) (fun z=>[(1,.is (.pointer (some ⟨b1,0,none⟩))),(3,.is (sliceO z.2.1 z.1.length z.2.2.1)),(6,.is (.int .i64 (z.2.2.2:Nat)))]) (fun z=>ownO z.2.1 Z7 [⟨b1,Z3,.is (stV S0 vc vn (.slice ar lr cr) (.slice ai li ci) (.slice af lf cf) (.slice aw lw cw) (.slice ag lg cg) (.slice ao lo co) (.slice ax lx cx))⟩]) (fun z=>CelF exE z.1) (fun z=>z.2.2.2<=pf.length/\Grows Cel.cs 8 z.1 z.2.1 z.2.2.1/\z.1.map Cel.x=S0.rows.flatten++S0.items.map (·.ex)++((pf.take z.2.2.2).map (·.x.on)).flatten/\z.1.length<=528+z.2.2.2) (fun z=>pf.length-z.2.2.2) (qpi,stpi,cappi,0) [1,3,6] (.cons rfl (.cons rfl (.cons rfl .nil))) rfl (fun X w hF=>hF _ qI) ⟨Nat.zero_le _,hGpi,(by rw[hmpi,<-hpi];first|(simp;done)|(simp;rfl)),(by show qpi.length<=528+0;have:=hlpi;(try dsimp only at this);omega)⟩ fun⟨qpf,stpf,cappf,i⟩ ⟨hi,hGpf,hmpf,hlpf⟩=>?_;try dsimp only
 try dsimp only at hi
 try dsimp only at hGpf
 try dsimp only at hmpf
 try dsimp only at hlpf
 refine vQ ?_;refine Jm rfl (Jq (Z0 Z13 rfl) (Jq (Z5 Z11 rfl rfl) (Jq (ZD Z1N rfl) (Jq (Z10 rfl rfl) (vS [1,3,6,42] ?_)))));refine yC rfl (fun ht42=>?_) (fun ht42=>?_)
 try simp only[yd,yf]at ht42
 apply yK;refine vN ?_;apply yk;obtain⟨u1,u2,u3,hq1,hq3⟩:=ZfB pf[i];refine J.fact (ExsR pf[i].x.on u3) (fun X w hF _ w' hk=>hq3 pf w' (List.getElem_mem _) (hF (CelF srE pf) qI w' hk)) ?_;refine J.shapeX (xs:=pf[i].x.on) (v:=u3) qI (fun ps a2 l2 cap0 b2 o2 hps hv2 hl2 ha2=>?_);subst hv2;have hln:ps.length<=1:=by rw[<-List.length_map (f:=Cel.x),hps];exact hb5 _ (by rw[<-hpf];exact List.mem_map_of_mem (List.getElem_mem _))
 refine vQ ?_;refine Jm rfl (Jq (Z0 Z13 rfl) (Jq (Z5 Z11 rfl rfl) (Jm rfl (Jq (Zi Z2b rfl (haf qM) rfl qM qM) ?_))));refine Jq (Z0 Z2V rfl) ?_;refine Jq (Z17 (sz:=3) (j:=2) (enc:=Cel.cs) (u:=.slice a2 l2 cap0) ZB rfl qI (haf qM) (List.getElem?_eq_getElem (by omega:i<pf.length)) qM (by rw[hq1];rfl)) ?_;refine JO.apA (ps) Z1j Cel.hlen .here hGpf rfl rfl (fun L=>Z65 (a:=a2) (len:=l2) (cap:=cap0) Cel.hlen qD (fun p=>p.o) Zs qI) (by have:=hlpf;(try dsimp only at this);omega) (by have:=hlpf;(try dsimp only at this);omega) rfl (fun st2 cap2 hG2=>?_);refine Ja rfl (vP [1,3,6] ?_);refine Jm rfl (Jq (Zv (cc:=((i+1:Nat):Int)) rfl rfl qM qM qM) ?_);refine Ja rfl ?_;apply yI
 repeat refine JX.normal_block ?_
 refine JX.roundG (x:=(qpf,stpf,cappf,i)) (qpf++ps,st2,cap2,i+1) ?_ ?_ [1,3,6] ?_ ?_ ?_ ?_
 · exact⟨(by show i+1<=_;omega),hG2,(by show(qpf++ps).map Cel.x=_;rw[List.map_append,hmpf,Z3U qM];simp only[List.map_append,List.map_cons,List.map_nil,List.flatten_append,List.flatten_cons,List.flatten_nil,List.append_nil,List.append_assoc,hps]),(by show(qpf++ps).length<=_;rw[List.length_append];have:=hlpf;have:=hln;(try dsimp only at*);omega)⟩
 · exact(by show pf.length-(i+1)<pf.length-i;omega)
 · exact qS
 · exact qH
 · exact qG
 · exact fun X w hF=>fun w' hk p hp=>(List.mem_append.1 hp).elim (fun hp=>hF (CelF exE qpf) qI w' hk p hp) (fun hp=>hF (CelF exE ps) qI w' hk p hp)
 try simp only[yd,yf]at ht42
 repeat apply yQ
 refine J.exit ?_
 repeat first|refine yH ?_|refine yM rfl ?_|refine yE ?_
 repeat first|apply yX|apply yB
 have hi2:i=pf.length:=by omega
 subst hi2;rw[List.take_length]at hmpf;refine vQ ?_;refine Ja rfl (vS [1,3,7] ?_);apply yk
 repeat apply yQ
 refine J.loopH (α:=List (Cel exE)×Option (Nat×List Value)×Nat×Nat) (fun z=>[(1,.is (.pointer (some ⟨b1,0,none⟩))),(3,.is (sliceO z.2.1 z.1.length z.2.2.1)),(7,.is (.int .i64 (z.2.2.2:Nat)))]) (fun z=>ownO z.2.1 Z7 [⟨b1,Z3,.is (stV S0 vc vn (.slice ar lr cr) (.slice ai li ci) (.slice af lf cf) (.slice aw lw cw) (.slice ag lg cg) (.slice ao lo co) (.slice ax lx cx))⟩]) (fun z=>CelF exE z.1) (fun z=>z.2.2.2<=po.length/\Grows Cel.cs 8 z.1 z.2.1 z.2.2.1/\z.1.map Cel.x=S0.rows.flatten++S0.items.map (·.ex)++(S0.from_.map (·.on)).flatten++(po.take z.2.2.2).map (·.x.ex)/\z.1.length<=532+z.2.2.2) (fun z=>po.length-z.2.2.2) (qpf,stpf,cappf,0) [1,3,7] (.cons rfl (.cons rfl (.cons rfl .nil))) rfl (fun X w hF=>hF _ qI) ⟨Nat.zero_le _,hGpf,(by rw[hmpf,<-hpf];first|(simp;done)|(simp;rfl)),(by show qpf.length<=532+0;have:=hlpf;(try dsimp only at this);omega)⟩ fun⟨qpo,stpo,cappo,i⟩ ⟨hi,hGpo,hmpo,hlpo⟩=>?_;try dsimp only
 try dsimp only at hi
 try dsimp only at hGpo
 try dsimp only at hmpo
 try dsimp only at hlpo
 refine vQ ?_;refine Jm rfl (Jq (Z0 Z1F rfl) (Jq (Z5 Z2e rfl rfl) (Jq (ZD Z2I rfl) (Jq (Z10 rfl rfl) (vS [1,3,7,57] ?_)))));refine yC rfl (fun ht57=>?_) (fun ht57=>?_)
 try simp only[yd,yf]at ht57
 apply yK;refine vN ?_;apply yk;obtain⟨u1,q1,hq1,hq2,hq3⟩:=ZfH po[i];obtain⟨c1,c2,c3,c4,c5,c6,c7,c8,hcs⟩:=cs8 q1;refine J.fact (CelR q1) (fun X w hF _ w' hk=>hq3 po w' (List.getElem_mem _) (hF (CelF kyE po) qI w' hk)) ?_;refine vQ ?_;refine Jm rfl (Jq (Z0 Z1F rfl) (Jq (Z5 Z2e rfl rfl) (Jm rfl (Jq (Zi Z55 rfl (hao qM) rfl qM qM) ?_))));refine Jq (Z0 Z9B rfl) ?_;refine Jq (ZbP (sz:=9) (i:=i) (j:=0) (n:=8) (enc:=Cel.cs) (cs:=q1.cs) (by rw[q1.h];exact Z8) rfl qI (hao qM) (List.getElem?_eq_getElem (by omega:i<po.length)) qM (by rw[hq1];show(List.drop 0 (q1.cs++[u1])).take 8=q1.cs;rw[List.drop_zero];exact List.take_left' q1.h)) ?_;refine Jq (Z1V (p:=q1) Z3F Zy rfl qD rfl) ?_;refine JO.apA ([q1]) Z1j Cel.hlen .here hGpo rfl rfl (srcE q1 Zs) (by have:=hlpo;(try dsimp only at this);(try simp only[List.length_singleton]);omega) (by have:=hlpo;(try dsimp only at this);(try simp only[List.length_singleton]);omega) rfl (fun st2 cap2 hG2=>?_);refine Ja rfl (vP [1,3,7] ?_);refine Jm rfl (Jq (Zv (cc:=((i+1:Nat):Int)) rfl rfl qM qM qM) ?_);refine Ja rfl ?_;apply yI
 repeat refine JX.normal_block ?_
 refine JX.roundG (x:=(qpo,stpo,cappo,i)) (qpo++[q1],st2,cap2,i+1) ?_ ?_ [1,3,7] ?_ ?_ ?_ ?_
 · exact⟨(by show i+1<=_;omega),hG2,(by show(qpo++[q1]).map Cel.x=_;rw[List.map_append,hmpo,Z3U qM];simp only[List.map_append,List.map_cons,List.map_nil,List.append_assoc,hq2]),(by show(qpo++[q1]).length<=_;rw[List.length_append];have:=hlpo;have:=(show[q1].length<=1 from Nat.le_refl 1);(try dsimp only at*);omega)⟩
 · exact(by show po.length-(i+1)<po.length-i;omega)
 · exact qS
 · exact qH
 · exact qG
 · exact fun X w hF=>fun w' hk p hp=>(List.mem_append.1 hp).elim (fun hp=>hF (CelF exE qpo) qI w' hk p hp) (fun hp=>by rw[List.mem_singleton.1 hp];exact hF (CelR q1) qI w' hk)
 try simp only[yd,yf]at ht57
 repeat apply yQ
 refine J.exit ?_
 repeat first|refine yH ?_|refine yM rfl ?_|refine yE ?_
 repeat first|apply yX|apply yB
 have hi2:i=po.length:=by omega
 subst hi2;rw[List.take_length]at hmpo;refine vQ ?_;refine Jm rfl (Jq (Z0 Z26 rfl) (Jq (Z5 ZB rfl rfl) ?_));refine JO.apA (pw) Z1j Cel.hlen .here hGpo rfl rfl (fun L=>Z65 (a:=aw) (len:=lw) (cap:=cw) Cel.hlen qD (fun p=>p.o) Zs qI) (by have:=hlpo;(try dsimp only at this);omega) (by have:=hlpo;(try dsimp only at this);omega) rfl (fun st4 cap4 hG4=>?_);refine Ja rfl (vP [1,3] ?_);refine Jm rfl (Jq (Z0 Z3w rfl) (Jq (Z5 ZB rfl rfl) ?_));refine JO.apA (pg) Z1j Cel.hlen .here hG4 rfl rfl (fun L=>Z65 (a:=ag) (len:=lg) (cap:=cg) Cel.hlen qD (fun p=>p.o) Zs qI) (by have:=hlpo;(try dsimp only at this);simp only[List.length_append];omega) (by have:=hlpo;(try dsimp only at this);simp only[List.length_append];omega) rfl (fun st5 cap5 hG5=>?_);refine Ja rfl (vP [1,3] ?_);refine Jm rfl (Jq (Z0 Z3j rfl) (Jq (Z5 ZB rfl rfl) ?_));refine JO.apA (px) Z1j Cel.hlen .here hG5 rfl rfl (fun L=>Z65 (a:=ax) (len:=lx) (cap:=cx) Cel.hlen qD (fun p=>p.o) Zs qI) (by have:=hlpo;(try dsimp only at this);simp only[List.length_append];omega) (by have:=hlpo;(try dsimp only at this);simp only[List.length_append];omega) rfl (fun st6 cap6 hG6=>?_);refine Ja rfl (vS [2] ?_);refine J.freezeOMW (N:=0) (e:=Z7) (sz:=8) (Nat.zero_le _) Cel.hlen hG6 .here (fun q hq=>hq.elim) rfl rfl ?_;refine J.fact (ExsR (exsOf S0) (sliceO st6 (qpo++pw++pg++px).length cap6)) (fun X w hF _ w' hk=>by rw[hG6.sl.1];exact⟨_,_,_,rfl,by rw[show exsOf S0=(qpo++pw++pg++px).map Cel.x from by unfold exsOf;rw[List.map_append,List.map_append,List.map_append,hmpo,hpw,hpg,hpx,<-hpo];first|(simp;done)|(simp;rfl)];exact Cel.kids (hF (RowG Cel.cs 8 (qpo++pw++pg++px) (adO st6) (qpo++pw++pg++px).length) qI w' hk) (fun p hp=>by
       rcases List.mem_append.1 hp with hp|hp
       · rcases List.mem_append.1 hp with hp|hp
         · rcases List.mem_append.1 hp with hp|hp
           · exact hF (CelF exE qpo) qI w' hk p hp
           · exact hF (CelF exE pw) qI w' hk p hp
         · exact hF (CelF exE pg) qI w' hk p hp
       · exact hF (CelF exE px) qI w' hk p hp)⟩) ?_
 refine vR ?_;exact JX.ret1sub rfl rfl rfl (Sub.fact qI)
set_option maxHeartbeats 2000000 in
theorem ZbW(N N2:Nat)(S0:Pz.St)(hsm:SmS S0):CallTy Tryz.prog ZbR [.rep (StR N S0),.rep (StR N2 S0)] (.is (.bool true)):=
 CallTy.of (fn:=Tryz.f40) Tryz.func40 (n:=159) rfl rfl rfl (fun _ _=>by kernel_rfl) fun E W=>by
 obtain⟨hb1,hb2,hb3,hb4,hb5,hb6,hb7,hb8,hb9,hb10,hb11⟩:=hsm;refine J.openSt (s:=0) rfl (fun vc vn vr vi vf vw vg vo vs=>?_);refine J.shapeE (xs:=S0.cols) (v:=vc) qI (fun pc ac lc cc bc oc hpc hvc hlc hac=>?_);refine J.shapeE (xs:=S0.names) (v:=vn) qI (fun pn an ln cn bn on hpn hvn hln han=>?_);refine J.shapeE (xs:=S0.rows) (v:=vr) qI (fun pr ar lr cr br or_ hpr hvr hlr har=>?_);refine J.shapeE (xs:=S0.items) (v:=vi) qI (fun pi ai li ci bi oi hpi hvi hli hai=>?_);refine J.shapeE (xs:=S0.from_) (v:=vf) qI (fun pf af lf cf bf of_ hpf hvf hlf haf=>?_);refine J.shapeE (xs:=S0.order) (v:=vo) qI (fun po ao lo co bo oo hpo hvo hlo hao=>?_);refine J.pureF (F:=CelF coE pc) qI (fun puc=>?_);refine J.pureF (F:=CelF stE pn) qI (fun pun=>?_);refine J.pureF (F:=CelF rwE pr) qI (fun pur=>?_);refine J.pureF (F:=CelF itE pi) qI (fun pui=>?_);refine J.pureF (F:=CelF srE pf) qI (fun puf=>?_);refine J.pureF (F:=CelF kyE po) qI (fun puo=>?_);subst hvc hvn hvr hvi hvf hvo;have nc:pc.length=S0.cols.length:=by rw[<-hpc,List.length_map]
 have nn:pn.length=S0.names.length:=by rw[<-hpn,List.length_map]
 have nr:pr.length=S0.rows.length:=by rw[<-hpr,List.length_map]
 have ni:pi.length=S0.items.length:=by rw[<-hpi,List.length_map]
 have nf:pf.length=S0.from_.length:=by rw[<-hpf,List.length_map]
 have no:po.length=S0.order.length:=by rw[<-hpo,List.length_map]
 refine J.openSt (s:=1) rfl (fun vcz vnz vrz viz vfz vwz vgz voz vsz=>?_);refine J.shapeE (xs:=S0.cols) (v:=vcz) qI (fun pcz acz lcz ccz bcz ocz hpcz hvcz hlcz hacz=>?_);refine J.shapeE (xs:=S0.names) (v:=vnz) qI (fun pnz anz lnz cnz bnz onz hpnz hvnz hlnz hanz=>?_);refine J.shapeE (xs:=S0.rows) (v:=vrz) qI (fun prz arz lrz crz brz orz_ hprz hvrz hlrz harz=>?_);refine J.shapeE (xs:=S0.items) (v:=viz) qI (fun piz aiz liz ciz biz oiz hpiz hviz hliz haiz=>?_);refine J.shapeE (xs:=S0.from_) (v:=vfz) qI (fun pfz afz lfz cfz bfz ofz_ hpfz hvfz hlfz hafz=>?_);refine J.shapeE (xs:=S0.order) (v:=voz) qI (fun poz aoz loz coz boz ooz hpoz hvoz hloz haoz=>?_);refine J.pureF (F:=CelF coE pcz) qI (fun pucz=>?_);refine J.pureF (F:=CelF stE pnz) qI (fun punz=>?_);refine J.pureF (F:=CelF rwE prz) qI (fun purz=>?_);refine J.pureF (F:=CelF itE piz) qI (fun puiz=>?_);refine J.pureF (F:=CelF srE pfz) qI (fun pufz=>?_);refine J.pureF (F:=CelF kyE poz) qI (fun puoz=>?_);subst hvcz hvnz hvrz hviz hvfz hvoz;have ncz:pcz.length=S0.cols.length:=by rw[<-hpcz,List.length_map]
 have nnz:pnz.length=S0.names.length:=by rw[<-hpnz,List.length_map]
 have nrz:prz.length=S0.rows.length:=by rw[<-hprz,List.length_map]
 have niz:piz.length=S0.items.length:=by rw[<-hpiz,List.length_map]
 have nfz:pfz.length=S0.from_.length:=by rw[<-hpfz,List.length_map]
 have noz:poz.length=S0.order.length:=by rw[<-hpoz,List.length_map]
 refine vQ ?_;refine JO.box rfl rfl fun b2=>(JO.box rfl rfl fun b3=>(Ja rfl (vP [2,3] ?_)));refine Ja rfl (vS [2,3,5] ?_);apply yk
 repeat apply yQ
 refine J.loopF (α:=Nat) (fun k=>[(2,_),(3,_),(5,.is (.int .i64 (k:Nat)))]) (fun k=>k<=lc) (fun k=>lc-k) 0 [2,3,5] (.cons rfl (.cons rfl (.cons rfl .nil))) (Nat.zero_le _) fun i hi=>?_;refine vQ ?_;refine Jm rfl (Jq (Z0 Z2s rfl) (Jq (Z5 Z2u rfl rfl) (Jq (ZD Z2M rfl) (Jq (Z10 rfl rfl) (vS [2,3,5,15] ?_)))));refine yC rfl (fun ht15=>?_) (fun ht15=>?_)
 try simp only[yd,yf]at ht15
 apply yK;refine vN ?_;apply yk;have hbi:i<S0.cols.length:=by omega
 repeat apply yQ
 refine J.reg0 hmx qK qK ?_;refine yz (Z0 Z2s rfl) (yz (Z5 Z2u rfl rfl) (yz (Z1 rfl) (yz (Zi Z6V rfl (hac qM) rfl qM qM) ?_)));refine yz (Z3W (sz:=4) (i:=i) (enc:=Cel.cs) (cs:=[.string (S0.cols[i]'hbi).nm,.int .i64 (S0.cols[i]'hbi).ty,.bool (S0.cols[i]'hbi).nn,.bool (S0.cols[i]'hbi).un]) Z1Q rfl qI (hac qM) (List.getElem?_eq_getElem (by omega:i<pc.length)) qM (Zeg puc hpc _ _)) ?_;refine yz (Z0 Z2s rfl) (yz (Z5 Z2u rfl rfl) (yz (Z1 rfl) (yz (Zi Z6V rfl (hacz qM) rfl qM qM) ?_)));refine yz (Z3W (sz:=4) (i:=i) (enc:=Cel.cs) (cs:=[.string (S0.cols[i]'hbi).nm,.int .i64 (S0.cols[i]'hbi).ty,.bool (S0.cols[i]'hbi).nn,.bool (S0.cols[i]'hbi).un]) Z1Q rfl qI (hacz qM) (List.getElem?_eq_getElem (by omega:i<pcz.length)) qM (Zeg pucz hpcz _ _)) ?_;refine yz (Zib Zb2 rfl rfl) ?_;apply yn;refine FinS.nil0 ?_;refine vS [2,3,5,28] ?_;refine yC rfl (fun ht28=>?_) (fun ht28=>?_);refine vQ ?_;refine Ja rfl (vS [4] ?_);refine vR ?_;exact JX.ret1is rfl rfl (by exact absurd ht28 qD)
 try simp only[yd,yf]at ht28
 apply yK;refine vN ?_;apply yN;refine Jm rfl (Jq (Zv (cc:=((i+1:Nat):Int)) rfl rfl qM qM qM) ?_);refine Ja rfl ?_;apply yI
 repeat refine JX.normal_block ?_
 refine JX.roundS (i+1) ?_ ?_ [2,3,5] ?_ ?_ ?_
 · exact qM
 · exact qM
 · exact qS
 · exact qB
 · exact qB
 try simp only[yd,yf]at ht15
 repeat apply yQ
 refine J.exit ?_
 repeat first|refine yH ?_|refine yM rfl ?_|refine yE ?_
 refine vN ?_;apply yN;refine Ja rfl (vS [2,3,6] ?_);apply yk
 repeat apply yQ
 refine J.loopF (α:=Nat) (fun k=>[(2,_),(3,_),(6,.is (.int .i64 (k:Nat)))]) (fun k=>k<=ln) (fun k=>ln-k) 0 [2,3,6] (.cons rfl (.cons rfl (.cons rfl .nil))) (Nat.zero_le _) fun i hi=>?_;refine vQ ?_;refine Jm rfl (Jq (Z0 Z1k rfl) (Jq (Z5 Z2n rfl rfl) (Jq (ZD Z1K rfl) (Jq (Z10 rfl rfl) (vS [2,3,6,33] ?_)))));refine yC rfl (fun ht33=>?_) (fun ht33=>?_)
 try simp only[yd,yf]at ht33
 apply yK;refine vN ?_;apply yk;have hbi:i<S0.names.length:=by omega
 repeat apply yQ
 refine J.reg0 hmx qK qK ?_;refine yz (Z0 Z1k rfl) (yz (Z5 Z2n rfl rfl) (yz (Z1 rfl) (yz (Zi Z3m rfl (han qM) rfl qM qM) ?_)));refine yz (Z17 (sz:=1) (i:=i) (j:=0) (enc:=@Cel.cs _ stE) (y:=pn[i]) (u:=.string (S0.names[i]'hbi)) Zr rfl qI (han qM) (List.getElem?_eq_getElem (by omega:i<pn.length)) qM (by rw[Zej pun hpn qM qM];rfl)) ?_;refine yz (Z0 Z1k rfl) (yz (Z5 Z2n rfl rfl) (yz (Z1 rfl) (yz (Zi Z3m rfl (hanz qM) rfl qM qM) ?_)));refine yz (Z17 (sz:=1) (i:=i) (j:=0) (enc:=@Cel.cs _ stE) (y:=pnz[i]) (u:=.string (S0.names[i]'hbi)) Zr rfl qI (hanz qM) (List.getElem?_eq_getElem (by omega:i<pnz.length)) qM (by rw[Zej punz hpnz qM qM];rfl)) ?_;refine yz (Z4x rfl rfl) ?_;apply yn;refine FinS.nil0 ?_;refine vS [2,3,6,46] ?_;refine yC rfl (fun ht46=>?_) (fun ht46=>?_);refine vQ ?_;refine Ja rfl (vS [4] ?_);refine vR ?_;exact JX.ret1is rfl rfl (by exact absurd ht46 (by simp[seq]));apply yK;refine vN ?_;apply yN;refine Jm rfl (Jq (Zv (cc:=((i+1:Nat):Int)) rfl rfl qM qM qM) ?_);refine Ja rfl ?_;apply yI
 repeat refine JX.normal_block ?_
 refine JX.roundS (i+1) ?_ ?_ [2,3,6] ?_ ?_ ?_
 · exact qM
 · exact qM
 · exact qS
 · exact qB
 · exact qB
 try simp only[yd,yf]at ht33
 repeat apply yQ
 refine J.exit ?_
 repeat first|refine yH ?_|refine yM rfl ?_|refine yE ?_
 refine vN ?_;apply yN;refine Ja rfl (vS [2,3,7] ?_);apply yk
 repeat apply yQ
 refine J.loopF (α:=Nat) (fun k=>[(2,_),(3,_),(7,.is (.int .i64 (k:Nat)))]) (fun k=>k<=lr) (fun k=>lr-k) 0 [2,3,7] (.cons rfl (.cons rfl (.cons rfl .nil))) (Nat.zero_le _) fun i hi=>?_;refine vQ ?_;refine Jm rfl (Jq (Z0 Z1G rfl) (Jq (Z5 Z1D rfl rfl) (Jq (ZD Z1P rfl) (Jq (Z10 rfl rfl) (vS [2,3,7,51] ?_)))));refine yC rfl (fun ht51=>?_) (fun ht51=>?_)
 try simp only[yd,yf]at ht51
 apply yK;refine vN ?_;apply yk;have hbi:i<S0.rows.length:=by omega
 obtain⟨ax,cx,hcx⟩:=Zee pur hpr (i:=i) qM qM;obtain⟨axz,cxz,hcxz⟩:=Zee purz hprz (i:=i) qM qM
 repeat apply yQ
 refine J.reg0 hmx qK qK ?_;refine yz (Z0 Z1G rfl) (yz (Z5 Z1D rfl rfl) (yz (Z1 rfl) (yz (Zi Z36 rfl (har qM) rfl qM qM) ?_)));refine yz (Z17 (sz:=1) (i:=i) (j:=0) (enc:=@Cel.cs _ rwE) (y:=pr[i]) (u:=.slice ax (S0.rows[i]'hbi).length cx) ZB rfl qI (har qM) (List.getElem?_eq_getElem (by omega:i<pr.length)) qM (by rw[hcx];rfl)) ?_;refine yz (ZD Zs rfl) (yz (Z0 Z1G rfl) (yz (Z5 Z1D rfl rfl) (yz (Z1 rfl) (yz (Zi Z36 rfl (harz qM) rfl qM qM) ?_))));refine yz (Z17 (sz:=1) (i:=i) (j:=0) (enc:=@Cel.cs _ rwE) (y:=prz[i]) (u:=.slice axz (S0.rows[i]'hbi).length cxz) ZB rfl qI (harz qM) (List.getElem?_eq_getElem (by omega:i<prz.length)) qM (by rw[hcxz];rfl)) ?_;refine yz (ZD Zs rfl) (yz (Z28 rfl rfl) ?_);apply yn;refine FinS.nil0 ?_;refine vS [2,3,7,66] ?_;refine yC rfl (fun ht66=>?_) (fun ht66=>?_);refine vQ ?_;refine Ja rfl (vS [4] ?_);refine vR ?_;exact JX.ret1is rfl rfl (by exact absurd ht66 (by simp));apply yK;refine vN ?_;apply yN;refine Jm rfl (Jq (Zv (cc:=((i+1:Nat):Int)) rfl rfl qM qM qM) ?_);refine Ja rfl ?_;apply yI
 repeat refine JX.normal_block ?_
 refine JX.roundS (i+1) ?_ ?_ [2,3,7] ?_ ?_ ?_
 · exact qM
 · exact qM
 · exact qS
 · exact qB
 · exact qB
 try simp only[yd,yf]at ht51
 repeat apply yQ
 refine J.exit ?_
 repeat first|refine yH ?_|refine yM rfl ?_|refine yE ?_
 refine vN ?_;apply yN;refine Ja rfl (vS [2,3,8] ?_);apply yk
 repeat apply yQ
 refine J.loopF (α:=Nat) (fun k=>[(2,_),(3,_),(8,.is (.int .i64 (k:Nat)))]) (fun k=>k<=li) (fun k=>li-k) 0 [2,3,8] (.cons rfl (.cons rfl (.cons rfl .nil))) (Nat.zero_le _) fun i hi=>?_;refine vQ ?_;refine Jm rfl (Jq (Z0 Z1y rfl) (Jq (Z5 Z1H rfl rfl) (Jq (ZD Z2i rfl) (Jq (Z10 rfl rfl) (vS [2,3,8,71] ?_)))));refine yC rfl (fun ht71=>?_) (fun ht71=>?_)
 try simp only[yd,yf]at ht71
 apply yK;refine vN ?_;apply yk;have hbi:i<S0.items.length:=by omega
 repeat apply yQ
 refine J.reg0 hmx qK qK ?_;refine yz (Z0 Z1y rfl) (yz (Z5 Z1H rfl rfl) (yz (Z1 rfl) (yz (Zi Z3N rfl (hai qM) rfl qM qM) ?_)));refine yz (Z0 Z6o rfl) ?_;refine yz (Z17 (sz:=9) (i:=i) (j:=0) (enc:=@Cel.cs _ itE) (y:=pi[i]) (u:=.bool (S0.items[i]'hbi).all) Z1O rfl qI (hai qM) (List.getElem?_eq_getElem (by omega:i<pi.length)) qM (Zbg pui hpi qM qM)) ?_;refine yz (Z0 Z1y rfl) (yz (Z5 Z1H rfl rfl) (yz (Z1 rfl) (yz (Zi Z3N rfl (haiz qM) rfl qM qM) ?_)));refine yz (Z0 Z6o rfl) ?_;refine yz (Z17 (sz:=9) (i:=i) (j:=0) (enc:=@Cel.cs _ itE) (y:=piz[i]) (u:=.bool (S0.items[i]'hbi).all) Z1O rfl qI (haiz qM) (List.getElem?_eq_getElem (by omega:i<piz.length)) qM (Zbg puiz hpiz qM qM)) ?_;refine yz (Zb4 Zb5 rfl rfl) ?_;apply yn;refine FinS.nil0 ?_;refine vS [2,3,8,86] ?_;refine yC rfl (fun ht86=>?_) (fun ht86=>?_);refine vQ ?_;refine Ja rfl (vS [4] ?_);refine vR ?_;exact JX.ret1is rfl rfl (by exact absurd ht86 (by simp));apply yK;refine vN ?_;apply yN;refine Jm rfl (Jq (Zv (cc:=((i+1:Nat):Int)) rfl rfl qM qM qM) ?_);refine Ja rfl ?_;apply yI
 repeat refine JX.normal_block ?_
 refine JX.roundS (i+1) ?_ ?_ [2,3,8] ?_ ?_ ?_
 · exact qM
 · exact qM
 · exact qS
 · exact qB
 · exact qB
 try simp only[yd,yf]at ht71
 repeat apply yQ
 refine J.exit ?_
 repeat first|refine yH ?_|refine yM rfl ?_|refine yE ?_
 refine vN ?_;apply yN;refine Ja rfl (vS [2,3,9] ?_);apply yk
 repeat apply yQ
 refine J.loopF (α:=Nat) (fun k=>[(2,_),(3,_),(9,.is (.int .i64 (k:Nat)))]) (fun k=>k<=lf) (fun k=>lf-k) 0 [2,3,9] (.cons rfl (.cons rfl (.cons rfl .nil))) (Nat.zero_le _) fun i hi=>?_;refine vQ ?_;refine Jm rfl (Jq (Z0 Z13 rfl) (Jq (Z5 Z11 rfl rfl) (Jq (ZD Z1N rfl) (Jq (Z10 rfl rfl) (vS [2,3,9,91] ?_)))));refine yC rfl (fun ht91=>?_) (fun ht91=>?_)
 try simp only[yd,yf]at ht91
 apply yK;refine vN ?_;apply yk;have hbi:i<S0.from_.length:=by omega
 obtain⟨ay,cy,hcy⟩:=ZdS puf hpf (i:=i) qM qM;obtain⟨ayz,cyz,hcyz⟩:=ZdS pufz hpfz (i:=i) qM qM
 repeat apply yQ
 refine J.reg0 hmx qK qK ?_;refine yz (Z0 Z13 rfl) (yz (Z5 Z11 rfl rfl) (yz (Z1 rfl) (yz (Zi Z2b rfl (haf qM) rfl qM qM) ?_)));refine yz (Z0 Z7x rfl) ?_;refine yz (Z17 (sz:=3) (i:=i) (j:=0) (enc:=@Cel.cs _ srE) (y:=pf[i]) (u:=.string (S0.from_[i]'hbi).tb) Zr rfl qI (haf qM) (List.getElem?_eq_getElem (by omega:i<pf.length)) qM (by rw[hcy];rfl)) ?_;refine yz (Z0 Z13 rfl) (yz (Z5 Z11 rfl rfl) (yz (Z1 rfl) (yz (Zi Z2b rfl (hafz qM) rfl qM qM) ?_)));refine yz (Z0 Z7x rfl) ?_;refine yz (Z17 (sz:=3) (i:=i) (j:=0) (enc:=@Cel.cs _ srE) (y:=pfz[i]) (u:=.string (S0.from_[i]'hbi).tb) Zr rfl qI (hafz qM) (List.getElem?_eq_getElem (by omega:i<pfz.length)) qM (by rw[hcyz];rfl)) ?_;refine yz (Z4x rfl rfl) (yz (Z1 rfl) (yg rfl rfl rfl (fun hg=>Z0 Z13 (.inl rfl)) (yg rfl rfl rfl (fun hg=>Z5 Z11 (qR rfl) rfl) ?_)));refine yg rfl rfl rfl (fun hg=>Z1 (.inl rfl)) (yg rfl rfl rfl (fun hg=>Zi Z2b (qR rfl) (haf qM) (qR rfl) qM qM) ?_);refine yg rfl rfl rfl (fun hg=>Z0 Z4g (qR rfl)) ?_;refine yg rfl rfl rfl (fun hg=>Z17 (sz:=3) (i:=i) (j:=1) (enc:=@Cel.cs _ srE) (y:=pf[i]) (u:=.string (S0.from_[i]'hbi).nm) Zr (qR rfl) qI (haf qM) (List.getElem?_eq_getElem (by omega:i<pf.length)) qM (by rw[hcy];rfl)) ?_;refine yg rfl rfl rfl (fun hg=>Z0 Z13 (.inl rfl)) (yg rfl rfl rfl (fun hg=>Z5 Z11 (qR rfl) rfl) ?_);refine yg rfl rfl rfl (fun hg=>Z1 (.inl rfl)) (yg rfl rfl rfl (fun hg=>Zi Z2b (qR rfl) (hafz qM) (qR rfl) qM qM) ?_);refine yg rfl rfl rfl (fun hg=>Z0 Z4g (qR rfl)) ?_;refine yg rfl rfl rfl (fun hg=>Z17 (sz:=3) (i:=i) (j:=1) (enc:=@Cel.cs _ srE) (y:=pfz[i]) (u:=.string (S0.from_[i]'hbi).nm) Zr (qR rfl) qI (hafz qM) (List.getElem?_eq_getElem (by omega:i<pfz.length)) qM (by rw[hcyz];rfl)) ?_;refine yg rfl rfl rfl (fun hg=>Z4x (qR rfl) (qR rfl)) ?_;refine yz (Zw rfl rfl rfl id) (yz (Z1 rfl) (yg rfl rfl rfl (fun hg=>Z0 Z13 (.inl rfl)) (yg rfl rfl rfl (fun hg=>Z5 Z11 (qR rfl) rfl) ?_)));refine yg rfl rfl rfl (fun hg=>Z1 (.inl rfl)) (yg rfl rfl rfl (fun hg=>Zi Z2b (qR rfl) (haf qM) (qR rfl) qM qM) ?_);refine yg rfl rfl rfl (fun hg=>Z0 Z2V (qR rfl)) ?_;refine yg rfl rfl rfl (fun hg=>Z17 (sz:=3) (i:=i) (j:=2) (enc:=@Cel.cs _ srE) (y:=pf[i]) (u:=.slice ay (S0.from_[i]'hbi).on.length cy) ZB (qR rfl) qI (haf qM) (List.getElem?_eq_getElem (by omega:i<pf.length)) qM (by rw[hcy];rfl)) ?_;refine yg rfl rfl rfl (fun hg=>ZD Zs (qR rfl)) ?_;refine yg rfl rfl rfl (fun hg=>Z0 Z13 (.inl rfl)) (yg rfl rfl rfl (fun hg=>Z5 Z11 (qR rfl) rfl) ?_);refine yg rfl rfl rfl (fun hg=>Z1 (.inl rfl)) (yg rfl rfl rfl (fun hg=>Zi Z2b (qR rfl) (hafz qM) (qR rfl) qM qM) ?_);refine yg rfl rfl rfl (fun hg=>Z0 Z2V (qR rfl)) ?_;refine yg rfl rfl rfl (fun hg=>Z17 (sz:=3) (i:=i) (j:=2) (enc:=@Cel.cs _ srE) (y:=pfz[i]) (u:=.slice ayz (S0.from_[i]'hbi).on.length cyz) ZB (qR rfl) qI (hafz qM) (List.getElem?_eq_getElem (by omega:i<pfz.length)) qM (by rw[hcyz];rfl)) ?_;refine yg rfl rfl rfl (fun hg=>ZD Zs (qR rfl)) ?_;refine yg rfl rfl rfl (fun hg=>Z28 (qR rfl) (qR rfl)) ?_;refine yz (Zw rfl rfl rfl id) ?_;apply yn;refine FinS.nil0 ?_;refine vS [2,3,9,138] ?_;refine yC rfl (fun ht138=>?_) (fun ht138=>?_);refine vQ ?_;refine Ja rfl (vS [4] ?_);refine vR ?_;exact JX.ret1is rfl rfl (by exact absurd ht138 (by simp[seq]));apply yK;refine vN ?_;apply yN;refine Jm rfl (Jq (Zv (cc:=((i+1:Nat):Int)) rfl rfl qM qM qM) ?_);refine Ja rfl ?_;apply yI
 repeat refine JX.normal_block ?_
 refine JX.roundS (i+1) ?_ ?_ [2,3,9] ?_ ?_ ?_
 · exact qM
 · exact qM
 · exact qS
 · exact qB
 · exact qB
 try simp only[yd,yf]at ht91
 repeat apply yQ
 refine J.exit ?_
 repeat first|refine yH ?_|refine yM rfl ?_|refine yE ?_
 refine vN ?_;apply yN;refine Ja rfl (vS [2,3,10] ?_);apply yk
 repeat apply yQ
 refine J.loopF (α:=Nat) (fun k=>[(2,_),(3,_),(10,.is (.int .i64 (k:Nat)))]) (fun k=>k<=lo) (fun k=>lo-k) 0 [2,3,10] (.cons rfl (.cons rfl (.cons rfl .nil))) (Nat.zero_le _) fun i hi=>?_;refine vQ ?_;refine Jm rfl (Jq (Z0 Z1F rfl) (Jq (Z5 Z2e rfl rfl) (Jq (ZD Z2I rfl) (Jq (Z10 rfl rfl) (vS [2,3,10,143] ?_)))));refine yC rfl (fun ht143=>?_) (fun ht143=>?_)
 try simp only[yd,yf]at ht143
 apply yK;refine vN ?_;apply yk;have hbi:i<S0.order.length:=by omega
 repeat apply yQ
 refine J.reg0 hmx qK qK ?_;refine yz (Z0 Z1F rfl) (yz (Z5 Z2e rfl rfl) (yz (Z1 rfl) (yz (Zi Z55 rfl (hao qM) rfl qM qM) ?_)));refine yz (Z0 Z5E rfl) ?_;refine yz (Z17 (sz:=9) (i:=i) (j:=8) (enc:=@Cel.cs _ kyE) (y:=po[i]) (u:=.bool (S0.order[i]'hbi).desc) Z1O rfl qI (hao qM) (List.getElem?_eq_getElem (by omega:i<po.length)) qM (Ze2 puo hpo qM qM)) ?_;refine yz (Z0 Z1F rfl) (yz (Z5 Z2e rfl rfl) (yz (Z1 rfl) (yz (Zi Z55 rfl (haoz qM) rfl qM qM) ?_)));refine yz (Z0 Z5E rfl) ?_;refine yz (Z17 (sz:=9) (i:=i) (j:=8) (enc:=@Cel.cs _ kyE) (y:=poz[i]) (u:=.bool (S0.order[i]'hbi).desc) Z1O rfl qI (haoz qM) (List.getElem?_eq_getElem (by omega:i<poz.length)) qM (Ze2 puoz hpoz qM qM)) ?_;refine yz (Zb4 Zb5 rfl rfl) ?_;apply yn;refine FinS.nil0 ?_;refine vS [2,3,10,158] ?_;refine yC rfl (fun ht158=>?_) (fun ht158=>?_);refine vQ ?_;refine Ja rfl (vS [4] ?_);refine vR ?_;exact JX.ret1is rfl rfl (by exact absurd ht158 (by simp));apply yK;refine vN ?_;apply yN;refine Jm rfl (Jq (Zv (cc:=((i+1:Nat):Int)) rfl rfl qM qM qM) ?_);refine Ja rfl ?_;apply yI
 repeat refine JX.normal_block ?_
 refine JX.roundS (i+1) ?_ ?_ [2,3,10] ?_ ?_ ?_
 · exact qM
 · exact qM
 · exact qS
 · exact qB
 · exact qB
 try simp only[yd,yf]at ht143
 repeat apply yQ
 refine J.exit ?_
 repeat first|refine yH ?_|refine yM rfl ?_|refine yE ?_
 refine vN ?_;apply yN;refine Ja rfl (vS [4] ?_);refine vR ?_;exact JX.ret1is rfl rfl (rfl)
set_option maxHeartbeats 4000000 in
theorem ZcJ(N N2:Nat)(S0:Pz.St)(hsm:SmS S0)(hec: ∀x∈exsOf S0,ect x<=4096):CallTy Tryz.prog Zd6 [.rep (StR N S0),.rep (StR N2 S0)] (.is (.bool true)):=
 CallTy.of (fn:=Tryz.f15) Tryz.func15 (n:=120) rfl rfl rfl (fun _ _=>by kernel_rfl) fun E W=>by
 refine J.openSt (s:=0) rfl (fun vc vn vr vi vf vw vg vo vs=>?_);refine J.shapeE (xs:=S0.cols) (v:=vc) qI (fun pc ac lc cc bc oc hpc hvc hlc hac=>?_);refine J.shapeE (xs:=S0.names) (v:=vn) qI (fun pn an ln cn bn on hpn hvn hln han=>?_);refine J.shapeE (xs:=S0.rows) (v:=vr) qI (fun pr ar lr cr br or_ hpr hvr hlr har=>?_);refine J.shapeE (xs:=S0.items) (v:=vi) qI (fun pi ai li ci bi oi hpi hvi hli hai=>?_);refine J.shapeE (xs:=S0.from_) (v:=vf) qI (fun pf af lf cf bf of_ hpf hvf hlf haf=>?_);refine J.shapeE (xs:=S0.order) (v:=vo) qI (fun po ao lo co bo oo hpo hvo hlo hao=>?_);refine J.shapeE (xs:=S0.where_) (v:=vw) qI (fun pw aw lw cw bw ow hpw hvw hlw haw=>?_);refine J.shapeX (xs:=S0.group) (v:=vg) qI (fun pg ag lg cg bg og hpg hvg hlg hag=>?_);refine J.shapeX (xs:=S0.sets) (v:=vs) qI (fun px ax lx cx bx ox hpx hvx hlx hax=>?_);subst hvc hvn hvr hvi hvf hvo hvw hvg hvx;have nc:lc=S0.cols.length:=by rw[<-hlc,<-hpc,List.length_map]
 have nn:ln=S0.names.length:=by rw[<-hln,<-hpn,List.length_map]
 have nr:lr=S0.rows.length:=by rw[<-hlr,<-hpr,List.length_map]
 have ni:li=S0.items.length:=by rw[<-hli,<-hpi,List.length_map]
 have nf:lf=S0.from_.length:=by rw[<-hlf,<-hpf,List.length_map]
 have no:lo=S0.order.length:=by rw[<-hlo,<-hpo,List.length_map]
 have nw:lw=S0.where_.length:=by rw[<-hlw,<-hpw,List.length_map]
 have ng:lg=S0.group.length:=by rw[<-hlg,<-hpg,List.length_map]
 refine J.openSt (s:=1) rfl (fun vcz vnz vrz viz vfz vwz vgz voz vsz=>?_);refine J.shapeE (xs:=S0.cols) (v:=vcz) qI (fun pcz acz lcz ccz bcz ocz hpcz hvcz hlcz hacz=>?_);refine J.shapeE (xs:=S0.names) (v:=vnz) qI (fun pnz anz lnz cnz bnz onz hpnz hvnz hlnz hanz=>?_);refine J.shapeE (xs:=S0.rows) (v:=vrz) qI (fun prz arz lrz crz brz orz_ hprz hvrz hlrz harz=>?_);refine J.shapeE (xs:=S0.items) (v:=viz) qI (fun piz aiz liz ciz biz oiz hpiz hviz hliz haiz=>?_);refine J.shapeE (xs:=S0.from_) (v:=vfz) qI (fun pfz afz lfz cfz bfz ofz_ hpfz hvfz hlfz hafz=>?_);refine J.shapeE (xs:=S0.order) (v:=voz) qI (fun poz aoz loz coz boz ooz hpoz hvoz hloz haoz=>?_);refine J.shapeE (xs:=S0.where_) (v:=vwz) qI (fun pwz awz lwz cwz bwz owz hpwz hvwz hlwz hawz=>?_);refine J.shapeX (xs:=S0.group) (v:=vgz) qI (fun pgz agz lgz cgz bgz ogz hpgz hvgz hlgz hagz=>?_);refine J.shapeX (xs:=S0.sets) (v:=vsz) qI (fun pxz axz lxz cxz bxz oxz hpxz hvxz hlxz haxz=>?_);subst hvcz hvnz hvrz hviz hvfz hvoz hvwz hvgz hvxz;have ncz:lcz=S0.cols.length:=by rw[<-hlcz,<-hpcz,List.length_map]
 have nnz:lnz=S0.names.length:=by rw[<-hlnz,<-hpnz,List.length_map]
 have nrz:lrz=S0.rows.length:=by rw[<-hlrz,<-hprz,List.length_map]
 have niz:liz=S0.items.length:=by rw[<-hliz,<-hpiz,List.length_map]
 have nfz:lfz=S0.from_.length:=by rw[<-hlfz,<-hpfz,List.length_map]
 have noz:loz=S0.order.length:=by rw[<-hloz,<-hpoz,List.length_map]
 have nwz:lwz=S0.where_.length:=by rw[<-hlwz,<-hpwz,List.length_map]
 have ngz:lgz=S0.group.length:=by rw[<-hlgz,<-hpgz,List.length_map]
 refine vQ ?_;refine JO.box rfl rfl fun b2=>(JO.box rfl rfl fun b3=>(Ja rfl (vS [2,3] ?_)));refine J.reg0 hmx qK qK ?_;refine yz (Z0 Z2r rfl) (yz (Z5 Zx rfl rfl) (yz (Z0 Z2r rfl) (yz (Z5 Zx rfl rfl) (yz (Z28 rfl rfl) (yz (Z1 rfl) (yg rfl rfl rfl (fun hg=>Z0 Z32 (.inl rfl)) (yg rfl rfl rfl (fun hg=>Z5 Zr (qR rfl) rfl) ?_)))))));refine yg rfl rfl rfl (fun hg=>Z0 Z32 (.inl rfl)) (yg rfl rfl rfl (fun hg=>Z5 Zr (qR rfl) rfl) ?_);refine yg rfl rfl rfl (fun hg=>Z4x (qR rfl) (qR rfl)) ?_;refine yz (Zw rfl rfl rfl id) (yz (Z1 rfl) (yg rfl rfl rfl (fun hg=>Z0 Z53 (.inl rfl)) (yg rfl rfl rfl (fun hg=>Z5 Zr (qR rfl) rfl) ?_)));refine yg rfl rfl rfl (fun hg=>Z0 Z53 (.inl rfl)) (yg rfl rfl rfl (fun hg=>Z5 Zr (qR rfl) rfl) ?_);refine yg rfl rfl rfl (fun hg=>Z4x (qR rfl) (qR rfl)) ?_;refine yz (Zw rfl rfl rfl id) (yz (Z1 rfl) (yg rfl rfl rfl (fun hg=>Z0 Z3O (.inl rfl)) (yg rfl rfl rfl (fun hg=>Z5 Zx (qR rfl) rfl) ?_)));refine yg rfl rfl rfl (fun hg=>Z0 Z3O (.inl rfl)) (yg rfl rfl rfl (fun hg=>Z5 Zx (qR rfl) rfl) ?_);refine yg rfl rfl rfl (fun hg=>Z28 (qR rfl) (qR rfl)) ?_;refine yz (Zw rfl rfl rfl id) (yz (Z1 rfl) (yg rfl rfl rfl (fun hg=>Z0 Z4z (.inl rfl)) (yg rfl rfl rfl (fun hg=>Z5 Z1O (qR rfl) rfl) ?_)));refine yg rfl rfl rfl (fun hg=>Z0 Z4z (.inl rfl)) (yg rfl rfl rfl (fun hg=>Z5 Z1O (qR rfl) rfl) ?_);refine yg rfl rfl rfl (fun hg=>Zb4 Zb5 (qR rfl) (qR rfl)) ?_;refine yz (Zw rfl rfl rfl id) (yz (Z1 rfl) (yg rfl rfl rfl (fun hg=>Z0 Z2s (.inl rfl)) (yg rfl rfl rfl (fun hg=>Z5 Z2u (qR rfl) rfl) ?_)));refine yg rfl rfl rfl (fun hg=>ZD Z2M (qR rfl)) ?_;refine yg rfl rfl rfl (fun hg=>Z0 Z2s (.inl rfl)) (yg rfl rfl rfl (fun hg=>Z5 Z2u (qR rfl) rfl) ?_);refine yg rfl rfl rfl (fun hg=>ZD Z2M (qR rfl)) ?_;refine yg rfl rfl rfl (fun hg=>Z28 (qR rfl) (qR rfl)) ?_;refine yz (Zw rfl rfl rfl id) (yz (Z1 rfl) (yg rfl rfl rfl (fun hg=>Z0 Z1k (.inl rfl)) (yg rfl rfl rfl (fun hg=>Z5 Z2n (qR rfl) rfl) ?_)));refine yg rfl rfl rfl (fun hg=>ZD Z1K (qR rfl)) ?_;refine yg rfl rfl rfl (fun hg=>Z0 Z1k (.inl rfl)) (yg rfl rfl rfl (fun hg=>Z5 Z2n (qR rfl) rfl) ?_);refine yg rfl rfl rfl (fun hg=>ZD Z1K (qR rfl)) ?_;refine yg rfl rfl rfl (fun hg=>Z28 (qR rfl) (qR rfl)) ?_;refine yz (Zw rfl rfl rfl id) (yz (Z1 rfl) (yg rfl rfl rfl (fun hg=>Z0 Z1G (.inl rfl)) (yg rfl rfl rfl (fun hg=>Z5 Z1D (qR rfl) rfl) ?_)));refine yg rfl rfl rfl (fun hg=>ZD Z1P (qR rfl)) ?_;refine yg rfl rfl rfl (fun hg=>Z0 Z1G (.inl rfl)) (yg rfl rfl rfl (fun hg=>Z5 Z1D (qR rfl) rfl) ?_);refine yg rfl rfl rfl (fun hg=>ZD Z1P (qR rfl)) ?_;refine yg rfl rfl rfl (fun hg=>Z28 (qR rfl) (qR rfl)) ?_;refine yz (Zw rfl rfl rfl id) (yz (Z1 rfl) (yg rfl rfl rfl (fun hg=>Z0 Z1y (.inl rfl)) (yg rfl rfl rfl (fun hg=>Z5 Z1H (qR rfl) rfl) ?_)));refine yg rfl rfl rfl (fun hg=>ZD Z2i (qR rfl)) ?_;refine yg rfl rfl rfl (fun hg=>Z0 Z1y (.inl rfl)) (yg rfl rfl rfl (fun hg=>Z5 Z1H (qR rfl) rfl) ?_);refine yg rfl rfl rfl (fun hg=>ZD Z2i (qR rfl)) ?_;refine yg rfl rfl rfl (fun hg=>Z28 (qR rfl) (qR rfl)) ?_;refine yz (Zw rfl rfl rfl id) (yz (Z1 rfl) (yg rfl rfl rfl (fun hg=>Z0 Z13 (.inl rfl)) (yg rfl rfl rfl (fun hg=>Z5 Z11 (qR rfl) rfl) ?_)));refine yg rfl rfl rfl (fun hg=>ZD Z1N (qR rfl)) ?_;refine yg rfl rfl rfl (fun hg=>Z0 Z13 (.inl rfl)) (yg rfl rfl rfl (fun hg=>Z5 Z11 (qR rfl) rfl) ?_);refine yg rfl rfl rfl (fun hg=>ZD Z1N (qR rfl)) ?_;refine yg rfl rfl rfl (fun hg=>Z28 (qR rfl) (qR rfl)) ?_;refine yz (Zw rfl rfl rfl id) (yz (Z1 rfl) (yg rfl rfl rfl (fun hg=>Z0 Z1F (.inl rfl)) (yg rfl rfl rfl (fun hg=>Z5 Z2e (qR rfl) rfl) ?_)));refine yg rfl rfl rfl (fun hg=>ZD Z2I (qR rfl)) ?_;refine yg rfl rfl rfl (fun hg=>Z0 Z1F (.inl rfl)) (yg rfl rfl rfl (fun hg=>Z5 Z2e (qR rfl) rfl) ?_);refine yg rfl rfl rfl (fun hg=>ZD Z2I (qR rfl)) ?_;refine yg rfl rfl rfl (fun hg=>Z28 (qR rfl) (qR rfl)) ?_;refine yz (Zw rfl rfl rfl id) ?_;apply yn;refine FinS.nil0 ?_;refine vS [2,3,91] ?_;refine yC rfl (fun ht91=>?_) (fun ht91=>?_);refine vQ ?_;refine Ja rfl (vS [4] ?_);refine vR ?_;exact JX.ret1is rfl rfl (by exact absurd ht91 (by simp[seq,nc,ncz,nn,nnz,nr,nrz,ni,niz,nf,nfz,no,noz]));apply yK;refine vN ?_;refine J.reg0 hmx qK qK ?_;refine yz (ZU (cs:=[_,_,_,_,_,_,_,_,_,_,_,_,_,_]) Zj rfl rfl rfl) (yz (ZU (cs:=[_,_,_,_,_,_,_,_,_,_,_,_,_,_]) Zj rfl rfl rfl) (yz (ZN rfl (ZbW N N2 S0 hsm) (.sub rfl (Sub.st rfl fun X w hf w' hk=>⟨hf _ qI w' hk,hf _ qI w' hk,hf _ qI w' hk,hf _ qI w' hk,hf _ qI w' hk,hf _ qI w' hk,hf _ qI w' hk,hf _ qI w' hk,hf _ qI w' hk⟩) (.sub rfl (Sub.st rfl fun X w hf w' hk=>⟨hf _ qI w' hk,hf _ qI w' hk,hf _ qI w' hk,hf _ qI w' hk,hf _ qI w' hk,hf _ qI w' hk,hf _ qI w' hk,hf _ qI w' hk,hf _ qI w' hk⟩) .nil))) ?_));refine yz (Z1 rfl) (yg rfl rfl rfl (fun hg=>Z0 Z26 (.inl rfl)) (yg rfl rfl rfl (fun hg=>Z5 ZB (qR rfl) rfl) ?_));refine yg rfl rfl rfl (fun hg=>ZD Zs (qR rfl)) ?_;refine yg rfl rfl rfl (fun hg=>Z0 Z26 (.inl rfl)) (yg rfl rfl rfl (fun hg=>Z5 ZB (qR rfl) rfl) ?_);refine yg rfl rfl rfl (fun hg=>ZD Zs (qR rfl)) ?_;refine yg rfl rfl rfl (fun hg=>ZP (qR rfl) (qR rfl)) ?_;refine yz (Zl rfl rfl rfl id) (yz (Z1 rfl) (yg rfl rfl rfl (fun hg=>Z0 Z3w (.inl rfl)) (yg rfl rfl rfl (fun hg=>Z5 ZB (qR rfl) rfl) ?_)));refine yg rfl rfl rfl (fun hg=>ZD Zs (qR rfl)) ?_;refine yg rfl rfl rfl (fun hg=>Z0 Z3w (.inl rfl)) (yg rfl rfl rfl (fun hg=>Z5 ZB (qR rfl) rfl) ?_);refine yg rfl rfl rfl (fun hg=>ZD Zs (qR rfl)) ?_;refine yg rfl rfl rfl (fun hg=>ZP (qR rfl) (qR rfl)) ?_;refine yz (Zl rfl rfl rfl id) (yz (Z1 rfl) (yg rfl rfl rfl (fun hg=>ZU (cs:=[_,_,_,_,_,_,_,_,_,_,_,_,_,_]) Zj (.inl rfl) rfl rfl) (yg rfl rfl rfl (fun hg=>ZN (.inl rfl) (Z7F N S0 hsm) (.sub (qR rfl) (Sub.st rfl fun X w hf w' hk=>⟨hf _ qI w' hk,hf _ qI w' hk,hf _ qI w' hk,hf _ qI w' hk,hf _ qI w' hk,hf _ qI w' hk,hf _ qI w' hk,hf _ qI w' hk,hf _ qI w' hk⟩) .nil)) ?_)));refine yg rfl rfl rfl (fun hg=>ZU (cs:=[_,_,_,_,_,_,_,_,_,_,_,_,_,_]) Zj (.inl rfl) rfl rfl) (yg rfl rfl rfl (fun hg=>ZN (.inl rfl) (Z7F N2 S0 hsm) (.sub (qR rfl) (Sub.st rfl fun X w hf w' hk=>⟨hf _ qI w' hk,hf _ qI w' hk,hf _ qI w' hk,hf _ qI w' hk,hf _ qI w' hk,hf _ qI w' hk,hf _ qI w' hk,hf _ qI w' hk,hf _ qI w' hk⟩) .nil)) ?_);refine yg rfl rfl rfl (fun hg=>ZN (.inl rfl) (Z6x (exsOf S0) (Zbz hsm) (fun x hx=>Z75 4096 x (hec x hx) (hec x hx))) (.one (qR rfl) (.one (qR rfl) .nil))) ?_;refine yz (Zl rfl rfl rfl id) (yz (Z2l rfl) ?_);apply yn;refine FinS.nil0 ?_;refine vS [4] ?_;refine vR ?_;exact JX.ret1is rfl rfl (by simp[nw,nwz,ng,ngz])
end Go.Proofs.YtbedigkncjbggaaGreatDoor
set_option maxRecDepth 20000
namespace Go.Proofs.YtbedigkncjbggaaGreatDoor
open Go Go.Vc
abbrev sv(s:ByteArray)(i:Nat):Value:=.agg #[.string s,.int .i64 (i:Int)]
def or32(c:Int):Int:=IntKind.u8.wrap (BitVec.ofInt IntKind.u8.bits c|||BitVec.ofInt IntKind.u8.bits 32).toNat
def letterF(c:Int):Bool:=(c==95)||(decide (97<=or32 c)&&decide (or32 c<=122))
def digitF(c:Int):Bool:=decide (48<=c)&&decide (c<=57)
def letB(b:UInt8):Bool:=letterF b.toNat
def digB(b:UInt8):Bool:=digitF b.toNat
def wordB(b:UInt8):Bool:=letB b||digB b
def isSp(b:UInt8):Bool:=decide (0<=Lib.indexByte [32,9,10,13] b)
def runN(p:UInt8->Bool):List UInt8->Nat
 |[]=>0
 |b::l=>if p b then runN p l+1 else 0
theorem Z9X(p:UInt8->Bool): ∀l:List UInt8,runN p l<=l.length
 |[]=>Nat.le_refl _
 |b::l=>by
   have:=Z9X p l;unfold runN
   split<;>simp<;>omega
theorem Z5U{p:UInt8->Bool}{s:ByteArray}{i:Nat}(h:i<s.size->p (by_ s i)=false):runN p (dr s i)=0:=by
 by_cases hi:i<s.size
 · rw[Z1t hi,runN,if_neg (by rw[h hi];simp)]
 · rw[Z4Y qM];rfl
theorem Z6Y{p:UInt8->Bool}{s:ByteArray}{i:Nat}(hi:i<s.size)(h:p (by_ s i)=true):runN p (dr s i)=runN p (dr s (i+1))+1:=by
 rw[Z1t hi,runN,if_pos h]
theorem Z9L{p:UInt8->Bool}{s:ByteArray}{i:Nat}(hi:i<=s.size):i+runN p (dr s i)<=s.size:=by
 have:=Z9X p (dr s i);rw[Z4Q]at this
 omega
theorem ZgK(s:ByteArray)(i:Nat):(sb s i).toNat.toUInt8=by_ s i:=by
 rw[ZiB]
 simp
def kwB:ByteArray:=⟨#[32,65,78,68,32,65,83,32,65,83,67,32,66,69,71,73,78,32,66,79,79,76,32,66,89,32,67,79,77,77,73,84,32,67,79,85,78,84,32,67,82,69,65,84,69,32,68,69,76,69,84,69,32,68,69,83,67,32,70,65,76,83,69,32,70,82,79,77,32,71,82,79,85,80,32,72,65,83,72,32,73,78,68,69,88,32,73,78,78,69,82,32,73,78,83,69,82,84,32,73,78,84,32,73,78,84,79,32,73,83,32,74,79,73,78,32,75,69,89,32,76,73,77,73,84,32,77,65,88,32,77,73,78,32,78,79,84,32,78,85,76,76,32,79,78,32,79,82,32,79,82,68,69,82,32,80,82,73,77,65,82,89,32,82,79,76,76,66,65,67,75,32,83,69,76,69,67,84,32,83,69,84,32,83,85,77,32,84,65,66,76,69,32,84,69,88,84,32,84,82,85,69,32,85,78,73,81,85,69,32,85,80,68,65,84,69,32,85,83,73,78,71,32,86,65,76,85,69,83,32,87,72,69,82,69,32]⟩
def sgB:ByteArray:=⟨#[32,60,62,32,60,61,32,62,61,32,40,32,41,32,44,32,59,32,42,32,43,32,45,32,47,32,37,32,61,32,60,32,62,32,46,32]⟩
abbrev sp1:ByteArray:=⟨#[32]⟩
abbrev bl(l:List UInt8):ByteArray:=⟨l.toArray⟩
theorem Z8w(l:List UInt8):(bl l).size=l.length:=by show l.toArray.size=_;simp
theorem Z4D(l:List UInt8):(bl l).data.toList=l:=by simp
theorem ZiP(s:ByteArray):bl s.data.toList=s:=by cases s;simp
theorem ZcA(s:ByteArray)(n k:Nat):s.extract n (n+k)=bl ((dr s n).take k):=by
 rw[<-Z1o,ZiP]
theorem Zdk(a b:ByteArray):(a++b).data.toList=a.data.toList++b.data.toList:=by
 rw[ByteArray.data_append,Array.toList_append]
def padL(l:List UInt8):List UInt8:=32::l++[32]
theorem Z6Q(a:ByteArray):((sp1++a)++sp1).data.toList=padL a.data.toList:=by
 rw[Zdk,Zdk];rfl
def wordL(w:List UInt8):T3×Int:=
 if Lib.contains kwB.data.toList (padL (Lib.toUpperA w))then(⟨1,bl (Lib.toUpperA w),0⟩,0)
 else if decide (32<(w.length:Int))then(t3D,30)else(⟨2,bl (Lib.toLowerA w),0⟩,0)
def numStep(a:Int×Int)(b:UInt8):Int×Int:=
 (IntKind.i64.wrap (IntKind.i64.wrap (10*a.1)+IntKind.i64.wrap (IntKind.u8.wrap ((b.toNat:Int)-48))),
  if decide ((IntKind.i64.wrap ((IntKind.i64.wrap (9223372036854775807-IntKind.i64.wrap (IntKind.u8.wrap ((b.toNat:Int)-48)))).tdiv 10))<a.1)then 35 else a.2)
def headP(p:UInt8->Bool):List UInt8->Bool
 |[]=>false
 |b::_=>p b
def numE(l:List UInt8):Int:=if headP letB (l.drop (runN digB l))then 30 else((l.take (runN digB l)).foldl numStep (0,0)).2
def numL(l:List UInt8):T3×Int:=
 if(numE l != 0)then(t3D,numE l)else(⟨3,⟨#[]⟩,((l.take (runN digB l)).foldl numStep (0,0)).1⟩,0)
def endT(acc:List UInt8):T3×Int:=if decide (64<(acc.length:Int))then(t3D,30)else(⟨4,bl acc,0⟩,0)
def textL:List UInt8->List UInt8->(T3×Int)×Nat
 |[],_=>((t3D,30),0)
 |[b],acc=>if b==39 then(endT acc,1)else((t3D,30),1)
 |b::c::l,acc=>if b==39 then(if c != 39 then(endT acc,1)else((textL l (acc++[c])).1,(textL l (acc++[c])).2+2))else((textL (c::l) (acc++[b])).1,(textL (c::l) (acc++[b])).2+1)
def tryL(l:List UInt8)(q:Nat):Bool:=decide (q<=l.length)&&Lib.contains sgB.data.toList (padL (l.take q))
def signL(l:List UInt8):(T3×Int)×Nat:=if tryL l 2 then((⟨5,bl (l.take 2),0⟩,0),2)else if tryL l 1 then((⟨5,bl (l.take 1),0⟩,0),1)else((t3D,30),0)
def stepL:List UInt8->(T3×Int)×Nat
 |[]=>((t3D,30),0)
 |b::l=>if letB b then(wordL ((b::l).take (runN wordB (b::l))),runN wordB (b::l))
  else if digB b then(numL (b::l),runN digB (b::l))
  else if b==39 then((textL l []).1,(textL l []).2+1)
  else signL (b::l)
def allG:Nat->List UInt8->List T3×Int
 |0,_=>([],0)
 |f+1,l=>match l.drop (runN isSp l)with
   |[]=>([],0)
   |b::r=>if((stepL (b::r)).1.2 != 0)then([],(stepL (b::r)).1.2)
     else if((allG f ((b::r).drop (stepL (b::r)).2)).2 != 0)then([],(allG f ((b::r).drop (stepL (b::r)).2)).2)
     else((stepL (b::r)).1.1::(allG f ((b::r).drop (stepL (b::r)).2)).1,0)
def lexL(l:List UInt8):List T3×Int:=if decide (2048<(l.length:Int))then([],30)else allG (l.length+1) l
theorem ZdR(w:List UInt8):(Lib.toUpperA w).length=w.length:=by simp[Lib.toUpperA]
theorem ZdQ{a:ByteArray}(h:a.size<=2048):sp1.size+a.size<=9223372036854775807:=by
 have:sp1.size=1:=rfl
 omega
theorem Zep{a:ByteArray}(h:a.size<=2048):(sp1++a).size+sp1.size<=9223372036854775807:=by
 have:sp1.size=1:=rfl;rw[ByteArray.size_append]
 omega
theorem Z4t(s:ByteArray)(n k:Nat):(s.extract n (n+k)).size<=s.size:=by
 rw[ZcA,Z8w,List.length_take,Z4Q]
 omega
theorem ZaZ: ∀n:Nat,n<256->(letterF n||digitF n)=true->n<128:=by decide+kernel
theorem ZeL{b:UInt8}(h:wordB b=true):b.toNat<128:=ZaZ b.toNat b.toNat_lt h
theorem Z9Z(p:UInt8->Bool): ∀l:List UInt8,∀b∈l.take (runN p l),p b=true
 |[],b,h=>by simp[runN]at h
 |c::l,b,h=>by
   unfold runN at h
   by_cases hc:p c=true
   · rw[if_pos hc,List.take_succ_cons]at h
     rcases List.mem_cons.1 h with rfl|h
     · exact hc
     · exact Z9Z p l b h
   · rw[if_neg hc]at h
     simp at h
theorem ZbI(s:ByteArray)(n:Nat): ∀(j:Nat) (b:UInt8),(s.extract n (n+runN wordB (dr s n))).data.toList[j]? =some b->b.toNat<128:=fun j b h=>by
 rw[Z1o]at h;exact ZeL (Z9Z wordB _ b (List.mem_of_getElem? h))
end Go.Proofs.YtbedigkncjbggaaGreatDoor
set_option maxRecDepth 20000
namespace Go.Proofs.YtbedigkncjbggaaGreatDoor
open Go Go.Vc
abbrev AB:UInt8->Ty:=fun b=>.is (.int .u8 b.toNat)
abbrev RBB(p:UInt8->Bool):UInt8->Ty:=fun b=>.is (.bool (p b))
abbrev TT:World->Prop:=fun _=>True
theorem Z3S{a b:Bool}(h:(a&&b)=true):a=true/\b=true:=by simpa using h
theorem Z6N(c:Int):CallTy Tryz.prog Zdo [.is (.int .u8 c)] (.is (.bool (letterF c))):=
 CallTy.of (fn:=Tryz.f98) Tryz.func98 (n:=15) rfl rfl rfl (fun _ _=>by kernel_rfl) fun E W=>by
 refine vQ ?_;refine Ja rfl (vS [0] ?_);refine J.reg0 hmx qK qK ?_;refine yz (Z1 rfl) (yz (ZP rfl rfl) (yz (Z1 rfl) (yg rfl rfl rfl (fun hg=>Z1 (.inl rfl)) (yg rfl rfl rfl (fun hg=>ZgP (qR rfl) (.inl rfl)) ?_))));refine yg rfl rfl rfl (fun hg=>Z47 (qR rfl) (.inl rfl)) ?_;refine yg rfl rfl rfl (fun hg=>Z1 (qR rfl)) ?_;refine RT.gg rfl rfl rfl (fun hg=>(Z1 (.inl rfl))) ?_;refine RT.gg rfl rfl rfl (fun hg=>(ZgP (qR rfl) (.inl rfl))) ?_;refine RT.gg rfl rfl rfl (fun hg=>(Z4s (qR rfl) (.inl rfl))) ?_;refine yg rfl rfl rfl (fun hg=>Zl (qR rfl) (.inl rfl) (.inl rfl) (fun h=>⟨hg,h⟩)) ?_;refine yz (Zw rfl rfl rfl id) (yz (Z2l rfl) ?_);apply yn;refine FinS.nil0 ?_;refine vS [2] ?_;refine vR ?_;exact JX.ret1is rfl rfl (by rfl)
theorem Z7U(c:Int):CallTy Tryz.prog Za8 [.is (.int .u8 c)] (.is (.bool (digitF c))):=
 CallTy.of (fn:=Tryz.f100) Tryz.func100 (n:=9) rfl rfl rfl (fun _ _=>by kernel_rfl) fun E W=>by
 refine vQ ?_;refine Ja rfl (vS [0] ?_);refine J.reg0 hmx qK qK ?_;refine yz (Z1 rfl) (yz (Z47 rfl rfl) (yz (Z1 rfl) (yg rfl rfl rfl (fun hg=>Z1 (.inl rfl)) (yg rfl rfl rfl (fun hg=>Z4s (qR rfl) (.inl rfl)) ?_))));refine yz (Zl rfl rfl rfl id) (yz (Z2l rfl) ?_);apply yn;refine FinS.nil0 ?_;refine vS [2] ?_;refine vR ?_;exact JX.ret1is rfl rfl (by rfl)
theorem Z7I(c:Int):CallTy Tryz.prog Z4R [.is (.int .u8 c)] (.is (.bool (letterF c||digitF c))):=
 CallTy.of (fn:=Tryz.f140) Tryz.func140 (n:=9) rfl rfl rfl (fun _ _=>by kernel_rfl) fun E W=>by
 refine vQ ?_;refine Ja rfl (vS [0] ?_);refine J.reg0 hmx qK qK ?_;refine yz (Z1 rfl) (yz (ZN rfl (Z6N c) qA) ?_);refine yz (Z1 rfl) (yg rfl rfl rfl (fun hg=>Z1 (.inl rfl)) (yg rfl rfl rfl (fun hg=>ZN (.inl rfl) (Z7U c) (.one (qR rfl) .nil)) ?_));refine yz (Zw rfl rfl rfl id) (yz (Z2l rfl) ?_);apply yn;refine FinS.nil0 ?_;refine vS [2] ?_;refine vR ?_;exact JX.ret1is rfl rfl (by rfl)
theorem Zh6:Fn1 Tryz.prog (.func (.func Z4R) ([]:List Value).toArray ([]:List Value).toArray) TT AB (RBB wordB):=
 Fn1.of (TF:=[]) (TC:=[]) (fun b=>Z7I b.toNat) (fun _ _ _=>trivial) (fun _ _ _=>trivial) 0
theorem Zgi:Fn1 Tryz.prog (.func (.func Za8) ([]:List Value).toArray ([]:List Value).toArray) TT AB (RBB digB):=
 Fn1.of (TF:=[]) (TC:=[]) (fun b=>Z7U b.toNat) (fun _ _ _=>trivial) (fun _ _ _=>trivial) 0
theorem Z5m(s:ByteArray)(n:Nat)(hn:n<=s.size)(hs:s.size<=9223372036854775806):CallM Tryz.prog Z8o Z1p (sv s n) [] [] (sv s (n+runN isSp (dr s n))) (.is (.tuple #[])):=
CallM.of (fn:=Tryz.f56) Tryz.func56 (n:=32) rfl rfl rfl (fun _ _=>by kernel_rfl) fun E W b0=>by
 repeat apply yQ
 apply yk
 repeat apply yQ
 refine J.loopG (α:=Nat) (fun i=>[(0,.is (.pointer (some ⟨b0,0,none⟩)))]) (fun i=>[⟨b0,Z1p,.is (sv s i)⟩]) (fun i=>fun _=>True) (fun i=>i<=s.size/\i+runN isSp (dr s i)=n+runN isSp (dr s n)) (fun i=>s.size-i) n [0] (.cons rfl .nil) rfl (fun _=>trivial) ⟨hn,rfl⟩ fun i ⟨hi,hr⟩=>?_
 repeat apply yQ
 refine J.reg0 hmx qK qK ?_;refine yz (Z1 rfl) (yz (Z4 rfl) (yz (Z0 Zn rfl) (yz (Z5 Zx rfl rfl) (yz (Z1 rfl) (yz (Z4 rfl) (yz (Z0 Z12 rfl) (yz (Z5 Zr rfl rfl) (yz (Z1X Zf rfl) (yz (Z10 rfl rfl) (yz (Z1 rfl) (yg rfl rfl rfl (fun hg=>Z1 (.inl rfl)) ?_)))))))))));refine yg rfl rfl rfl (fun hg=>Z4 (qR rfl)) ?_;refine yg rfl rfl rfl (fun hg=>Z0 Z12 (qR rfl)) ?_;refine yg rfl rfl rfl (fun hg=>Z5 Zr (qR rfl) rfl) ?_;refine yg rfl rfl rfl (fun hg=>Z1 (.inl rfl)) (yg rfl rfl rfl (fun hg=>Z4 (qR rfl)) ?_);refine yg rfl rfl rfl (fun hg=>Z0 Zn (qR rfl)) ?_;refine yg rfl rfl rfl (fun hg=>Z5 Zx (qR rfl) rfl) ?_;refine yg rfl rfl rfl (fun hg=>Z1v Zf (qR rfl) (qR rfl) (by have h:=hg;simp only[decide_eq_true_eq]at h;omega) (by have h:=hg;simp only[decide_eq_true_eq]at h;omega)) ?_;refine yg rfl rfl rfl (fun hg=>ZN (.inl rfl) (Z9q ⟨#[32,9,10,13]⟩ (sb s i)) (.one (.inl rfl) (.one (qR rfl) .nil))) ?_;refine yg rfl rfl rfl (fun hg=>Z47 (qR rfl) (.inl rfl)) ?_;refine yz (Zl rfl rfl rfl id) ?_;apply yn;refine FinS.nil0 ?_;refine vS [0,24] ?_;refine yC rfl (fun ht24=>?_) (fun ht24=>?_)
 try simp only[yd,yf]at ht24
 apply yK;refine vN ?_;apply yk;have hlt:i<s.size:=by have h:=(Z3S ht24).1;simp only[decide_eq_true_eq]at h;omega
 refine vQ ?_;refine Jm rfl (Jq (Z4 rfl) (Jq (Z0 Zn rfl) (Jq (Z5 Zx rfl rfl) (Jq (Zv (cc:=((i+1:Nat):Int)) rfl rfl qM qM qM) ?_))));refine Jq (Z4 rfl) (Jq (Z0 Zn rfl) (JO.m (Z9 (cs':=[_,_]) rfl rfl qU rfl rfl rfl rfl Z29) (by rfl) ?_));apply yI
 repeat refine JX.normal_block ?_
 refine JX.roundG (x:=i) (i+1) ?_ ?_ [0] ?_ ?_ ?_ ?_
 · exact⟨by omega,by rw[<-hr,Z6Y qM (Z3S (show(decide ((i:Int)<s.size)&&isSp (by_ s i))=true by rw[<-ZgK];exact ht24)).2];omega⟩
 · exact qM
 · exact qS
 · exact qH
 · exact qG
 · exact fun _ _ _=>fun _ _=>trivial
 try simp only[yd,yf]at ht24
 repeat apply yQ
 refine J.exit ?_
 repeat first|refine yH ?_|refine yM rfl ?_|refine yE ?_
 repeat first|apply yX|apply yB
 exact JX.normal_ret (JX.retM0e rfl HasOwn.mem (by rw[<-hr,Z5U fun h=>by have h2:(decide ((i:Int)<s.size)&&isSp (by_ s i))=false:=(by rw[<-ZgK];exact ht24);simpa [h] using h2];rfl))
theorem Z5J(p:UInt8->Bool)(fv:Value)(hf:Fn1 Tryz.prog fv TT AB (RBB p))(s:ByteArray)(n:Nat)(hn:n<=s.size)(hs:s.size<=9223372036854775806):CallM Tryz.prog Z9v Z1p (sv s n) [] [.rep (FunR fv TT)] (sv s (n+runN p (dr s n))) (.is (.string (s.extract n (n+runN p (dr s n))))):=
CallM.of (fn:=Tryz.f139) Tryz.func139 (n:=50) rfl rfl rfl (fun _ _=>by kernel_rfl) fun E W b0=>by
 refine J.openFun (s:=1) rfl ?_;refine vQ ?_;refine Ja rfl (vP [0,1] ?_);refine Jm rfl (Jq (Z4 rfl) (Jq (Z0 Zn rfl) (Jq (Z5 Zx rfl rfl) (Ja rfl (vS [0,1,5] ?_)))));apply yk
 repeat apply yQ
 refine J.loopG (α:=Nat) (fun i=>[(0,.is (.pointer (some ⟨b0,0,none⟩))),(1,.is fv),(5,.is (.int .i64 (n:Int)))]) (fun i=>[⟨b0,Z1p,.is (sv s i)⟩]) (fun i=>fun _=>True) (fun i=>i<=s.size/\i+runN p (dr s i)=n+runN p (dr s n)) (fun i=>s.size-i) n [0,1,5] (.cons rfl (.cons rfl (.cons rfl .nil))) rfl (fun _=>trivial) ⟨hn,rfl⟩ fun i ⟨hi,hr⟩=>?_
 repeat apply yQ
 refine J.reg0 hmx qK qK ?_;refine yz (Z1 rfl) (yz (Z4 rfl) (yz (Z0 Zn rfl) (yz (Z5 Zx rfl rfl) (yz (Z1 rfl) (yz (Z4 rfl) (yz (Z0 Z12 rfl) (yz (Z5 Zr rfl rfl) (yz (Z1X Zf rfl) (yz (Z10 rfl rfl) (yz (Z1 rfl) (yg rfl rfl rfl (fun hg=>Z1 (.inl rfl)) ?_)))))))))));refine yg rfl rfl rfl (fun hg=>Z1 (.inl rfl)) (yg rfl rfl rfl (fun hg=>Z4 (qR rfl)) ?_);refine yg rfl rfl rfl (fun hg=>Z0 Z12 (qR rfl)) ?_;refine yg rfl rfl rfl (fun hg=>Z5 Zr (qR rfl) rfl) ?_;refine yg rfl rfl rfl (fun hg=>Z1 (.inl rfl)) (yg rfl rfl rfl (fun hg=>Z4 (qR rfl)) ?_);refine yg rfl rfl rfl (fun hg=>Z0 Zn (qR rfl)) ?_;refine yg rfl rfl rfl (fun hg=>Z5 Zx (qR rfl) rfl) ?_;refine yg rfl rfl rfl (fun hg=>Z1v Zf (qR rfl) (qR rfl) (by have h:=hg;simp only[decide_eq_true_eq]at h;omega) (by have h:=hg;simp only[decide_eq_true_eq]at h;omega)) ?_;refine yg rfl rfl rfl (fun hg=>Zgk (by_ s i) (qR rfl) hf qI (qR rfl)) ?_;refine yz (Zl rfl rfl rfl id) ?_;apply yn;refine FinS.nil0 ?_;refine vS [0,1,5,32] ?_;refine yC rfl (fun ht32=>?_) (fun ht32=>?_);apply yK;refine vN ?_;apply yk;have hlt:i<s.size:=by have h:=(Z3S ht32).1;simp only[decide_eq_true_eq]at h;omega
 refine vQ ?_;refine Jm rfl (Jq (Z4 rfl) (Jq (Z0 Zn rfl) (Jq (Z5 Zx rfl rfl) (Jq (Zv (cc:=((i+1:Nat):Int)) rfl rfl qM qM qM) ?_))));refine Jq (Z4 rfl) (Jq (Z0 Zn rfl) (JO.m (Z9 (cs':=[_,_]) rfl rfl qU rfl rfl rfl rfl Z29) (by rfl) ?_));apply yI
 repeat refine JX.normal_block ?_
 refine JX.roundG (x:=i) (i+1) ?_ ?_ [0,1,5] ?_ ?_ ?_ ?_
 · exact⟨by omega,by rw[<-hr,Z6Y qM (Z3S (show(decide ((i:Int)<s.size)&&p (by_ s i))=true from ht32)).2];omega⟩
 · exact qM
 · exact qS
 · exact qH
 · exact qG
 · exact fun _ _ _=>fun _ _=>trivial
 repeat apply yQ
 refine J.exit ?_
 repeat first|refine yH ?_|refine yM rfl ?_|refine yE ?_
 repeat first|apply yX|apply yB
 have he:i=n+runN p (dr s n):=by rw[<-hr,Z5U fun h=>by have h2:(decide ((i:Int)<s.size)&&p (by_ s i))=false:=ht32;simpa [h] using h2];rfl
 have hni:n<=i:=by omega
 repeat apply yQ
 refine J.reg0 hmx qK qK ?_;refine yz (Z1 rfl) (yz (Z4 rfl) (yz (Z0 Z12 rfl) (yz (Z5 Zr rfl rfl) (yz (Z1 rfl) (yz (Z1 rfl) (yz (Z4 rfl) (yz (Z0 Zn rfl) (yz (Z5 Zx rfl rfl) (yz (Z5l Zf rfl rfl rfl qM qM qM) ?_)))))))));refine yz (Z2l rfl) ?_;apply yn;refine FinS.nil0 ?_;refine vS [4] ?_;refine vR ?_;exact JX.retM1e rfl HasOwn.mem rfl (by rw[he];rfl) (by rw[he])
end Go.Proofs.YtbedigkncjbggaaGreatDoor
