/- Is a statement too deep. No condition. -/
import Derived.Test.YtbedigkncjbggaaDoorXQ6
import Derived.Test.YtbedigkncjbggaaDoorXG7
import Derived.Test.YtbedigkncjbggaaDoorXQ1
import Derived.Test.YtbedigkncjbggaaDoorXG3
set_option maxRecDepth 20000
namespace Go.Proofs.YtbedigkncjbggaaDoor
open Go Go.Vc
open Go.Pz
theorem Z58{α:Type}{xs:List α}{i:Nat}(h:i<xs.length):xs.take (i+1)=xs.take i++[xs[i]]:=by simp
theorem Z8e{a b c d:Value}{k:Nat}(h:k<4):(dvs a b c d)[k]? =some ((dvs a b c d).getD k undef):=by
 rw[List.getD_eq_getElem?_getD,List.getElem?_eq_getElem (by exact h)];rfl
theorem Za1(N b:Nat)(S0:Pz.St)(vc vn vr vi vf vw vg vo vs:Value)(hsm:SmS S0)(hec: ∀x∈exsOf S0,ect x<=4096):CallL Tryd.prog Z9J [⟨b,Zs,.is (stV S0 vc vn vr vi vf vw vg vo vs)⟩] [SlE rwE noS S0.rows vr,SlE itE noS S0.items vi,SlE srE noS S0.from_ vf,SlE exE (FX N) S0.where_ vw,ExsR S0.group vg,SlE kyE noS S0.order vo,ExsR S0.sets vs] [.is (.pointer (some ⟨b,0,none⟩))] (fun _:Unit=>True) (fun _=>[⟨b,Zs,.is (stV S0 vc vn vr vi vf vw vg vo vs)⟩]) (fun _=>.is (.bool (deepS S0))):=
CallL.of (fn:=Tryd.f11) Tryd.func11 (n:=103) rfl rfl rfl (fun _ _=>by kernel_rfl) fun E W hb0=>by
 have hsm0:=hsm;obtain⟨hb1,hb2,hb3,hb4,hb5,hb6,hb7,hb8,hb9,hb10,hb11⟩:=hsm;refine J.shapeE (xs:=S0.rows) (v:=vr) qI (fun pr ar lr cr br or_ hpr hvr hlr har=>?_);refine J.shapeE (xs:=S0.items) (v:=vi) qI (fun pi ai li ci bi oi hpi hvi hli hai=>?_);refine J.shapeE (xs:=S0.from_) (v:=vf) qI (fun pf af lf cf bf of_ hpf hvf hlf haf=>?_);refine J.shapeE (xs:=S0.order) (v:=vo) qI (fun po ao lo co bo oo hpo hvo hlo hao=>?_);refine J.fact (ExsR S0.where_ vw) (fun X w hF _ w' hk=>SlE.exs (hF (SlE exE (FX N) S0.where_ vw) qI w' hk)) ?_;refine J.shapeK (xs:=S0.where_) (v:=vw) qI (fun aw lw cw bw ow hvw hlw haw=>?_);refine J.shapeK (xs:=S0.group) (v:=vg) qI (fun ag lg cg bg og hvg hlg hag=>?_);refine J.shapeK (xs:=S0.sets) (v:=vs) qI (fun ax lx cx bx ox hvx hlx hax=>?_);subst hvr hvi hvf hvo hvw hvg hvx;have nr:pr.length=S0.rows.length:=by rw[<-hpr,List.length_map]
 have ni:pi.length=S0.items.length:=by rw[<-hpi,List.length_map]
 have nf:pf.length=S0.from_.length:=by rw[<-hpf,List.length_map]
 have no:po.length=S0.order.length:=by rw[<-hpo,List.length_map]
 refine vQ ?_;refine Ja rfl (vP [0] ?_);refine Ja rfl (vP [0,3] ?_);refine Jm rfl (Jq (Z3 rfl) (Jq (Z0 Z2u rfl) (Jq (Z5 Z2Y rfl rfl) (Jq (ZS Z2a rfl) (Jm rfl (vS [0,3,19,20,21] ?_))))));apply yk
 repeat apply yQ
 refine J.loopH (α:=List (Cel exE)×Option (Nat×List Value)×Nat×Nat) (fun z=>[(0,.is (.pointer (some ⟨b,0,none⟩))),(3,.is (sliceO z.2.1 z.1.length z.2.2.1)),(19,.is (.slice ar lr cr)),(20,.is (.int .i64 (lr:Nat))),(21,.is (.int .i64 (z.2.2.2:Nat)))]) (fun z=>ownO z.2.1 Z4 [⟨b,Zs,.is (stV S0 vc vn (.slice ar lr cr) (.slice ai li ci) (.slice af lf cf) (.slice aw lw cw) (.slice ag lg cg) (.slice ao lo co) (.slice ax lx cx))⟩]) (fun z=>CelF exE z.1) (fun z=>z.2.2.2<=pr.length/\Grows Cel.cs 8 z.1 z.2.1 z.2.2.1/\z.1.map Cel.x=((pr.take z.2.2.2).map Cel.x).flatten/\z.1.length<=16*z.2.2.2) (fun z=>pr.length-z.2.2.2) ([],none,0,0) [0,3,19,20,21] (.cons rfl (.cons rfl (.cons rfl (.cons rfl (.cons rfl .nil))))) rfl (fun X w hF=>fun w' hk=>CelF.nil w') ⟨Nat.zero_le _,rfl,rfl,Nat.zero_le _⟩ fun⟨qpr,stpr,cappr,i⟩ ⟨hi,hGpr,hmpr,hlpr⟩=>?_;try dsimp only
 try dsimp only at hi
 try dsimp only at hGpr
 try dsimp only at hmpr
 try dsimp only at hlpr
 refine vQ ?_;refine Jq (Z1o rfl rfl) (vS [0,3,19,20,21,22] ?_);refine yC rfl (fun ht22=>?_) (fun ht22=>?_)
 try simp only[yd,yf]at ht22
 apply yK;refine vN ?_;apply yk;refine J.fact (ExsR pr[i].x (hdv pr[i].cs)) (fun X w hF _ w' hk=>Zdd (List.getElem_mem _) (hF (CelF rwE pr) qI w' hk)) ?_;refine J.shapeX (xs:=pr[i].x) (v:=hdv pr[i].cs) qI (fun ps a2 l2 cap0 b2 o2 hps hv2 hl2 ha2=>?_);have hln:ps.length<=16:=by rw[<-List.length_map (f:=Cel.x),hps];exact hb2 _ (by rw[<-hpr];exact List.mem_map_of_mem (List.getElem_mem _))
 refine vQ ?_;refine Jq (Zq Z2Z rfl (har qM) rfl qM qM) ?_;refine Jq (Z1h (sz:=1) (j:=0) (enc:=Cel.cs) (u:=hdv pr[i].cs) ZW rfl qI (har qM) (List.getElem?_eq_getElem (by omega:i<pr.length)) qM (by rw[Ze1];rfl)) ?_;refine Ja rfl (vS [0,3,5,19,20,21] ?_);rw[hv2];refine vQ ?_;refine Jm rfl (Jm rfl ?_);refine JO.apA (ps) Z1S Cel.hlen .here hGpr rfl rfl (fun L=>Zax (a:=a2) (len:=l2) (cap:=cap0) Cel.hlen qD (fun p=>p.o) ZY qI) (by have:=hlpr;(try dsimp only at this);omega) (by have:=hlpr;(try dsimp only at this);omega) rfl (fun st2 cap2 hG2=>?_);refine Ja rfl (vP [0,3,19,20,21] ?_);refine Jq (ZB (cc:=((i+1:Nat):Int)) rfl rfl qM qM qM) ?_;refine Jm rfl ?_;apply yI
 repeat refine JX.normal_block ?_
 refine JX.roundG (x:=(qpr,stpr,cappr,i)) (qpr++ps,st2,cap2,i+1) ?_ ?_ [0,3,19,20,21] ?_ ?_ ?_ ?_
 · exact⟨(by show i+1<=_;omega),hG2,(by show(qpr++ps).map Cel.x=_;rw[List.map_append,hmpr,Z58 qM];simp only[List.map_append,List.map_cons,List.map_nil,List.flatten_append,List.flatten_cons,List.flatten_nil,List.append_nil,List.append_assoc,hps]),(by show(qpr++ps).length<=_;rw[List.length_append];have:=hlpr;have:=hln;(try dsimp only at*);omega)⟩
 · exact(by show pr.length-(i+1)<pr.length-i;omega)
 · exact qS
 · exact qH
 · exact qG
 · exact fun X w hF=>fun w' hk p hp=>(List.mem_append.1 hp).elim (fun hp=>hF (CelF exE qpr) qI w' hk p hp) (fun hp=>hF (CelF exE ps) qI w' hk p hp)
 try simp only[yd,yf]at ht22
 repeat apply yQ
 refine J.exit ?_
 repeat first|refine yH ?_|refine yM rfl ?_|refine yE ?_
 repeat first|apply yX|apply yB
 have hi2:i=pr.length:=by omega
 subst hi2;rw[List.take_length]at hmpr;rw[hpr]at hmpr;refine vQ ?_;refine Jm rfl (Jq (Z3 rfl) (Jq (Z0 Z36 rfl) (Jq (Z5 Z3G rfl rfl) (Jq (ZS Z3y rfl) (Jm rfl (vS [0,3,32,33,34] ?_))))));apply yk
 repeat apply yQ
 refine J.loopH (α:=List (Cel exE)×Option (Nat×List Value)×Nat×Nat) (fun z=>[(0,.is (.pointer (some ⟨b,0,none⟩))),(3,.is (sliceO z.2.1 z.1.length z.2.2.1)),(32,.is (.slice ai li ci)),(33,.is (.int .i64 (li:Nat))),(34,.is (.int .i64 (z.2.2.2:Nat)))]) (fun z=>ownO z.2.1 Z4 [⟨b,Zs,.is (stV S0 vc vn (.slice ar lr cr) (.slice ai li ci) (.slice af lf cf) (.slice aw lw cw) (.slice ag lg cg) (.slice ao lo co) (.slice ax lx cx))⟩]) (fun z=>CelF exE z.1) (fun z=>z.2.2.2<=pi.length/\Grows Cel.cs 8 z.1 z.2.1 z.2.2.1/\z.1.map Cel.x=S0.rows.flatten++(pi.take z.2.2.2).map (·.x.ex)/\z.1.length<=512+z.2.2.2) (fun z=>pi.length-z.2.2.2) (qpr,stpr,cappr,0) [0,3,32,33,34] (.cons rfl (.cons rfl (.cons rfl (.cons rfl (.cons rfl .nil))))) rfl (fun X w hF=>hF _ qI) ⟨Nat.zero_le _,hGpr,(by rw[hmpr];simp),(by show qpr.length<=512+0;have:=hlpr;(try dsimp only at this);omega)⟩ fun⟨qpi,stpi,cappi,i⟩ ⟨hi,hGpi,hmpi,hlpi⟩=>?_;try dsimp only
 try dsimp only at hi
 try dsimp only at hGpi
 try dsimp only at hmpi
 try dsimp only at hlpi
 refine vQ ?_;refine Jq (Z1o rfl rfl) (vS [0,3,32,33,34,35] ?_);refine yC rfl (fun ht35=>?_) (fun ht35=>?_)
 try simp only[yd,yf]at ht35
 apply yK;refine vN ?_;apply yk;obtain⟨u1,q1,hq1,hq2,hq3⟩:=ZdB pi[i];obtain⟨c1,c2,c3,c4,c5,c6,c7,c8,hcs⟩:=cs8 q1;rw[hcs]at hq1;refine J.fact (CelR q1) (fun X w hF _ w' hk=>hq3 pi w' (List.getElem_mem _) (hF (CelF itE pi) qI w' hk)) ?_;refine vQ ?_;refine Jq (Zq Z5X rfl (hai qM) rfl qM qM) ?_;refine Jq (Z3D (sz:=9) (enc:=Cel.cs) (cs:=[u1,c1,c2,c3,c4,c5,c6,c7,c8]) Z5g rfl qI (hai qM) (List.getElem?_eq_getElem (by omega:i<pi.length)) qM hq1) ?_;refine JO.alloc Z7r rfl fun b7=>(JO.m (Z2 rfl rfl qU (by exact ZQ rfl rfl) (by exact ZQ rfl (List.all_eq_true.2 (by have:=pi[i].o;rw[hq1]at this;exact this))) Z5n) (by rfl) ?_);refine vP [0,3,7,32,33,34] ?_;refine Jm rfl (Jq (Z0 Z91 rfl) (Jq (Z18 (cs:=[_,_,_,_,_,_,_,_]) Z7 rfl rfl rfl) (Jq (Z4Z (p:=q1) Z4C ZK rfl qD (by rw[show exE.v q1.cs= .agg #[c1,c2,c3,c4,c5,c6,c7,c8] by rw[hcs];rfl];exact rfl)) ?_)));refine JO.apA ([q1]) Z1S Cel.hlen (.there .here) hGpi rfl rfl (srcE q1 ZY) (by have:=hlpi;(try dsimp only at this);(try simp only[List.length_singleton]);omega) (by have:=hlpi;(try dsimp only at this);(try simp only[List.length_singleton]);omega) rfl (fun st2 cap2 hG2=>?_);refine Ja rfl (vP [0,3,32,33,34] ?_);refine Jq (ZB (cc:=((i+1:Nat):Int)) rfl rfl qM qM qM) ?_;refine Jm rfl ?_;apply yI
 repeat refine JX.normal_block ?_
 refine JX.roundG (x:=(qpi,stpi,cappi,i)) (qpi++[q1],st2,cap2,i+1) ?_ ?_ [0,3,32,33,34] ?_ ?_ ?_ ?_
 · exact⟨(by show i+1<=_;omega),hG2,(by show(qpi++[q1]).map Cel.x=_;rw[List.map_append,hmpi,Z58 qM];simp only[List.map_append,List.map_cons,List.map_nil,List.append_assoc,hq2]),(by show(qpi++[q1]).length<=_;rw[List.length_append];have:=hlpi;have:=(show[q1].length<=1 from Nat.le_refl 1);(try dsimp only at*);omega)⟩
 · exact(by show pi.length-(i+1)<pi.length-i;omega)
 · exact qS
 · exact qH
 · exact qG
 · exact fun X w hF=>fun w' hk p hp=>(List.mem_append.1 hp).elim (fun hp=>hF (CelF exE qpi) qI w' hk p hp) (fun hp=>by rw[List.mem_singleton.1 hp];exact hF (CelR q1) qI w' hk)
 try simp only[yd,yf]at ht35
 repeat apply yQ
 refine J.exit ?_
 repeat first|refine yH ?_|refine yM rfl ?_|refine yE ?_
 repeat first|apply yX|apply yB
 have hi2:i=pi.length:=by omega
 subst hi2;rw[List.take_length]at hmpi;refine vQ ?_;refine Jm rfl (Jq (Z3 rfl) (Jq (Z0 Z1Z rfl) (Jq (Z5 Z2n rfl rfl) (Jq (ZS Z2j rfl) (Jm rfl (vS [0,3,47,48,49] ?_))))));apply yk
 repeat apply yQ
 refine J.loopH (α:=List (Cel exE)×Option (Nat×List Value)×Nat×Nat) (fun z=>[(0,.is (.pointer (some ⟨b,0,none⟩))),(3,.is (sliceO z.2.1 z.1.length z.2.2.1)),(47,.is (.slice af lf cf)),(48,.is (.int .i64 (lf:Nat))),(49,.is (.int .i64 (z.2.2.2:Nat)))]) (fun z=>ownO z.2.1 Z4 [⟨b,Zs,.is (stV S0 vc vn (.slice ar lr cr) (.slice ai li ci) (.slice af lf cf) (.slice aw lw cw) (.slice ag lg cg) (.slice ao lo co) (.slice ax lx cx))⟩]) (fun z=>CelF exE z.1) (fun z=>z.2.2.2<=pf.length/\Grows Cel.cs 8 z.1 z.2.1 z.2.2.1/\z.1.map Cel.x=S0.rows.flatten++S0.items.map (·.ex)++((pf.take z.2.2.2).map (·.x.on)).flatten/\z.1.length<=528+z.2.2.2) (fun z=>pf.length-z.2.2.2) (qpi,stpi,cappi,0) [0,3,47,48,49] (.cons rfl (.cons rfl (.cons rfl (.cons rfl (.cons rfl .nil))))) rfl (fun X w hF=>hF _ qI) ⟨Nat.zero_le _,hGpi,(by rw[hmpi,<-hpi];first|(simp;done)|(simp;rfl)),(by show qpi.length<=528+0;have:=hlpi;(try dsimp only at this);omega)⟩ fun⟨qpf,stpf,cappf,i⟩ ⟨hi,hGpf,hmpf,hlpf⟩=>?_;try dsimp only
 try dsimp only at hi
 try dsimp only at hGpf
 try dsimp only at hmpf
 try dsimp only at hlpf
 refine vQ ?_;refine Jq (Z1o rfl rfl) (vS [0,3,47,48,49,50] ?_);refine yC rfl (fun ht50=>?_) (fun ht50=>?_)
 try simp only[yd,yf]at ht50
 apply yK;refine vN ?_;apply yk;obtain⟨u1,u2,u3,hq1,hq3⟩:=ZdE pf[i];refine J.fact (ExsR pf[i].x.on u3) (fun X w hF _ w' hk=>hq3 pf w' (List.getElem_mem _) (hF (CelF srE pf) qI w' hk)) ?_;refine J.shapeX (xs:=pf[i].x.on) (v:=u3) qI (fun ps a2 l2 cap0 b2 o2 hps hv2 hl2 ha2=>?_);subst hv2;have hln:ps.length<=1:=by rw[<-List.length_map (f:=Cel.x),hps];exact hb5 _ (by rw[<-hpf];exact List.mem_map_of_mem (List.getElem_mem _))
 refine vQ ?_;refine Jq (Zq Z7E rfl (haf qM) rfl qM qM) ?_;refine Jq (Z3D (sz:=3) (enc:=Cel.cs) (cs:=[u1,u2,.slice a2 l2 cap0]) Z22 rfl qI (haf qM) (List.getElem?_eq_getElem (by omega:i<pf.length)) qM hq1) ?_;refine JO.alloc Z37 rfl fun b9=>(JO.m (Z2 rfl rfl qU (by exact ZQ rfl rfl) (by exact ZQ rfl (List.all_eq_true.2 (by have:=pf[i].o;rw[hq1]at this;exact this))) Z2t) (by rfl) ?_);refine vP [0,3,9,47,48,49] ?_;refine Jm rfl (Jq (Z0 Z57 rfl) (Jq (Z5 ZW rfl rfl) ?_));refine JO.apA (ps) Z1S Cel.hlen (.there .here) hGpf rfl rfl (fun L=>Zax (a:=a2) (len:=l2) (cap:=cap0) Cel.hlen qD (fun p=>p.o) ZY qI) (by have:=hlpf;(try dsimp only at this);omega) (by have:=hlpf;(try dsimp only at this);omega) rfl (fun st2 cap2 hG2=>?_);refine Ja rfl (vP [0,3,47,48,49] ?_);refine Jq (ZB (cc:=((i+1:Nat):Int)) rfl rfl qM qM qM) ?_;refine Jm rfl ?_;apply yI
 repeat refine JX.normal_block ?_
 refine JX.roundG (x:=(qpf,stpf,cappf,i)) (qpf++ps,st2,cap2,i+1) ?_ ?_ [0,3,47,48,49] ?_ ?_ ?_ ?_
 · exact⟨(by show i+1<=_;omega),hG2,(by show(qpf++ps).map Cel.x=_;rw[List.map_append,hmpf,Z58 qM];simp only[List.map_append,List.map_cons,List.map_nil,List.flatten_append,List.flatten_cons,List.flatten_nil,List.append_nil,List.append_assoc,hps]),(by show(qpf++ps).length<=_;rw[List.length_append];have:=hlpf;have:=hln;(try dsimp only at*);omega)⟩
 · exact(by show pf.length-(i+1)<pf.length-i;omega)
 · exact qS
 · exact qH
 · exact qG
 · exact fun X w hF=>fun w' hk p hp=>(List.mem_append.1 hp).elim (fun hp=>hF (CelF exE qpf) qI w' hk p hp) (fun hp=>hF (CelF exE ps) qI w' hk p hp)
 try simp only[yd,yf]at ht50
 repeat apply yQ
 refine J.exit ?_
 repeat first|refine yH ?_|refine yM rfl ?_|refine yE ?_
 repeat first|apply yX|apply yB
 have hi2:i=pf.length:=by omega
 subst hi2;rw[List.take_length]at hmpf;refine vQ ?_;refine Jm rfl (Jq (Z3 rfl) (Jq (Z0 Z3K rfl) (Jq (Z5 Z6u rfl rfl) (Jq (ZS Z44 rfl) (Jm rfl (vS [0,3,61,62,63] ?_))))));apply yk
 repeat apply yQ
 refine J.loopH (α:=List (Cel exE)×Option (Nat×List Value)×Nat×Nat) (fun z=>[(0,.is (.pointer (some ⟨b,0,none⟩))),(3,.is (sliceO z.2.1 z.1.length z.2.2.1)),(61,.is (.slice ao lo co)),(62,.is (.int .i64 (lo:Nat))),(63,.is (.int .i64 (z.2.2.2:Nat)))]) (fun z=>ownO z.2.1 Z4 [⟨b,Zs,.is (stV S0 vc vn (.slice ar lr cr) (.slice ai li ci) (.slice af lf cf) (.slice aw lw cw) (.slice ag lg cg) (.slice ao lo co) (.slice ax lx cx))⟩]) (fun z=>CelF exE z.1) (fun z=>z.2.2.2<=po.length/\Grows Cel.cs 8 z.1 z.2.1 z.2.2.1/\z.1.map Cel.x=S0.rows.flatten++S0.items.map (·.ex)++(S0.from_.map (·.on)).flatten++(po.take z.2.2.2).map (·.x.ex)/\z.1.length<=532+z.2.2.2) (fun z=>po.length-z.2.2.2) (qpf,stpf,cappf,0) [0,3,61,62,63] (.cons rfl (.cons rfl (.cons rfl (.cons rfl (.cons rfl .nil))))) rfl (fun X w hF=>hF _ qI) ⟨Nat.zero_le _,hGpf,(by rw[hmpf,<-hpf];first|(simp;done)|(simp;rfl)),(by show qpf.length<=532+0;have:=hlpf;(try dsimp only at this);omega)⟩ fun⟨qpo,stpo,cappo,i⟩ ⟨hi,hGpo,hmpo,hlpo⟩=>?_;try dsimp only
 try dsimp only at hi
 try dsimp only at hGpo
 try dsimp only at hmpo
 try dsimp only at hlpo
 refine vQ ?_;refine Jq (Z1o rfl rfl) (vS [0,3,61,62,63,64] ?_);refine yC rfl (fun ht64=>?_) (fun ht64=>?_)
 try simp only[yd,yf]at ht64
 apply yK;refine vN ?_;apply yk;obtain⟨u1,q1,hq1,hq2,hq3⟩:=Zdy po[i];obtain⟨c1,c2,c3,c4,c5,c6,c7,c8,hcs⟩:=cs8 q1;rw[hcs]at hq1;refine J.fact (CelR q1) (fun X w hF _ w' hk=>hq3 po w' (List.getElem_mem _) (hF (CelF kyE po) qI w' hk)) ?_;refine vQ ?_;refine Jq (Zq Z94 rfl (hao qM) rfl qM qM) ?_;refine Jq (Z3D (sz:=9) (enc:=Cel.cs) (cs:=[c1,c2,c3,c4,c5,c6,c7,c8,u1]) Z3u rfl qI (hao qM) (List.getElem?_eq_getElem (by omega:i<po.length)) qM hq1) ?_;refine JO.alloc Z65 rfl fun b11=>(JO.m (Z2 rfl rfl qU (by exact ZQ rfl rfl) (by exact ZQ rfl (List.all_eq_true.2 (by have:=po[i].o;rw[hq1]at this;exact this))) Z4f) (by rfl) ?_);refine vP [0,3,11,61,62,63] ?_;refine Jm rfl (Jq (Z0 Z9w rfl) (Jq (Z18 (cs:=[_,_,_,_,_,_,_,_]) Z7 rfl rfl rfl) (Jq (Z4Z (p:=q1) Z4C ZK rfl qD (by rw[show exE.v q1.cs= .agg #[c1,c2,c3,c4,c5,c6,c7,c8] by rw[hcs];rfl];exact rfl)) ?_)));refine JO.apA ([q1]) Z1S Cel.hlen (.there .here) hGpo rfl rfl (srcE q1 ZY) (by have:=hlpo;(try dsimp only at this);(try simp only[List.length_singleton]);omega) (by have:=hlpo;(try dsimp only at this);(try simp only[List.length_singleton]);omega) rfl (fun st2 cap2 hG2=>?_);refine Ja rfl (vP [0,3,61,62,63] ?_);refine Jq (ZB (cc:=((i+1:Nat):Int)) rfl rfl qM qM qM) ?_;refine Jm rfl ?_;apply yI
 repeat refine JX.normal_block ?_
 refine JX.roundG (x:=(qpo,stpo,cappo,i)) (qpo++[q1],st2,cap2,i+1) ?_ ?_ [0,3,61,62,63] ?_ ?_ ?_ ?_
 · exact⟨(by show i+1<=_;omega),hG2,(by show(qpo++[q1]).map Cel.x=_;rw[List.map_append,hmpo,Z58 qM];simp only[List.map_append,List.map_cons,List.map_nil,List.append_assoc,hq2]),(by show(qpo++[q1]).length<=_;rw[List.length_append];have:=hlpo;have:=(show[q1].length<=1 from Nat.le_refl 1);(try dsimp only at*);omega)⟩
 · exact(by show po.length-(i+1)<po.length-i;omega)
 · exact qS
 · exact qH
 · exact qG
 · exact fun X w hF=>fun w' hk p hp=>(List.mem_append.1 hp).elim (fun hp=>hF (CelF exE qpo) qI w' hk p hp) (fun hp=>by rw[List.mem_singleton.1 hp];exact hF (CelR q1) qI w' hk)
 try simp only[yd,yf]at ht64
 repeat apply yQ
 refine J.exit ?_
 repeat first|refine yH ?_|refine yM rfl ?_|refine yE ?_
 repeat first|apply yX|apply yB
 have hi2:i=po.length:=by omega
 subst hi2;rw[List.take_length]at hmpo;rw[hGpo.sl.1];refine J.freezeOMW (N:=0) (e:=Z4) (sz:=8) (Nat.zero_le _) Cel.hlen hGpo .here (fun q hq=>⟨_,List.mem_cons_self,(List.mem_singleton.1 hq).symm⟩) rfl rfl ?_;refine J.fact (ExsR (S0.rows.flatten++S0.items.map (·.ex)++(S0.from_.map (·.on)).flatten++S0.order.map (·.ex)) (.slice (adO stpo) qpo.length (capO stpo cappo))) (fun X w hF _ w' hk=>⟨_,_,_,rfl,by rw[show(S0.rows.flatten++S0.items.map (·.ex)++(S0.from_.map (·.on)).flatten++S0.order.map (·.ex))=qpo.map Cel.x from by rw[hmpo,<-hpo];first|(simp;done)|(simp;rfl)];exact Cel.kids (hF (RowG Cel.cs 8 qpo (adO stpo) qpo.length) qI w' hk) (hF (CelF exE qpo) qI w' hk)⟩) ?_
 repeat apply yQ
 refine J.reg0 hmx qK qK ?_;refine yz (Z1 rfl) (yz (Z1 rfl) (yz (Z3 rfl) (yz (Z0 Z2s rfl) (yz (Z5 ZW rfl rfl) (yz (Z1 rfl) (yz (Z3 rfl) (yz (Z0 Z6v rfl) (yz (Z5 ZW rfl rfl) (yz (Z1 rfl) (yz (Z3 rfl) (yz (Z0 Z3N rfl) ?_)))))))))));refine yz (Z5 ZW rfl rfl) (yz (ZD (cs:=[_,_,_,_]) Z49 qM qM (.cons rfl (.cons rfl (.cons rfl (.cons rfl .nil)))) rfl rfl rfl) ?_);refine yz (ZbL Z2a rfl) (yz (Z1 rfl) ?_);apply yn;refine FinS.nil0 ?_;refine vS [86,87,88] ?_;apply yk
 repeat apply yQ
 refine J.openNew (s:=86) rfl (fun b86=>?_);refine J.loopF (α:=Nat) (fun k=>[(86,.is (.slice (some ⟨b86,0,none⟩) 4 4)),(87,.is (.int .i64 ((4:Nat):Int))),(88,.is (.int .i64 (k:Nat)))]) (fun k=>k<=4/\ ∀j,j<k->∀i,i<((deepX S0).getD j []).length->¬32<hgt (((deepX S0).getD j []).getD i ex0)) (fun k=>4-k) 0 [86,87,88] (.cons rfl (.cons rfl (.cons rfl .nil))) ⟨Nat.zero_le _,fun j hj=>absurd hj (Nat.not_lt_zero _)⟩ fun k ⟨hk,hall⟩=>?_;refine vQ ?_;refine Jq (Z1o rfl rfl) (vS [86,87,88,89] ?_);refine yC rfl (fun ht89=>?_) (fun ht89=>?_)
 try simp only[yd,yf]at ht89
 apply yK;refine vN ?_;apply yk;refine vQ ?_;refine Jq (Zq Z2Z rfl rfl rfl qM qM) ?_;refine Jq (Z5O (cs:=(dvs (.slice (adO stpo) qpo.length (capO stpo cappo)) (.slice aw lw cw) (.slice ag lg cg) (.slice ax lx cx))) (u:=(dvs (.slice (adO stpo) qpo.length (capO stpo cappo)) (.slice aw lw cw) (.slice ag lg cg) (.slice ax lx cx)).getD k undef) ZW rfl qI (by first|exact Z8e (k:=k) qM|(rw[show(0+1*k)=k by omega];exact Z8e (k:=k) qM)|(rw[Nat.mul_one,Int.toNat_natCast,Nat.zero_add];exact Z8e (k:=k) qM))) ?_;refine Ja rfl (vS [13,86,87,88] ?_);refine J.shapeK (xs:=((deepX S0).getD k [])) (v:=(dvs (.slice (adO stpo) qpo.length (capO stpo cappo)) (.slice aw lw cw) (.slice ag lg cg) (.slice ax lx cx)).getD k undef) (by
     match k,(show k<4 by omega)with
     |0,_=>exact qI
     |1,_=>exact qI
     |2,_=>exact qI
     |3,_=>exact qI) (fun a l2 cap2 b2 o2 hv hlk ha=>?_)
 have hl3:=Zbc hsm0 k;rw[hv];refine vQ ?_;refine Jm rfl (Jq (ZS ZY rfl) (Jm rfl (vS [86,87,88,92,93,94] ?_)));apply yk
 repeat apply yQ
 refine J.loopF (α:=Nat) (fun i=>[(86,_),(87,_),(88,_),(92,_),(93,_),(94,.is (.int .i64 (i:Nat)))]) (fun i=>i<=l2/\ ∀j,j<i->¬32<hgt (((deepX S0).getD k []).getD j ex0)) (fun i=>l2-i) 0 [86,87,88,92,93,94] (.cons rfl (.cons rfl (.cons rfl (.cons rfl (.cons rfl (.cons rfl .nil)))))) ⟨Nat.zero_le _,fun j hj=>absurd hj (Nat.not_lt_zero _)⟩ fun i ⟨hi,hin⟩=>?_;refine vQ ?_;refine Jq (Z1o rfl rfl) (vS [86,87,88,92,93,94,95] ?_);refine yC rfl (fun ht95=>?_) (fun ht95=>?_)
 try simp only[yd,yf]at ht95
 apply yK;refine vN ?_;apply yk;refine vQ ?_;refine Jq (Zq Z2R rfl (ha qM) rfl qM qM) ?_;refine Jq (Z85 (kid:=((deepX S0).getD k []).getD i ex0) Z7 rfl qI (ha qM) (Z9j qM) qM) ?_;refine JO.alloc ZM rfl fun b15=>(JO.m (Z2 rfl rfl qU qC qO Zf) (by rfl) ?_);refine vP [15,86,87,88,92,93,94] ?_;refine Jq (Z21 Z7 rfl) (Jq (ZV rfl (Z5v 4096 (((deepX S0).getD k []).getD i ex0) (hec _ (Z6L (Z7M qM))) (hec _ (Z6L (Z7M qM)))) (.one rfl .nil)) ?_);refine Jq (Z1U rfl rfl) (vS [86,87,88,92,93,94,100] ?_);refine yC rfl (fun ht100=>?_) (fun ht100=>?_)
 try simp only[yd,yf]at ht100
 refine vQ ?_;refine Ja rfl (vS [2] ?_);refine vR ?_;exact JX.retL1 (Lr:=[_]) rfl () trivial (.swap _ _ _) rfl rfl hb0 rfl (Sub.isEq (by rw[ZbZ (s:=S0) (k:=k) (i:=i) qM qM]))
 try simp only[yd,yf]at ht100
 apply yK;refine vN ?_;apply yN;refine Jq (ZB (cc:=((i+1:Nat):Int)) rfl rfl qM qM qM) ?_;refine Jm rfl ?_;apply yI
 repeat refine JX.normal_block ?_
 refine JX.roundS (i+1) ?_ ?_ [86,87,88,92,93,94] ?_ ?_ ?_
 · exact⟨by omega,fun j hj=>if h:j=i then by subst h;omega else hin j qM⟩
 · exact qM
 · exact qS
 · exact qB
 · exact qB
 try simp only[yd,yf]at ht95
 repeat apply yQ
 refine J.exit ?_
 repeat first|refine yH ?_|refine yM rfl ?_|refine yE ?_
 refine vN ?_;apply yN;refine Jq (ZB (cc:=((k+1:Nat):Int)) rfl rfl qM qM qM) ?_;refine Jm rfl ?_;apply yI
 repeat refine JX.normal_block ?_
 refine JX.roundS (k+1) ?_ ?_ [86,87,88] ?_ ?_ ?_
 · exact⟨by omega,fun j hj=>if h:j=k then by subst h;intro i2 hi2;exact hin i2 qM else hall j qM⟩
 · exact qM
 · exact qS
 · exact qB
 · exact qB
 try simp only[yd,yf]at ht89
 repeat apply yQ
 refine J.exit ?_
 repeat first|refine yH ?_|refine yM rfl ?_|refine yE ?_
 refine vN ?_;apply yN;refine Ja rfl (vS [2] ?_);refine vR ?_;exact JX.retL1 (Lr:=[]) rfl () trivial (.refl _) rfl rfl hb0 rfl (Sub.isEq (by rw[Zci (s:=S0) (fun j hj=>hall j qM)]))
theorem J.pureF{P:Program}{c:Ctx}{K:List (Nat×Ty)}{L:List Own}{Φ:List (World->Prop)}{Q:Exit->Act->World->Prop}{y:Code}{F:World->Prop}(h:F∈Φ)(hj:(∃w,F w)->J P c K L Φ y Q):J P c K L Φ y Q:=
 ⟨fun X a w hs=>(hj ⟨w,(hs.f F h).now⟩).out X a w hs⟩
theorem Ze2{xs:List Ex}{v:Value}{w:World}(h:ExsR xs v w): ∃a cap,v= .slice a xs.length cap:=by
 obtain⟨a,len,cap,rfl,hk⟩:=h;exact⟨a,cap,by rw[hk.1]⟩
theorem Zdu{ps:List (Cel rwE)}{l:List (List Ex)}(h: ∃w,CelF rwE ps w)(hm:ps.map Cel.x=l){i:Nat}(hi:i<ps.length)(hi':i<l.length): ∃a cap,ps[i].cs=[.slice a (l[i]).length cap]:=by
 obtain⟨w,hw⟩:=h;subst hm;obtain⟨v,h1,h2⟩:=hw _ (List.getElem_mem hi);obtain⟨a,cap,rfl⟩:=Ze2 h2;exact⟨a,cap,by rw[h1];simp⟩
theorem ZcX{ps:List (Cel itE)}{l:List Itm}(h: ∃w,CelF itE ps w)(hm:ps.map Cel.x=l){i:Nat}(hi:i<ps.length)(hi':i<l.length):(ps[i].cs)[0]? =some (.bool (l[i]).all):=by
 obtain⟨w,hw⟩:=h;subst hm;obtain⟨es,h1,h2⟩:=hw _ (List.getElem_mem hi);rw[h1];simp
end Go.Proofs.YtbedigkncjbggaaDoor
set_option maxRecDepth 20000
namespace Go.Proofs.YtbedigkncjbggaaDoor
open Go Go.Vc
abbrev sv(s:ByteArray)(i:Nat):Value:=.agg #[.string s,.int .i64 (i:Int)]
def or32(c:Int):Int:=IntKind.u8.wrap (BitVec.ofInt IntKind.u8.bits c|||BitVec.ofInt IntKind.u8.bits 32).toNat
def letterF(c:Int):Bool:=(c==95)||(decide (97<=or32 c)&&decide (or32 c<=122))
def digitF(c:Int):Bool:=decide (48<=c)&&decide (c<=57)
def letB(b:UInt8):Bool:=letterF b.toNat
def digB(b:UInt8):Bool:=digitF b.toNat
def wordB(b:UInt8):Bool:=letB b||digB b
def isSp(b:UInt8):Bool:=decide (0<=Lib.indexByte [32,9,10,13] b)
def runN(p:UInt8->Bool):List UInt8->Nat
 |[]=>0
 |b::l=>if p b then runN p l+1 else 0
theorem Z74(p:UInt8->Bool): ∀l:List UInt8,runN p l<=l.length
 |[]=>Nat.le_refl _
 |b::l=>by
   have:=Z74 p l;unfold runN
   split<;>simp<;>omega
theorem Z9i{p:UInt8->Bool}{s:ByteArray}{i:Nat}(h:i<s.size->p (by_ s i)=false):runN p (dr s i)=0:=by
 by_cases hi:i<s.size
 · rw[Z20 hi,runN,if_neg (by rw[h hi];simp)]
 · rw[Z6F qM];rfl
theorem Zbb{p:UInt8->Bool}{s:ByteArray}{i:Nat}(hi:i<s.size)(h:p (by_ s i)=true):runN p (dr s i)=runN p (dr s (i+1))+1:=by
 rw[Z20 hi,runN,if_pos h]
theorem ZbN{p:UInt8->Bool}{s:ByteArray}{i:Nat}(hi:i<=s.size):i+runN p (dr s i)<=s.size:=by
 have:=Z74 p (dr s i);rw[Z6M]at this
 omega
theorem ZcR(s:ByteArray)(i:Nat):(sb s i).toNat.toUInt8=by_ s i:=by
 rw[Ze5]
 simp
def kwB:ByteArray:=⟨#[32,65,78,68,32,65,83,32,65,83,67,32,66,69,71,73,78,32,66,79,79,76,32,66,89,32,67,79,77,77,73,84,32,67,79,85,78,84,32,67,82,69,65,84,69,32,68,69,76,69,84,69,32,68,69,83,67,32,70,65,76,83,69,32,70,82,79,77,32,71,82,79,85,80,32,72,65,83,72,32,73,78,68,69,88,32,73,78,78,69,82,32,73,78,83,69,82,84,32,73,78,84,32,73,78,84,79,32,73,83,32,74,79,73,78,32,75,69,89,32,76,73,77,73,84,32,77,65,88,32,77,73,78,32,78,79,84,32,78,85,76,76,32,79,78,32,79,82,32,79,82,68,69,82,32,80,82,73,77,65,82,89,32,82,79,76,76,66,65,67,75,32,83,69,76,69,67,84,32,83,69,84,32,83,85,77,32,84,65,66,76,69,32,84,69,88,84,32,84,82,85,69,32,85,78,73,81,85,69,32,85,80,68,65,84,69,32,85,83,73,78,71,32,86,65,76,85,69,83,32,87,72,69,82,69,32]⟩
def sgB:ByteArray:=⟨#[32,60,62,32,60,61,32,62,61,32,40,32,41,32,44,32,59,32,42,32,43,32,45,32,47,32,37,32,61,32,60,32,62,32,46,32]⟩
abbrev sp1:ByteArray:=⟨#[32]⟩
abbrev bl(l:List UInt8):ByteArray:=⟨l.toArray⟩
theorem Z5S(l:List UInt8):(bl l).size=l.length:=by show l.toArray.size=_;simp
theorem Z4i(l:List UInt8):(bl l).data.toList=l:=by simp
theorem Zea(s:ByteArray):bl s.data.toList=s:=by cases s;simp
theorem Zc3(s:ByteArray)(n k:Nat):s.extract n (n+k)=bl ((dr s n).take k):=by
 rw[<-Z10,Zea]
theorem Z9P(a b:ByteArray):(a++b).data.toList=a.data.toList++b.data.toList:=by
 rw[ByteArray.data_append,Array.toList_append]
def padL(l:List UInt8):List UInt8:=32::l++[32]
theorem Z4E(a:ByteArray):((sp1++a)++sp1).data.toList=padL a.data.toList:=by
 rw[Z9P,Z9P];rfl
def wordL(w:List UInt8):T3×Int:=
 if Lib.contains kwB.data.toList (padL (Lib.toUpperA w))then(⟨1,bl (Lib.toUpperA w),0⟩,0)
 else if decide (32<(w.length:Int))then(t3D,30)else(⟨2,bl (Lib.toLowerA w),0⟩,0)
def numStep(a:Int×Int)(b:UInt8):Int×Int:=
 (IntKind.i64.wrap (IntKind.i64.wrap (10*a.1)+IntKind.i64.wrap (IntKind.u8.wrap ((b.toNat:Int)-48))),
  if decide ((IntKind.i64.wrap ((IntKind.i64.wrap (9223372036854775807-IntKind.i64.wrap (IntKind.u8.wrap ((b.toNat:Int)-48)))).tdiv 10))<a.1)then 35 else a.2)
def headP(p:UInt8->Bool):List UInt8->Bool
 |[]=>false
 |b::_=>p b
def numE(l:List UInt8):Int:=if headP letB (l.drop (runN digB l))then 30 else((l.take (runN digB l)).foldl numStep (0,0)).2
def numL(l:List UInt8):T3×Int:=
 if(numE l != 0)then(t3D,numE l)else(⟨3,⟨#[]⟩,((l.take (runN digB l)).foldl numStep (0,0)).1⟩,0)
def endT(acc:List UInt8):T3×Int:=if decide (64<(acc.length:Int))then(t3D,30)else(⟨4,bl acc,0⟩,0)
def textL:List UInt8->List UInt8->(T3×Int)×Nat
 |[],_=>((t3D,30),0)
 |[b],acc=>if b==39 then(endT acc,1)else((t3D,30),1)
 |b::c::l,acc=>if b==39 then(if c != 39 then(endT acc,1)else((textL l (acc++[c])).1,(textL l (acc++[c])).2+2))else((textL (c::l) (acc++[b])).1,(textL (c::l) (acc++[b])).2+1)
def tryL(l:List UInt8)(q:Nat):Bool:=decide (q<=l.length)&&Lib.contains sgB.data.toList (padL (l.take q))
def signL(l:List UInt8):(T3×Int)×Nat:=if tryL l 2 then((⟨5,bl (l.take 2),0⟩,0),2)else if tryL l 1 then((⟨5,bl (l.take 1),0⟩,0),1)else((t3D,30),0)
def stepL:List UInt8->(T3×Int)×Nat
 |[]=>((t3D,30),0)
 |b::l=>if letB b then(wordL ((b::l).take (runN wordB (b::l))),runN wordB (b::l))
  else if digB b then(numL (b::l),runN digB (b::l))
  else if b==39 then((textL l []).1,(textL l []).2+1)
  else signL (b::l)
def allG:Nat->List UInt8->List T3×Int
 |0,_=>([],0)
 |f+1,l=>match l.drop (runN isSp l)with
   |[]=>([],0)
   |b::r=>if((stepL (b::r)).1.2 != 0)then([],(stepL (b::r)).1.2)
     else if((allG f ((b::r).drop (stepL (b::r)).2)).2 != 0)then([],(allG f ((b::r).drop (stepL (b::r)).2)).2)
     else((stepL (b::r)).1.1::(allG f ((b::r).drop (stepL (b::r)).2)).1,0)
def lexL(l:List UInt8):List T3×Int:=if decide (2048<(l.length:Int))then([],30)else allG (l.length+1) l
theorem Zam(w:List UInt8):(Lib.toUpperA w).length=w.length:=by simp[Lib.toUpperA]
theorem ZaD{a:ByteArray}(h:a.size<=2048):sp1.size+a.size<=9223372036854775807:=by
 have:sp1.size=1:=rfl
 omega
theorem Zas{a:ByteArray}(h:a.size<=2048):(sp1++a).size+sp1.size<=9223372036854775807:=by
 have:sp1.size=1:=rfl;rw[ByteArray.size_append]
 omega
theorem Z3L(s:ByteArray)(n k:Nat):(s.extract n (n+k)).size<=s.size:=by
 rw[Zc3,Z5S,List.length_take,Z6M]
 omega
theorem Z8a: ∀n:Nat,n<256->(letterF n||digitF n)=true->n<128:=by decide+kernel
theorem Zb2{b:UInt8}(h:wordB b=true):b.toNat<128:=Z8a b.toNat b.toNat_lt h
theorem Zal(p:UInt8->Bool): ∀l:List UInt8,∀b∈l.take (runN p l),p b=true
 |[],b,h=>by simp[runN]at h
 |c::l,b,h=>by
   unfold runN at h
   by_cases hc:p c=true
   · rw[if_pos hc,List.take_succ_cons]at h
     rcases List.mem_cons.1 h with rfl|h
     · exact hc
     · exact Zal p l b h
   · rw[if_neg hc]at h
     simp at h
theorem Z8E(s:ByteArray)(n:Nat): ∀(j:Nat) (b:UInt8),(s.extract n (n+runN wordB (dr s n))).data.toList[j]? =some b->b.toNat<128:=fun j b h=>by
 rw[Z10]at h;exact Zb2 (Zal wordB _ b (List.mem_of_getElem? h))
end Go.Proofs.YtbedigkncjbggaaDoor
set_option maxRecDepth 20000
namespace Go.Proofs.YtbedigkncjbggaaDoor
open Go Go.Vc
abbrev AB:UInt8->Ty:=fun b=>.is (.int .u8 b.toNat)
abbrev RBB(p:UInt8->Bool):UInt8->Ty:=fun b=>.is (.bool (p b))
abbrev TT:World->Prop:=fun _=>True
theorem Z4Y{a b:Bool}(h:(a&&b)=true):a=true/\b=true:=by simpa using h
theorem Z4I(c:Int):CallTy Tryd.prog Z9u [.is (.int .u8 c)] (.is (.bool (letterF c))):=
 CallTy.of (fn:=Tryd.f24) Tryd.func24 (n:=15) rfl rfl rfl (fun _ _=>by kernel_rfl) fun E W=>by
 refine vQ ?_;refine Ja rfl (vS [0] ?_);refine J.reg0 hmx qK qK ?_;refine yz (Z1 rfl) (yz (ZT rfl rfl) (yz (Z1 rfl) (yg rfl rfl rfl (fun hg=>Z1 (.inl rfl)) (yg rfl rfl rfl (fun hg=>ZcT (qR rfl) (.inl rfl)) ?_))));refine yg rfl rfl rfl (fun hg=>Z9c (qR rfl) (.inl rfl)) ?_;refine yg rfl rfl rfl (fun hg=>Z1 (qR rfl)) ?_;refine RT.gg rfl rfl rfl (fun hg=>(Z1 (.inl rfl))) ?_;refine RT.gg rfl rfl rfl (fun hg=>(ZcT (qR rfl) (.inl rfl))) ?_;refine RT.gg rfl rfl rfl (fun hg=>(Z42 (qR rfl) (.inl rfl))) ?_;refine yg rfl rfl rfl (fun hg=>Zz (qR rfl) (.inl rfl) (.inl rfl) (fun h=>⟨hg,h⟩)) ?_;refine yz (Z1g rfl rfl rfl id) (yz (Z2i rfl) ?_);apply yn;refine FinS.nil0 ?_;refine vS [2] ?_;refine vR ?_;exact JX.ret1is rfl rfl (by rfl)
theorem Z5i(c:Int):CallTy Tryd.prog Z7l [.is (.int .u8 c)] (.is (.bool (digitF c))):=
 CallTy.of (fn:=Tryd.f26) Tryd.func26 (n:=9) rfl rfl rfl (fun _ _=>by kernel_rfl) fun E W=>by
 refine vQ ?_;refine Ja rfl (vS [0] ?_);refine J.reg0 hmx qK qK ?_;refine yz (Z1 rfl) (yz (Z9c rfl rfl) (yz (Z1 rfl) (yg rfl rfl rfl (fun hg=>Z1 (.inl rfl)) (yg rfl rfl rfl (fun hg=>Z42 (qR rfl) (.inl rfl)) ?_))));refine yz (Zz rfl rfl rfl id) (yz (Z2i rfl) ?_);apply yn;refine FinS.nil0 ?_;refine vS [2] ?_;refine vR ?_;exact JX.ret1is rfl rfl (by rfl)
theorem Z5b(c:Int):CallTy Tryd.prog Z34 [.is (.int .u8 c)] (.is (.bool (letterF c||digitF c))):=
 CallTy.of (fn:=Tryd.f52) Tryd.func52 (n:=9) rfl rfl rfl (fun _ _=>by kernel_rfl) fun E W=>by
 refine vQ ?_;refine Ja rfl (vS [0] ?_);refine J.reg0 hmx qK qK ?_;refine yz (Z1 rfl) (yz (ZV rfl (Z4I c) qA) ?_);refine yz (Z1 rfl) (yg rfl rfl rfl (fun hg=>Z1 (.inl rfl)) (yg rfl rfl rfl (fun hg=>ZV (.inl rfl) (Z5i c) (.one (qR rfl) .nil)) ?_));refine yz (Z1g rfl rfl rfl id) (yz (Z2i rfl) ?_);apply yn;refine FinS.nil0 ?_;refine vS [2] ?_;refine vR ?_;exact JX.ret1is rfl rfl (by rfl)
theorem Zd9:Fn1 Tryd.prog (.func (.func Z34) ([]:List Value).toArray ([]:List Value).toArray) TT AB (RBB wordB):=
 Fn1.of (TF:=[]) (TC:=[]) (fun b=>Z5b b.toNat) (fun _ _ _=>trivial) (fun _ _ _=>trivial) 0
theorem Zcg:Fn1 Tryd.prog (.func (.func Z7l) ([]:List Value).toArray ([]:List Value).toArray) TT AB (RBB digB):=
 Fn1.of (TF:=[]) (TC:=[]) (fun b=>Z5i b.toNat) (fun _ _ _=>trivial) (fun _ _ _=>trivial) 0
theorem Z3c(s:ByteArray)(n:Nat)(hn:n<=s.size)(hs:s.size<=9223372036854775806):CallM Tryd.prog Z5z ZJ (sv s n) [] [] (sv s (n+runN isSp (dr s n))) (.is (.tuple #[])):=
CallM.of (fn:=Tryd.f12) Tryd.func12 (n:=32) rfl rfl rfl (fun _ _=>by kernel_rfl) fun E W b0=>by
 repeat apply yQ
 apply yk
 repeat apply yQ
 refine J.loopG (α:=Nat) (fun i=>[(0,.is (.pointer (some ⟨b0,0,none⟩)))]) (fun i=>[⟨b0,ZJ,.is (sv s i)⟩]) (fun i=>fun _=>True) (fun i=>i<=s.size/\i+runN isSp (dr s i)=n+runN isSp (dr s n)) (fun i=>s.size-i) n [0] (.cons rfl .nil) rfl (fun _=>trivial) ⟨hn,rfl⟩ fun i ⟨hi,hr⟩=>?_
 repeat apply yQ
 refine J.reg0 hmx qK qK ?_;refine yz (Z1 rfl) (yz (Z3 rfl) (yz (Z0 Z6 rfl) (yz (Z5 Zy rfl rfl) (yz (Z1 rfl) (yz (Z3 rfl) (yz (Z0 Zv rfl) (yz (Z5 ZC rfl rfl) (yz (Z2Q Zi rfl) (yz (Z1o rfl rfl) (yz (Z1 rfl) (yg rfl rfl rfl (fun hg=>Z1 (.inl rfl)) ?_)))))))))));refine yg rfl rfl rfl (fun hg=>Z3 (qR rfl)) ?_;refine yg rfl rfl rfl (fun hg=>Z0 Zv (qR rfl)) ?_;refine yg rfl rfl rfl (fun hg=>Z5 ZC (qR rfl) rfl) ?_;refine yg rfl rfl rfl (fun hg=>Z1 (.inl rfl)) (yg rfl rfl rfl (fun hg=>Z3 (qR rfl)) ?_);refine yg rfl rfl rfl (fun hg=>Z0 Z6 (qR rfl)) ?_;refine yg rfl rfl rfl (fun hg=>Z5 Zy (qR rfl) rfl) ?_;refine yg rfl rfl rfl (fun hg=>Z2h Zi (qR rfl) (qR rfl) (by have h:=hg;simp only[decide_eq_true_eq]at h;omega) (by have h:=hg;simp only[decide_eq_true_eq]at h;omega)) ?_;refine yg rfl rfl rfl (fun hg=>ZV (.inl rfl) (Z6A ⟨#[32,9,10,13]⟩ (sb s i)) (.one (.inl rfl) (.one (qR rfl) .nil))) ?_;refine yg rfl rfl rfl (fun hg=>Z9c (qR rfl) (.inl rfl)) ?_;refine yz (Zz rfl rfl rfl id) ?_;apply yn;refine FinS.nil0 ?_;refine vS [0,24] ?_;refine yC rfl (fun ht24=>?_) (fun ht24=>?_)
 try simp only[yd,yf]at ht24
 apply yK;refine vN ?_;apply yk;have hlt:i<s.size:=by have h:=(Z4Y ht24).1;simp only[decide_eq_true_eq]at h;omega
 refine vQ ?_;refine Jm rfl (Jq (Z3 rfl) (Jq (Z0 Z6 rfl) (Jq (Z5 Zy rfl rfl) (Jq (ZB (cc:=((i+1:Nat):Int)) rfl rfl qM qM qM) ?_))));refine Jq (Z3 rfl) (Jq (Z0 Z6 rfl) (JO.m (Zc (cs':=[_,_]) rfl rfl qU rfl rfl rfl rfl Z30) (by rfl) ?_));apply yI
 repeat refine JX.normal_block ?_
 refine JX.roundG (x:=i) (i+1) ?_ ?_ [0] ?_ ?_ ?_ ?_
 · exact⟨by omega,by rw[<-hr,Zbb qM (Z4Y (show(decide ((i:Int)<s.size)&&isSp (by_ s i))=true by rw[<-ZcR];exact ht24)).2];omega⟩
 · exact qM
 · exact qS
 · exact qH
 · exact qG
 · exact fun _ _ _=>fun _ _=>trivial
 try simp only[yd,yf]at ht24
 repeat apply yQ
 refine J.exit ?_
 repeat first|refine yH ?_|refine yM rfl ?_|refine yE ?_
 repeat first|apply yX|apply yB
 exact JX.normal_ret (JX.retM0e rfl HasOwn.mem (by rw[<-hr,Z9i fun h=>by have h2:(decide ((i:Int)<s.size)&&isSp (by_ s i))=false:=(by rw[<-ZcR];exact ht24);simpa [h] using h2];rfl))
theorem Z3x(p:UInt8->Bool)(fv:Value)(hf:Fn1 Tryd.prog fv TT AB (RBB p))(s:ByteArray)(n:Nat)(hn:n<=s.size)(hs:s.size<=9223372036854775806):CallM Tryd.prog Z6B ZJ (sv s n) [] [.rep (FunR fv TT)] (sv s (n+runN p (dr s n))) (.is (.string (s.extract n (n+runN p (dr s n))))):=
CallM.of (fn:=Tryd.f51) Tryd.func51 (n:=50) rfl rfl rfl (fun _ _=>by kernel_rfl) fun E W b0=>by
 refine J.openFun (s:=1) rfl ?_;refine vQ ?_;refine Ja rfl (vP [0,1] ?_);refine Jm rfl (Jq (Z3 rfl) (Jq (Z0 Z6 rfl) (Jq (Z5 Zy rfl rfl) (Ja rfl (vS [0,1,5] ?_)))));apply yk
 repeat apply yQ
 refine J.loopG (α:=Nat) (fun i=>[(0,.is (.pointer (some ⟨b0,0,none⟩))),(1,.is fv),(5,.is (.int .i64 (n:Int)))]) (fun i=>[⟨b0,ZJ,.is (sv s i)⟩]) (fun i=>fun _=>True) (fun i=>i<=s.size/\i+runN p (dr s i)=n+runN p (dr s n)) (fun i=>s.size-i) n [0,1,5] (.cons rfl (.cons rfl (.cons rfl .nil))) rfl (fun _=>trivial) ⟨hn,rfl⟩ fun i ⟨hi,hr⟩=>?_
 repeat apply yQ
 refine J.reg0 hmx qK qK ?_;refine yz (Z1 rfl) (yz (Z3 rfl) (yz (Z0 Z6 rfl) (yz (Z5 Zy rfl rfl) (yz (Z1 rfl) (yz (Z3 rfl) (yz (Z0 Zv rfl) (yz (Z5 ZC rfl rfl) (yz (Z2Q Zi rfl) (yz (Z1o rfl rfl) (yz (Z1 rfl) (yg rfl rfl rfl (fun hg=>Z1 (.inl rfl)) ?_)))))))))));refine yg rfl rfl rfl (fun hg=>Z1 (.inl rfl)) (yg rfl rfl rfl (fun hg=>Z3 (qR rfl)) ?_);refine yg rfl rfl rfl (fun hg=>Z0 Zv (qR rfl)) ?_;refine yg rfl rfl rfl (fun hg=>Z5 ZC (qR rfl) rfl) ?_;refine yg rfl rfl rfl (fun hg=>Z1 (.inl rfl)) (yg rfl rfl rfl (fun hg=>Z3 (qR rfl)) ?_);refine yg rfl rfl rfl (fun hg=>Z0 Z6 (qR rfl)) ?_;refine yg rfl rfl rfl (fun hg=>Z5 Zy (qR rfl) rfl) ?_;refine yg rfl rfl rfl (fun hg=>Z2h Zi (qR rfl) (qR rfl) (by have h:=hg;simp only[decide_eq_true_eq]at h;omega) (by have h:=hg;simp only[decide_eq_true_eq]at h;omega)) ?_;refine yg rfl rfl rfl (fun hg=>Zcw (by_ s i) (qR rfl) hf qI (qR rfl)) ?_;refine yz (Zz rfl rfl rfl id) ?_;apply yn;refine FinS.nil0 ?_;refine vS [0,1,5,32] ?_;refine yC rfl (fun ht32=>?_) (fun ht32=>?_);apply yK;refine vN ?_;apply yk;have hlt:i<s.size:=by have h:=(Z4Y ht32).1;simp only[decide_eq_true_eq]at h;omega
 refine vQ ?_;refine Jm rfl (Jq (Z3 rfl) (Jq (Z0 Z6 rfl) (Jq (Z5 Zy rfl rfl) (Jq (ZB (cc:=((i+1:Nat):Int)) rfl rfl qM qM qM) ?_))));refine Jq (Z3 rfl) (Jq (Z0 Z6 rfl) (JO.m (Zc (cs':=[_,_]) rfl rfl qU rfl rfl rfl rfl Z30) (by rfl) ?_));apply yI
 repeat refine JX.normal_block ?_
 refine JX.roundG (x:=i) (i+1) ?_ ?_ [0,1,5] ?_ ?_ ?_ ?_
 · exact⟨by omega,by rw[<-hr,Zbb qM (Z4Y (show(decide ((i:Int)<s.size)&&p (by_ s i))=true from ht32)).2];omega⟩
 · exact qM
 · exact qS
 · exact qH
 · exact qG
 · exact fun _ _ _=>fun _ _=>trivial
 repeat apply yQ
 refine J.exit ?_
 repeat first|refine yH ?_|refine yM rfl ?_|refine yE ?_
 repeat first|apply yX|apply yB
 have he:i=n+runN p (dr s n):=by rw[<-hr,Z9i fun h=>by have h2:(decide ((i:Int)<s.size)&&p (by_ s i))=false:=ht32;simpa [h] using h2];rfl
 have hni:n<=i:=by omega
 repeat apply yQ
 refine J.reg0 hmx qK qK ?_;refine yz (Z1 rfl) (yz (Z3 rfl) (yz (Z0 Zv rfl) (yz (Z5 ZC rfl rfl) (yz (Z1 rfl) (yz (Z1 rfl) (yz (Z3 rfl) (yz (Z0 Z6 rfl) (yz (Z5 Zy rfl rfl) (yz (Z6Y Zi rfl rfl rfl qM qM qM) ?_)))))))));refine yz (Z2i rfl) ?_;apply yn;refine FinS.nil0 ?_;refine vS [4] ?_;refine vR ?_;exact JX.retM1e rfl HasOwn.mem rfl (by rw[he];rfl) (by rw[he])
end Go.Proofs.YtbedigkncjbggaaDoor
set_option maxRecDepth 20000
namespace Go.Proofs.YtbedigkncjbggaaDoor
open Go Go.Vc
theorem Zd6(p:UInt8->Bool)(s:ByteArray)(i:Nat):headP p (dr s i)=(decide ((i:Int)<s.size)&&p (by_ s i)):=by
 by_cases h:i<s.size
 · rw[Z20 h,headP,decide_eq_true qM,Bool.true_and]
 · rw[Z6F qM,headP,decide_eq_false qM,Bool.false_and]
theorem ZbC{s:ByteArray}{n:Nat}(hn:n<s.size)(q:Nat):tryL (dr s n) q=(decide (((n+q:Nat):Int)<=s.size)&&Lib.contains sgB.data.toList ((sp1++s.extract n (n+q))++sp1).data.toList):=by
 unfold tryL;rw[Z4E,Z10,Z6M]
 congr 1
 exact decide_eq_decide.2 ⟨fun h=>by omega,fun h=>by omega⟩
theorem ZdJ{l:List UInt8}{i:Nat}(h:i<l.length):l[i]? =some (l.getD i 0):=by simp[h]
theorem Z8N{α:Type}(f:α->UInt8->α){a:α}{l:List UInt8}{k:Nat}(h:k<l.length):(l.take (k+1)).foldl f a=f ((l.take k).foldl f a) (l.getD k 0):=by
 rw[List.take_add_one,List.foldl_append]
 simp[h]
theorem Z68(s:ByteArray)(n:Nat)(hn:n<s.size)(hs:s.size<=2048):CallM Tryd.prog Z3q ZJ (sv s n) [GF] [] (sv s (n+runN wordB (dr s n))) (.tup2 (.is (tv (wordL ((dr s n).take (runN wordB (dr s n)))).1)) (.is (.int .i64 (wordL ((dr s n).take (runN wordB (dr s n)))).2))):=
CallM.of (fn:=Tryd.f25) Tryd.func25 (n:=23) rfl rfl rfl (fun _ _=>by kernel_rfl) fun E W b0=>by
 refine vQ ?_;refine JO.alloc Z1C rfl fun b2=>(Ja rfl (vP [0,2] ?_));refine Jm rfl (JO.md (Z6e rfl rfl (Z3x wordB _ Zd9 s n qM qM) qU (by simp) (.sub rfl (Sub.funT (fun _=>trivial)) .nil)) (by rfl) rfl ?_);refine Ja rfl (vP [2,4] ?_);refine Jm rfl (Jq (ZV rfl (Z7f (s.extract n (n+runN wordB (dr s n))) (by have h1:=Z3L s n (runN wordB (dr s n));omega) (Z8E s n)) qA) ?_);refine Ja rfl (vP [2,4,5] ?_);refine Jm rfl (Jq (Z5s rfl rfl (ZaD (by show(bl (Lib.toUpperA (s.extract n (n+runN wordB (dr s n))).data.toList)).size<=2048;rw[Z5S,Zam,Z1v];have h1:=Z3L s n (runN wordB (dr s n));omega))) ?_);refine Jq (Z5s rfl rfl (Zas (by show(bl (Lib.toUpperA (s.extract n (n+runN wordB (dr s n))).data.toList)).size<=2048;rw[Z5S,Zam,Z1v];have h1:=Z3L s n (runN wordB (dr s n));omega))) ?_;refine Jq (Z1J rfl (Z43 kwB _ qD) (by simp) (.one rfl (.one rfl .nil))) ?_;refine vS [2,4,5,13] ?_;refine yC rfl (fun ht13=>?_) (fun ht13=>?_);refine vQ ?_;refine Jm rfl (Jq (Zo (cs:=[_,_,_]) ZX (.cons rfl (.cons rfl .nil)) rfl rfl) (JO.m (Z2 rfl rfl qU qC qO ZN) (by rfl) ?_));refine Ja rfl (vS [2,3] ?_);refine vR ?_;exact JX.retMC1is rfl HasOwn.mem rfl ZF HasOwn.mem rfl rfl (by have hc:(Lib.contains kwB.data.toList ((sp1++⟨(Lib.toUpperA (s.extract n (n+runN wordB (dr s n))).data.toList).toArray⟩)++sp1).data.toList)=Lib.contains kwB.data.toList (padL (Lib.toUpperA ((dr s n).take (runN wordB (dr s n))))):=(by rw[Z4E,Z4i,Z10]);rw[hc]at ht13;unfold wordL;rw[if_pos ht13,Z10]) (by have hc:(Lib.contains kwB.data.toList ((sp1++⟨(Lib.toUpperA (s.extract n (n+runN wordB (dr s n))).data.toList).toArray⟩)++sp1).data.toList)=Lib.contains kwB.data.toList (padL (Lib.toUpperA ((dr s n).take (runN wordB (dr s n))))):=(by rw[Z4E,Z4i,Z10]);rw[hc]at ht13;unfold wordL;rw[if_pos ht13]) (by rfl);apply yK;refine vN ?_;apply yN;refine Jm rfl (Jq (Z2Q Zi rfl) (Jq (Z1U rfl rfl) (vS [2,4,18] ?_)));refine yC rfl (fun ht18=>?_) (fun ht18=>?_)
 try simp only[yd,yf]at ht18
 refine vQ ?_;refine Jq (Zo (cs:=[_,_,_]) ZX .nil rfl rfl) (JO.m (Z2 rfl rfl qU qC qO ZN) (by rfl) ?_);refine Ja rfl (vS [2,3] ?_);refine vR ?_;exact JX.retMC1is rfl HasOwn.mem rfl ZF HasOwn.mem rfl rfl (by have hc:(Lib.contains kwB.data.toList ((sp1++⟨(Lib.toUpperA (s.extract n (n+runN wordB (dr s n))).data.toList).toArray⟩)++sp1).data.toList)=Lib.contains kwB.data.toList (padL (Lib.toUpperA ((dr s n).take (runN wordB (dr s n))))):=(by rw[Z4E,Z4i,Z10]);rw[hc]at ht13;have hl:((s.extract n (n+runN wordB (dr s n))).size:Int)=(((dr s n).take (runN wordB (dr s n))).length:Int):=(by rw[<-Z1v,Z10]);rw[hl]at ht18;unfold wordL;rw[if_neg (by rw[ht13];simp),if_pos (decide_eq_true ht18)];rfl) (by have hc:(Lib.contains kwB.data.toList ((sp1++⟨(Lib.toUpperA (s.extract n (n+runN wordB (dr s n))).data.toList).toArray⟩)++sp1).data.toList)=Lib.contains kwB.data.toList (padL (Lib.toUpperA ((dr s n).take (runN wordB (dr s n))))):=(by rw[Z4E,Z4i,Z10]);rw[hc]at ht13;have hl:((s.extract n (n+runN wordB (dr s n))).size:Int)=(((dr s n).take (runN wordB (dr s n))).length:Int):=(by rw[<-Z1v,Z10]);rw[hl]at ht18;unfold wordL;rw[if_neg (by rw[ht13];simp),if_pos (decide_eq_true ht18)]) (by rfl)
 try simp only[yd,yf]at ht18
 apply yK;refine vN ?_;apply yN;refine Jm rfl (Jq (ZV rfl (Z7c (s.extract n (n+runN wordB (dr s n))) (by have h1:=Z3L s n (runN wordB (dr s n));omega) (Z8E s n)) qA) ?_);refine Jq (Zo (cs:=[_,_,_]) ZX (.cons rfl (.cons rfl .nil)) rfl rfl) (JO.m (Z2 rfl rfl qU qC qO ZN) (by rfl) ?_);refine Ja rfl (vS [2,3] ?_);refine vR ?_;exact JX.retMC1is rfl HasOwn.mem rfl ZF HasOwn.mem rfl rfl (by have hc:(Lib.contains kwB.data.toList ((sp1++⟨(Lib.toUpperA (s.extract n (n+runN wordB (dr s n))).data.toList).toArray⟩)++sp1).data.toList)=Lib.contains kwB.data.toList (padL (Lib.toUpperA ((dr s n).take (runN wordB (dr s n))))):=(by rw[Z4E,Z4i,Z10]);rw[hc]at ht13;have hl:((s.extract n (n+runN wordB (dr s n))).size:Int)=(((dr s n).take (runN wordB (dr s n))).length:Int):=(by rw[<-Z1v,Z10]);rw[hl]at ht18;unfold wordL;rw[if_neg (by rw[ht13];simp),if_neg (by rw[decide_eq_false ht18];simp),Z10]) (by have hc:(Lib.contains kwB.data.toList ((sp1++⟨(Lib.toUpperA (s.extract n (n+runN wordB (dr s n))).data.toList).toArray⟩)++sp1).data.toList)=Lib.contains kwB.data.toList (padL (Lib.toUpperA ((dr s n).take (runN wordB (dr s n))))):=(by rw[Z4E,Z4i,Z10]);rw[hc]at ht13;have hl:((s.extract n (n+runN wordB (dr s n))).size:Int)=(((dr s n).take (runN wordB (dr s n))).length:Int):=(by rw[<-Z1v,Z10]);rw[hl]at ht18;unfold wordL;rw[if_neg (by rw[ht13];simp),if_neg (by rw[decide_eq_false ht18];simp)]) (by rfl)
theorem Z5d(s:ByteArray)(n:Nat)(hn:n<s.size)(hs:s.size<=2048):CallM Tryd.prog Z32 ZJ (sv s n) [GF] [] (sv s (n+runN digB (dr s n))) (.tup2 (.is (tv (numL (dr s n)).1)) (.is (.int .i64 (numL (dr s n)).2))):=
CallM.of (fn:=Tryd.f27) Tryd.func27 (n:=58) rfl rfl rfl (fun _ _=>by kernel_rfl) fun E W b0=>by
 refine vQ ?_;refine JO.alloc Z1C rfl fun b2=>(Ja rfl (vP [0,2] ?_));refine Ja rfl (Ja rfl (vS [0,2,4,5] ?_));have hbl:((dr s n).take (runN digB (dr s n))).length<=2048:=by rw[List.length_take,Z6M];omega
 refine vQ ?_;refine Jm rfl (JO.md (Z6e rfl rfl (Z3x digB _ Zcg s n qM qM) qU (by simp) (.sub rfl (Sub.funT (fun _=>trivial)) .nil)) (by rfl) rfl ?_);refine Jq (ZcL Zi Z2w Z4v rfl) ?_;refine JO.openSl (s:=11) rfl (fun a len cap bb bo hlen ha=>?_);have hlen2:((dr s n).take (runN digB (dr s n))).length=len:=(by rw[<-hlen,Z10]);subst hlen2;refine Jq (ZS Z2w rfl) (Jm rfl (vS [0,2,4,5,11,12,13] ?_));apply yk
 repeat apply yQ
 refine J.loopG (α:=Nat×Int×Int) (fun z=>[(0,.is (.pointer (some ⟨b0,0,none⟩))),(2,.is (.pointer (some ⟨b2,0,none⟩))),(4,.is (.int .i64 z.2.1)),(5,.is (.int .i64 z.2.2)),(11,.is (.slice a ((dr s n).take (runN digB (dr s n))).length cap)),(12,.is (.int .i64 (((dr s n).take (runN digB (dr s n))).length:Nat))),(13,.is (.int .i64 (z.1:Nat)))]) (fun z=>[⟨b2,Z1r,.is (tv t3D)⟩,⟨b0,ZJ,.is (sv s (n+runN digB (dr s n)))⟩]) (fun z=>fun _=>True) (fun z=>z.1<=((dr s n).take (runN digB (dr s n))).length/\(((dr s n).take (runN digB (dr s n))).take z.1).foldl numStep (0,0)=z.2) (fun z=>((dr s n).take (runN digB (dr s n))).length-z.1) (0,0,0) [0,2,4,5,11,12,13] (.cons rfl (.cons rfl (.cons rfl (.cons rfl (.cons rfl (.cons rfl (.cons rfl .nil))))))) rfl (fun _=>trivial) ⟨by omega,rfl⟩ fun⟨k,m,e⟩ ⟨hk,hf⟩=>?_;try dsimp only
 try dsimp only at hk
 try dsimp only at hf
 refine vQ ?_;refine Jq (Z1o rfl rfl) (vS [0,2,4,5,11,12,13,14] ?_);refine yC rfl (fun ht14=>?_) (fun ht14=>?_)
 try simp only[yd,yf]at ht14
 apply yK;refine vN ?_;apply yk;refine vQ ?_;refine Jq (Zq Za7 rfl (ha qM) rfl qM qM) ?_;refine Jq (Z1h (enc:=bC) (sz:=1) (xs:=(s.extract n (n+runN digB (dr s n))).data.toList) (len:=((dr s n).take (runN digB (dr s n))).length) (i:=k) (j:=0) (y:=((dr s n).take (runN digB (dr s n))).getD k 0) ZcB rfl qI (ha qM) (by rw[Z10];exact ZdJ qM) (by simp) rfl) ?_;refine Ja rfl (vP [0,2,4,5,7,11,12,13] ?_);refine Jm rfl (Jq (Z9g rfl rfl) (Jq (Z8y ⟨_,Z4v⟩ Zcj rfl) (Ja rfl (vP [0,2,4,5,8,11,12,13] ?_))));refine Jm rfl (Jm rfl (Jq (Z9g rfl rfl) (Jq (ZdD rfl rfl qD) ?_)));refine Jq (Z1U rfl rfl) (vS [0,2,4,5,8,11,12,13,24] ?_);refine yC rfl (fun ht24=>?_) (fun ht24=>?_)
 try simp only[yd,yf]at ht24
 refine vQ ?_;refine Ja rfl (vP [0,2,4,5,8,11,12,13] ?_);refine Jm rfl (Jq (Zbr rfl rfl) (Jm rfl (Jq (Z7Z rfl rfl) (Ja rfl (vP [0,2,4,5,11,12,13] ?_)))));refine Jq (ZB (cc:=((k+1:Nat):Int)) rfl rfl qM qM qM) ?_;refine Jm rfl ?_;apply yI
 repeat refine JX.normal_block ?_
 refine JX.roundG (x:=⟨k,m,e⟩) (k+1,(numStep (m,e) (((dr s n).take (runN digB (dr s n))).getD k 0)).1,35) ?_ ?_ [0,2,4,5,11,12,13] ?_ ?_ ?_ ?_
 · exact⟨by omega,by rw[Z8N numStep qM,hf];simp only[numStep];rw[if_pos (decide_eq_true ht24)]⟩
 · exact(by simp only;omega)
 · exact qS
 · exact qH
 · exact qG
 · exact fun _ _ _=>fun _ _=>trivial
 try simp only[yd,yf]at ht24
 apply yK;refine vN ?_;apply yN;refine Jm rfl (Jq (Zbr rfl rfl) (Jm rfl (Jq (Z7Z rfl rfl) (Ja rfl (vP [0,2,4,5,11,12,13] ?_)))));refine Jq (ZB (cc:=((k+1:Nat):Int)) rfl rfl qM qM qM) ?_;refine Jm rfl ?_;apply yI
 repeat refine JX.normal_block ?_
 refine JX.roundG (x:=⟨k,m,e⟩) (k+1,(numStep (m,e) (((dr s n).take (runN digB (dr s n))).getD k 0)).1,e) ?_ ?_ [0,2,4,5,11,12,13] ?_ ?_ ?_ ?_
 · exact⟨by omega,by rw[Z8N numStep qM,hf];simp only[numStep];rw[if_neg (by rw[decide_eq_false ht24];simp)]⟩
 · exact(by simp only;omega)
 · exact qS
 · exact qH
 · exact qG
 · exact fun _ _ _=>fun _ _=>trivial
 try simp only[yd,yf]at ht14
 repeat apply yQ
 refine J.exit ?_
 repeat first|refine yH ?_|refine yM rfl ?_|refine yE ?_
 repeat first|apply yX|apply yB
 have hfe:((dr s n).take (runN digB (dr s n))).foldl numStep (0,0)=(m,e):=(by have h1:((dr s n).take (runN digB (dr s n))).take k=((dr s n).take (runN digB (dr s n))):=List.take_of_length_le qM;rw[h1]at hf;exact hf);have hh:headP letB ((dr s n).drop (runN digB (dr s n)))=(decide (((n+runN digB (dr s n):Nat):Int)<s.size)&&letterF (sb s (n+runN digB (dr s n)))):=by rw[Z5N];exact Zd6 letB s _
 repeat apply yQ
 refine J.reg0 hmx qK qK ?_;refine yz (Z1 rfl) (yz (Z3 rfl) (yz (Z0 Z6 rfl) (yz (Z5 Zy rfl rfl) (yz (Z1 rfl) (yz (Z3 rfl) (yz (Z0 Zv rfl) (yz (Z5 ZC rfl rfl) (yz (Z2Q Zi rfl) (yz (Z1o rfl rfl) (yz (Z1 rfl) (yg rfl rfl rfl (fun hg=>Z1 (.inl rfl)) ?_)))))))))));refine yg rfl rfl rfl (fun hg=>Z3 (qR rfl)) ?_;refine yg rfl rfl rfl (fun hg=>Z0 Zv (qR rfl)) ?_;refine yg rfl rfl rfl (fun hg=>Z5 ZC (qR rfl) rfl) ?_;refine yg rfl rfl rfl (fun hg=>Z1 (.inl rfl)) (yg rfl rfl rfl (fun hg=>Z3 (qR rfl)) ?_);refine yg rfl rfl rfl (fun hg=>Z0 Z6 (qR rfl)) ?_;refine yg rfl rfl rfl (fun hg=>Z5 Zy (qR rfl) rfl) ?_;refine yg rfl rfl rfl (fun hg=>Z2h Zi (qR rfl) (qR rfl) (by have h:=hg;simp only[decide_eq_true_eq]at h;omega) (by have h:=hg;simp only[decide_eq_true_eq]at h;omega)) ?_;refine yg rfl rfl rfl (fun hg=>ZV (.inl rfl) (Z4I (sb s (n+runN digB (dr s n)))) (.one (qR rfl) .nil)) ?_;refine yz (Zz rfl rfl rfl id) ?_;apply yn;refine FinS.nil0 ?_;refine vS [2,4,5,51] ?_;refine yC rfl (fun ht51=>?_) (fun ht51=>?_);refine vQ ?_;refine Ja rfl (vP [2,4,5] ?_);refine Jm rfl (Jq (Z2O rfl rfl) (vS [2,4,5,53] ?_));refine yC rfl (fun ht53=>?_) (fun ht53=>?_);refine vQ ?_;refine Jq (Zo (cs:=[_,_,_]) ZX .nil rfl rfl) (Jm rfl (JO.m (Z2 rfl rfl qU qC qO ZN) (by rfl) ?_));refine Ja rfl (vS [2,3] ?_);refine vR ?_;exact JX.retMC1is rfl HasOwn.mem rfl ZF HasOwn.mem rfl rfl (by have hE:numE (dr s n)=30:=(by unfold numE;rw[hh];rw[if_pos ht51]);unfold numL;rw[hE,if_pos ht53];rfl) (by have hE:numE (dr s n)=30:=(by unfold numE;rw[hh];rw[if_pos ht51]);unfold numL;rw[hE,if_pos ht53]) (by rfl);apply yK;refine vN ?_;apply yN;refine Jm rfl (Jq (Zo (cs:=[_,_,_]) ZX (.cons rfl (.cons rfl .nil)) rfl rfl) (JO.m (Z2 rfl rfl qU qC qO ZN) (by rfl) ?_));refine Ja rfl (vS [2,3] ?_);refine vR ?_;exact JX.retMC1is rfl HasOwn.mem rfl ZF HasOwn.mem rfl rfl (by have hE:numE (dr s n)=30:=(by unfold numE;rw[hh];rw[if_pos ht51]);unfold numL;rw[hE,if_neg (by rw[ht53];simp),hfe]) (by have hE:numE (dr s n)=30:=(by unfold numE;rw[hh];rw[if_pos ht51]);unfold numL;rw[hE,if_neg (by rw[ht53];simp)]) (by rfl);apply yK;refine vN ?_;apply yN;refine Jm rfl (Jq (Z2O rfl rfl) (vS [2,4,5,53] ?_));refine yC rfl (fun ht53=>?_) (fun ht53=>?_);refine vQ ?_;refine Jq (Zo (cs:=[_,_,_]) ZX .nil rfl rfl) (Jm rfl (JO.m (Z2 rfl rfl qU qC qO ZN) (by rfl) ?_));refine Ja rfl (vS [2,3] ?_);refine vR ?_;exact JX.retMC1is rfl HasOwn.mem rfl ZF HasOwn.mem rfl rfl (by have hE:numE (dr s n)=e:=(by unfold numE;rw[hh];rw[if_neg (by rw[ht51];simp),hfe]);unfold numL;rw[hE,if_pos ht53];rfl) (by have hE:numE (dr s n)=e:=(by unfold numE;rw[hh];rw[if_neg (by rw[ht51];simp),hfe]);unfold numL;rw[hE,if_pos ht53]) (by rfl);apply yK;refine vN ?_;apply yN;refine Jm rfl (Jq (Zo (cs:=[_,_,_]) ZX (.cons rfl (.cons rfl .nil)) rfl rfl) (JO.m (Z2 rfl rfl qU qC qO ZN) (by rfl) ?_));refine Ja rfl (vS [2,3] ?_);refine vR ?_;exact JX.retMC1is rfl HasOwn.mem rfl ZF HasOwn.mem rfl rfl (by have hE:numE (dr s n)=e:=(by unfold numE;rw[hh];rw[if_neg (by rw[ht51];simp),hfe]);unfold numL;rw[hE,if_neg (by rw[ht53];simp),hfe]) (by have hE:numE (dr s n)=e:=(by unfold numE;rw[hh];rw[if_neg (by rw[ht51];simp),hfe]);unfold numL;rw[hE,if_neg (by rw[ht53];simp)]) (by rfl)
theorem Z5Y(s:ByteArray)(n:Nat)(hn:n<s.size)(hs:s.size<=2048):CallM Tryd.prog Z3w ZJ (sv s n) [GF] [] (sv s (n+(signL (dr s n)).2)) (.tup2 (.is (tv (signL (dr s n)).1.1)) (.is (.int .i64 (signL (dr s n)).1.2))):=
CallM.of (fn:=Tryd.f29) Tryd.func29 (n:=66) rfl rfl rfl (fun _ _=>by kernel_rfl) fun E W b0=>by
 refine vQ ?_;refine JO.alloc Z1C rfl fun b2=>(Ja rfl (vP [0,2] ?_));refine Ja rfl (vS [0,2,4] ?_);apply yk
 repeat apply yQ
 refine J.loopG (α:=Nat) (fun q=>[(0,.is (.pointer (some ⟨b0,0,none⟩))),(2,.is (.pointer (some ⟨b2,0,none⟩))),(4,.is (.int .i64 (q:Nat)))]) (fun q=>[⟨b2,Z1r,.is (tv t3D)⟩,⟨b0,ZJ,.is (sv s n)⟩]) (fun q=>fun _=>True) (fun q=>q<=2/\(q<2->tryL (dr s n) 2=false)/\(q<1->tryL (dr s n) 1=false)) (fun q=>q) 2 [0,2,4] (.cons rfl (.cons rfl (.cons rfl .nil))) rfl (fun _=>trivial) ⟨by omega,fun h=>absurd h qM,fun h=>absurd h qM⟩ fun q ⟨hq,h2,h1⟩=>?_;refine vQ ?_;refine Jm rfl (Jq (Z1U rfl rfl) (vS [0,2,4,6] ?_));refine yC rfl (fun ht6=>?_) (fun ht6=>?_)
 try simp only[yd,yf]at ht6
 apply yK;refine vN ?_;apply yk
 repeat apply yQ
 refine J.reg0 hmx qK qK ?_;refine yz (Z1 rfl) (yz (Z3 rfl) (yz (Z0 Z6 rfl) (yz (Z5 Zy rfl rfl) (yz (Z1 rfl) (yz (ZB (cc:=((n+q:Nat):Int)) rfl rfl qM qM qM) ?_)))));refine yz (Z1 rfl) (yz (Z3 rfl) (yz (Z0 Zv rfl) (yz (Z5 ZC rfl rfl) (yz (Z2Q Zi rfl) (yz (Z42 rfl rfl) (yz (Z1 rfl) (yg rfl rfl rfl (fun hg=>Z1 (.inl rfl)) (yg rfl rfl rfl (fun hg=>Z3 (qR rfl)) ?_))))))));refine yg rfl rfl rfl (fun hg=>Z0 Zv (qR rfl)) ?_;refine yg rfl rfl rfl (fun hg=>Z5 ZC (qR rfl) rfl) ?_;refine yg rfl rfl rfl (fun hg=>Z1 (.inl rfl)) (yg rfl rfl rfl (fun hg=>Z3 (qR rfl)) ?_);refine yg rfl rfl rfl (fun hg=>Z0 Z6 (qR rfl)) ?_;refine yg rfl rfl rfl (fun hg=>Z5 Zy (qR rfl) rfl) ?_;refine yg rfl rfl rfl (fun hg=>Z1 (.inl rfl)) (yg rfl rfl rfl (fun hg=>Z3 (qR rfl)) ?_);refine yg rfl rfl rfl (fun hg=>Z0 Z6 (qR rfl)) ?_;refine yg rfl rfl rfl (fun hg=>Z5 Zy (qR rfl) rfl) ?_;refine yg rfl rfl rfl (fun hg=>Z1 (.inl rfl)) (yg rfl rfl rfl (fun hg=>ZB (cc:=((n+q:Nat):Int)) (qR rfl) (qR rfl) qM qM qM) ?_);refine yg rfl rfl rfl (fun hg=>Z6Y Zi (qR rfl) (qR rfl) (qR rfl) qM qM (by have h:=hg;simp only[decide_eq_true_eq]at h;omega)) ?_;refine yg rfl rfl rfl (fun hg=>Z5s (.inl rfl) (qR rfl) (ZaD (by have h1:=Z3L s n q;show(s.extract n (n+q)).size<=2048;omega))) ?_;refine yg rfl rfl rfl (fun hg=>Z5s (qR rfl) (.inl rfl) (Zas (by have h1:=Z3L s n q;show(s.extract n (n+q)).size<=2048;omega))) ?_;refine yg rfl rfl rfl (fun hg=>Z1J (.inl rfl) (Z43 sgB ((sp1++s.extract n (n+q))++sp1) qD) (by simp) (.one (.inl rfl) (.one (qR rfl) .nil))) ?_;refine yz (Zz rfl rfl rfl id) ?_;apply yn;refine FinS.nil0 ?_;refine vS [0,2,4,40] ?_;refine yC rfl (fun ht40=>?_) (fun ht40=>?_);have ht1:tryL (dr s n) q=true:=(ZbC hn q).trans ht40;have hsg:signL (dr s n)=((⟨5,bl ((dr s n).take q),0⟩,0),q):=by
   unfold signL;rcases(show q=1\/q=2 by omega)with rfl|rfl
   · rw[if_neg (by rw[h2 qM];simp),if_pos ht1]
   · rw[if_pos ht1]
 have hfit:n+q<=s.size:=by have h:=ht40;simp only[Bool.and_eq_true,decide_eq_true_eq]at h;omega
 refine vQ ?_;refine Jm rfl (Jq (Z3 rfl) (Jq (Z0 Z6 rfl) (Jq (Z5 Zy rfl rfl) (Jm rfl (Jq (ZB (cc:=((n+q:Nat):Int)) rfl rfl qM qM qM) ?_)))));refine Jq (Z3 rfl) (Jq (Z0 Z6 rfl) (JO.m (Zc (cs':=[_,_]) rfl rfl qU rfl rfl rfl rfl Z30) (by rfl) ?_));refine vS [0,2,4] ?_;refine J.front b2 (by repeat(first|exact .here|apply Front.there)) ?_;refine J.reg1 hmx qK qK ?_;refine yz (Z1 rfl) (yz (Z3 rfl) (yz (Z0 Zv rfl) (yz (Z5 ZC rfl rfl) (yz (Z1 rfl) (yz (Z3 rfl) (yz (Z0 Z6 rfl) (yz (Z5 Zy rfl rfl) (yz (Z1 rfl) (yz (Z5J (cc:=(n:Int)) rfl rfl qM qM qM) ?_)))))))));refine yz (Z1 rfl) (yz (Z3 rfl) (yz (Z0 Z6 rfl) (yz (Z5 Zy rfl rfl) (yz (Z6Y Zi rfl rfl rfl qM qM qM) ?_))));refine yz (Zo (cs:=[_,_,_]) ZX (.cons rfl (.cons rfl .nil)) rfl rfl) ?_;refine RT.m rfl (Z2 rfl rfl qU qC qO ZN) (by rfl) ?_;refine yz (Z2i rfl) ?_;apply yn;refine FinS.nil1 ?_;refine vS [2,3] ?_;refine vR ?_;exact JX.retMC1is rfl HasOwn.mem rfl ZF HasOwn.mem rfl rfl (by rw[hsg];show Value.agg #[.int .i64 5,.string (s.extract n (n+q)),.int .i64 0]=_;rw[Zc3]) (by rw[hsg]) (by rw[hsg]);apply yK
 repeat first|apply yX|apply yB
 have ht2:tryL (dr s n) q=false:=(ZbC hn q).trans ht40;refine vQ ?_;refine Jm rfl (Jq (Z5J (cc:=((q-1:Nat):Int)) rfl rfl qM qM qM) ?_);refine Ja rfl ?_;apply yI
 repeat refine JX.normal_block ?_
 refine JX.roundG (x:=q) (q-1) ?_ ?_ [0,2,4] ?_ ?_ ?_ ?_
 · exact⟨by omega,fun h=>(by rcases(show q=1\/q=2 by omega)with rfl|rfl;exact h2 qM;exact ht2),fun h=>(by have:q=1:=qM;subst this;exact ht2)⟩
 · exact qM
 · exact qS
 · exact qH
 · exact qG
 · exact fun _ _ _=>fun _ _=>trivial
 try simp only[yd,yf]at ht6
 repeat apply yQ
 refine J.exit ?_
 repeat first|refine yH ?_|refine yM rfl ?_|refine yE ?_
 repeat first|apply yX|apply yB
 have hsg:signL (dr s n)=((t3D,30),0):=by unfold signL;rw[if_neg (by rw[h2 qM];simp),if_neg (by rw[h1 qM];simp)]
 refine vQ ?_;refine Jq (Zo (cs:=[_,_,_]) ZX .nil rfl rfl) (JO.m (Z2 rfl rfl qU qC qO ZN) (by rfl) ?_);refine Ja rfl (vS [2,3] ?_);refine vR ?_;exact JX.retMC1is rfl HasOwn.mem rfl ZF HasOwn.mem rfl rfl (by rw[hsg];rfl) (by rw[hsg]) (by rw[hsg];rfl)
end Go.Proofs.YtbedigkncjbggaaDoor
