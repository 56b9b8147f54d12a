/- Is a statement too deep. No condition. -/
import Derived.Test.YtbedigkncjbggaaGreatDoorXQ9
import Derived.Test.YtbedigkncjbggaaGreatDoorXQ10
import Derived.Test.YtbedigkncjbggaaGreatDoorXG7
import Derived.Test.YtbedigkncjbggaaGreatDoorXQ1
set_option maxRecDepth 20000
namespace Go.Proofs.YtbedigkncjbggaaGreatDoor
open Go Go.Vc
open Go.Pz
theorem Z4c{α:Type}{xs:List α}{i:Nat}(h:i<xs.length):xs.take (i+1)=xs.take i++[xs[i]]:=by simp
theorem Zcu{a b c d:Value}{k:Nat}(h:k<4):(dvs a b c d)[k]? =some ((dvs a b c d).getD k undef):=by
 rw[List.getD_eq_getElem?_getD,List.getElem?_eq_getElem (by exact h)];rfl
theorem ZdU(N b:Nat)(S0:Pz.St)(vc vn vr vi vf vw vg vo vs:Value)(hsm:SmS S0)(hec: ∀x∈exsOf S0,ect x<=4096):CallL Tryz.prog Zes [⟨b,Z3,.is (stV S0 vc vn vr vi vf vw vg vo vs)⟩] [SlE rwE noS S0.rows vr,SlE itE noS S0.items vi,SlE srE noS S0.from_ vf,SlE exE (FX N) S0.where_ vw,ExsR S0.group vg,SlE kyE noS S0.order vo,ExsR S0.sets vs] [.is (.pointer (some ⟨b,0,none⟩))] (fun _:Unit=>True) (fun _=>[⟨b,Z3,.is (stV S0 vc vn vr vi vf vw vg vo vs)⟩]) (fun _=>.is (.bool (deepS S0))):=
CallL.of (fn:=Tryz.f29) Tryz.func29 (n:=103) rfl rfl rfl (fun _ _=>by kernel_rfl) fun E W hb0=>by
 have hsm0:=hsm;obtain⟨hb1,hb2,hb3,hb4,hb5,hb6,hb7,hb8,hb9,hb10,hb11⟩:=hsm;refine J.shapeE (xs:=S0.rows) (v:=vr) qI (fun pr ar lr cr br or_ hpr hvr hlr har=>?_);refine J.shapeE (xs:=S0.items) (v:=vi) qI (fun pi ai li ci bi oi hpi hvi hli hai=>?_);refine J.shapeE (xs:=S0.from_) (v:=vf) qI (fun pf af lf cf bf of_ hpf hvf hlf haf=>?_);refine J.shapeE (xs:=S0.order) (v:=vo) qI (fun po ao lo co bo oo hpo hvo hlo hao=>?_);refine J.fact (ExsR S0.where_ vw) (fun X w hF _ w' hk=>SlE.exs (hF (SlE exE (FX N) S0.where_ vw) qI w' hk)) ?_;refine J.shapeK (xs:=S0.where_) (v:=vw) qI (fun aw lw cw bw ow hvw hlw haw=>?_);refine J.shapeK (xs:=S0.group) (v:=vg) qI (fun ag lg cg bg og hvg hlg hag=>?_);refine J.shapeK (xs:=S0.sets) (v:=vs) qI (fun ax lx cx bx ox hvx hlx hax=>?_);subst hvr hvi hvf hvo hvw hvg hvx;have nr:pr.length=S0.rows.length:=by rw[<-hpr,List.length_map]
 have ni:pi.length=S0.items.length:=by rw[<-hpi,List.length_map]
 have nf:pf.length=S0.from_.length:=by rw[<-hpf,List.length_map]
 have no:po.length=S0.order.length:=by rw[<-hpo,List.length_map]
 refine vQ ?_;refine Ja rfl (vP [0] ?_);refine Ja rfl (vP [0,3] ?_);refine Jm rfl (Jq (Z5 rfl) (Jq (Z0 Z2r rfl) (Jq (Z1 Z24 rfl rfl) (Jq (ZE Z2l rfl) (Jm rfl (vS [0,3,19,20,21] ?_))))));apply yk
 repeat apply yQ
 refine J.loopH (α:=List (Cel exE)×Option (Nat×List Value)×Nat×Nat) (fun z=>[(0,.is (.pointer (some ⟨b,0,none⟩))),(3,.is (sliceO z.2.1 z.1.length z.2.2.1)),(19,.is (.slice ar lr cr)),(20,.is (.int .i64 (lr:Nat))),(21,.is (.int .i64 (z.2.2.2:Nat)))]) (fun z=>ownO z.2.1 Zb [⟨b,Z3,.is (stV S0 vc vn (.slice ar lr cr) (.slice ai li ci) (.slice af lf cf) (.slice aw lw cw) (.slice ag lg cg) (.slice ao lo co) (.slice ax lx cx))⟩]) (fun z=>CelF exE z.1) (fun z=>z.2.2.2<=pr.length/\Grows Cel.cs 8 z.1 z.2.1 z.2.2.1/\z.1.map Cel.x=((pr.take z.2.2.2).map Cel.x).flatten/\z.1.length<=16*z.2.2.2) (fun z=>pr.length-z.2.2.2) ([],none,0,0) [0,3,19,20,21] (.cons rfl (.cons rfl (.cons rfl (.cons rfl (.cons rfl .nil))))) rfl (fun X w hF=>fun w' hk=>CelF.nil w') ⟨Nat.zero_le _,rfl,rfl,Nat.zero_le _⟩ fun⟨qpr,stpr,cappr,i⟩ ⟨hi,hGpr,hmpr,hlpr⟩=>?_;try dsimp only
 try dsimp only at hi
 try dsimp only at hGpr
 try dsimp only at hmpr
 try dsimp only at hlpr
 refine vQ ?_;refine Jq (ZC rfl rfl) (vS [0,3,19,20,21,22] ?_);refine yC rfl (fun ht22=>?_) (fun ht22=>?_)
 try simp only[yd,yf]at ht22
 apply yK;refine vN ?_;apply yk;refine J.fact (ExsR pr[i].x (hdv pr[i].cs)) (fun X w hF _ w' hk=>ZaW (List.getElem_mem _) (hF (CelF rwE pr) qI w' hk)) ?_;refine J.shapeX (xs:=pr[i].x) (v:=hdv pr[i].cs) qI (fun ps a2 l2 cap0 b2 o2 hps hv2 hl2 ha2=>?_);have hln:ps.length<=16:=by rw[<-List.length_map (f:=Cel.x),hps];exact hb2 _ (by rw[<-hpr];exact List.mem_map_of_mem (List.getElem_mem _))
 refine vQ ?_;refine Jq (Z9 Z3t rfl (har qM) rfl qM qM) ?_;refine Jq (ZK (sz:=1) (j:=0) (enc:=Cel.cs) (u:=hdv pr[i].cs) Zk rfl qI (har qM) (List.getElem?_eq_getElem (by omega:i<pr.length)) qM (by rw[ZjN];rfl)) ?_;refine Ja rfl (vS [0,3,5,19,20,21] ?_);rw[hv2];refine vQ ?_;refine Jm rfl (Jm rfl ?_);refine JO.apA (ps) Z1z Cel.hlen .here hGpr rfl rfl (fun L=>Z6n (a:=a2) (len:=l2) (cap:=cap0) Cel.hlen qD (fun p=>p.o) Zy qI) (by have:=hlpr;(try dsimp only at this);omega) (by have:=hlpr;(try dsimp only at this);omega) rfl (fun st2 cap2 hG2=>?_);refine Ja rfl (vP [0,3,19,20,21] ?_);refine Jq (Zv (cc:=((i+1:Nat):Int)) rfl rfl qM qM qM) ?_;refine Jm rfl ?_;apply yI
 repeat refine JX.normal_block ?_
 refine JX.roundG (x:=(qpr,stpr,cappr,i)) (qpr++ps,st2,cap2,i+1) ?_ ?_ [0,3,19,20,21] ?_ ?_ ?_ ?_
 · exact⟨(by show i+1<=_;omega),hG2,(by show(qpr++ps).map Cel.x=_;rw[List.map_append,hmpr,Z4c qM];simp only[List.map_append,List.map_cons,List.map_nil,List.flatten_append,List.flatten_cons,List.flatten_nil,List.append_nil,List.append_assoc,hps]),(by show(qpr++ps).length<=_;rw[List.length_append];have:=hlpr;have:=hln;(try dsimp only at*);omega)⟩
 · exact(by show pr.length-(i+1)<pr.length-i;omega)
 · exact qS
 · exact qH
 · exact qG
 · exact fun X w hF=>fun w' hk p hp=>(List.mem_append.1 hp).elim (fun hp=>hF (CelF exE qpr) qI w' hk p hp) (fun hp=>hF (CelF exE ps) qI w' hk p hp)
 try simp only[yd,yf]at ht22
 repeat apply yQ
 refine J.exit ?_
 repeat first|refine yH ?_|refine yM rfl ?_|refine yE ?_
 repeat first|apply yX|apply yB
 have hi2:i=pr.length:=by omega
 subst hi2;rw[List.take_length]at hmpr;rw[hpr]at hmpr;refine vQ ?_;refine Jm rfl (Jq (Z5 rfl) (Jq (Z0 Z2h rfl) (Jq (Z1 Z2v rfl rfl) (Jq (ZE Z36 rfl) (Jm rfl (vS [0,3,32,33,34] ?_))))));apply yk
 repeat apply yQ
 refine J.loopH (α:=List (Cel exE)×Option (Nat×List Value)×Nat×Nat) (fun z=>[(0,.is (.pointer (some ⟨b,0,none⟩))),(3,.is (sliceO z.2.1 z.1.length z.2.2.1)),(32,.is (.slice ai li ci)),(33,.is (.int .i64 (li:Nat))),(34,.is (.int .i64 (z.2.2.2:Nat)))]) (fun z=>ownO z.2.1 Zb [⟨b,Z3,.is (stV S0 vc vn (.slice ar lr cr) (.slice ai li ci) (.slice af lf cf) (.slice aw lw cw) (.slice ag lg cg) (.slice ao lo co) (.slice ax lx cx))⟩]) (fun z=>CelF exE z.1) (fun z=>z.2.2.2<=pi.length/\Grows Cel.cs 8 z.1 z.2.1 z.2.2.1/\z.1.map Cel.x=S0.rows.flatten++(pi.take z.2.2.2).map (·.x.ex)/\z.1.length<=512+z.2.2.2) (fun z=>pi.length-z.2.2.2) (qpr,stpr,cappr,0) [0,3,32,33,34] (.cons rfl (.cons rfl (.cons rfl (.cons rfl (.cons rfl .nil))))) rfl (fun X w hF=>hF _ qI) ⟨Nat.zero_le _,hGpr,(by rw[hmpr];simp),(by show qpr.length<=512+0;have:=hlpr;(try dsimp only at this);omega)⟩ fun⟨qpi,stpi,cappi,i⟩ ⟨hi,hGpi,hmpi,hlpi⟩=>?_;try dsimp only
 try dsimp only at hi
 try dsimp only at hGpi
 try dsimp only at hmpi
 try dsimp only at hlpi
 refine vQ ?_;refine Jq (ZC rfl rfl) (vS [0,3,32,33,34,35] ?_);refine yC rfl (fun ht35=>?_) (fun ht35=>?_)
 try simp only[yd,yf]at ht35
 apply yK;refine vN ?_;apply yk;obtain⟨u1,q1,hq1,hq2,hq3⟩:=Zik pi[i];obtain⟨c1,c2,c3,c4,c5,c6,c7,c8,hcs⟩:=cs8 q1;rw[hcs]at hq1;refine J.fact (CelR q1) (fun X w hF _ w' hk=>hq3 pi w' (List.getElem_mem _) (hF (CelF itE pi) qI w' hk)) ?_;refine vQ ?_;refine Jq (Z9 Z45 rfl (hai qM) rfl qM qM) ?_;refine Jq (Z3W (sz:=9) (enc:=Cel.cs) (cs:=[u1,c1,c2,c3,c4,c5,c6,c7,c8]) Z3V rfl qI (hai qM) (List.getElem?_eq_getElem (by omega:i<pi.length)) qM hq1) ?_;refine JO.alloc Z6p rfl fun b7=>(JO.m (Z4 rfl rfl qU (by exact Zh rfl rfl) (by exact Zh rfl (List.all_eq_true.2 (by have:=pi[i].o;rw[hq1]at this;exact this))) Z4z) (by rfl) ?_);refine vP [0,3,7,32,33,34] ?_;refine Jm rfl (Jq (Z0 Z5q rfl) (Jq (ZR (cs:=[_,_,_,_,_,_,_,_]) Z6 rfl rfl rfl) (Jq (Z2d (p:=q1) Z4l ZB rfl qD (by rw[show exE.v q1.cs= .agg #[c1,c2,c3,c4,c5,c6,c7,c8] by rw[hcs];rfl];exact rfl)) ?_)));refine JO.apA ([q1]) Z1z Cel.hlen (.there .here) hGpi rfl rfl (srcE q1 Zy) (by have:=hlpi;(try dsimp only at this);(try simp only[List.length_singleton]);omega) (by have:=hlpi;(try dsimp only at this);(try simp only[List.length_singleton]);omega) rfl (fun st2 cap2 hG2=>?_);refine Ja rfl (vP [0,3,32,33,34] ?_);refine Jq (Zv (cc:=((i+1:Nat):Int)) rfl rfl qM qM qM) ?_;refine Jm rfl ?_;apply yI
 repeat refine JX.normal_block ?_
 refine JX.roundG (x:=(qpi,stpi,cappi,i)) (qpi++[q1],st2,cap2,i+1) ?_ ?_ [0,3,32,33,34] ?_ ?_ ?_ ?_
 · exact⟨(by show i+1<=_;omega),hG2,(by show(qpi++[q1]).map Cel.x=_;rw[List.map_append,hmpi,Z4c qM];simp only[List.map_append,List.map_cons,List.map_nil,List.append_assoc,hq2]),(by show(qpi++[q1]).length<=_;rw[List.length_append];have:=hlpi;have:=(show[q1].length<=1 from Nat.le_refl 1);(try dsimp only at*);omega)⟩
 · exact(by show pi.length-(i+1)<pi.length-i;omega)
 · exact qS
 · exact qH
 · exact qG
 · exact fun X w hF=>fun w' hk p hp=>(List.mem_append.1 hp).elim (fun hp=>hF (CelF exE qpi) qI w' hk p hp) (fun hp=>by rw[List.mem_singleton.1 hp];exact hF (CelR q1) qI w' hk)
 try simp only[yd,yf]at ht35
 repeat apply yQ
 refine J.exit ?_
 repeat first|refine yH ?_|refine yM rfl ?_|refine yE ?_
 repeat first|apply yX|apply yB
 have hi2:i=pi.length:=by omega
 subst hi2;rw[List.take_length]at hmpi;refine vQ ?_;refine Jm rfl (Jq (Z5 rfl) (Jq (Z0 Z19 rfl) (Jq (Z1 Z1b rfl rfl) (Jq (ZE Z2g rfl) (Jm rfl (vS [0,3,47,48,49] ?_))))));apply yk
 repeat apply yQ
 refine J.loopH (α:=List (Cel exE)×Option (Nat×List Value)×Nat×Nat) (fun z=>[(0,.is (.pointer (some ⟨b,0,none⟩))),(3,.is (sliceO z.2.1 z.1.length z.2.2.1)),(47,.is (.slice af lf cf)),(48,.is (.int .i64 (lf:Nat))),(49,.is (.int .i64 (z.2.2.2:Nat)))]) (fun z=>ownO z.2.1 Zb [⟨b,Z3,.is (stV S0 vc vn (.slice ar lr cr) (.slice ai li ci) (.slice af lf cf) (.slice aw lw cw) (.slice ag lg cg) (.slice ao lo co) (.slice ax lx cx))⟩]) (fun z=>CelF exE z.1) (fun z=>z.2.2.2<=pf.length/\Grows Cel.cs 8 z.1 z.2.1 z.2.2.1/\z.1.map Cel.x=S0.rows.flatten++S0.items.map (·.ex)++((pf.take z.2.2.2).map (·.x.on)).flatten/\z.1.length<=528+z.2.2.2) (fun z=>pf.length-z.2.2.2) (qpi,stpi,cappi,0) [0,3,47,48,49] (.cons rfl (.cons rfl (.cons rfl (.cons rfl (.cons rfl .nil))))) rfl (fun X w hF=>hF _ qI) ⟨Nat.zero_le _,hGpi,(by rw[hmpi,<-hpi];first|(simp;done)|(simp;rfl)),(by show qpi.length<=528+0;have:=hlpi;(try dsimp only at this);omega)⟩ fun⟨qpf,stpf,cappf,i⟩ ⟨hi,hGpf,hmpf,hlpf⟩=>?_;try dsimp only
 try dsimp only at hi
 try dsimp only at hGpf
 try dsimp only at hmpf
 try dsimp only at hlpf
 refine vQ ?_;refine Jq (ZC rfl rfl) (vS [0,3,47,48,49,50] ?_);refine yC rfl (fun ht50=>?_) (fun ht50=>?_)
 try simp only[yd,yf]at ht50
 apply yK;refine vN ?_;apply yk;obtain⟨u1,u2,u3,hq1,hq3⟩:=ZhQ pf[i];refine J.fact (ExsR pf[i].x.on u3) (fun X w hF _ w' hk=>hq3 pf w' (List.getElem_mem _) (hF (CelF srE pf) qI w' hk)) ?_;refine J.shapeX (xs:=pf[i].x.on) (v:=u3) qI (fun ps a2 l2 cap0 b2 o2 hps hv2 hl2 ha2=>?_);subst hv2;have hln:ps.length<=1:=by rw[<-List.length_map (f:=Cel.x),hps];exact hb5 _ (by rw[<-hpf];exact List.mem_map_of_mem (List.getElem_mem _))
 refine vQ ?_;refine Jq (Z9 Z2o rfl (haf qM) rfl qM qM) ?_;refine Jq (Z3W (sz:=3) (enc:=Cel.cs) (cs:=[u1,u2,.slice a2 l2 cap0]) Z27 rfl qI (haf qM) (List.getElem?_eq_getElem (by omega:i<pf.length)) qM hq1) ?_;refine JO.alloc Z2W rfl fun b9=>(JO.m (Z4 rfl rfl qU (by exact Zh rfl rfl) (by exact Zh rfl (List.all_eq_true.2 (by have:=pf[i].o;rw[hq1]at this;exact this))) Z2s) (by rfl) ?_);refine vP [0,3,9,47,48,49] ?_;refine Jm rfl (Jq (Z0 Z2n rfl) (Jq (Z1 Zk rfl rfl) ?_));refine JO.apA (ps) Z1z Cel.hlen (.there .here) hGpf rfl rfl (fun L=>Z6n (a:=a2) (len:=l2) (cap:=cap0) Cel.hlen qD (fun p=>p.o) Zy qI) (by have:=hlpf;(try dsimp only at this);omega) (by have:=hlpf;(try dsimp only at this);omega) rfl (fun st2 cap2 hG2=>?_);refine Ja rfl (vP [0,3,47,48,49] ?_);refine Jq (Zv (cc:=((i+1:Nat):Int)) rfl rfl qM qM qM) ?_;refine Jm rfl ?_;apply yI
 repeat refine JX.normal_block ?_
 refine JX.roundG (x:=(qpf,stpf,cappf,i)) (qpf++ps,st2,cap2,i+1) ?_ ?_ [0,3,47,48,49] ?_ ?_ ?_ ?_
 · exact⟨(by show i+1<=_;omega),hG2,(by show(qpf++ps).map Cel.x=_;rw[List.map_append,hmpf,Z4c qM];simp only[List.map_append,List.map_cons,List.map_nil,List.flatten_append,List.flatten_cons,List.flatten_nil,List.append_nil,List.append_assoc,hps]),(by show(qpf++ps).length<=_;rw[List.length_append];have:=hlpf;have:=hln;(try dsimp only at*);omega)⟩
 · exact(by show pf.length-(i+1)<pf.length-i;omega)
 · exact qS
 · exact qH
 · exact qG
 · exact fun X w hF=>fun w' hk p hp=>(List.mem_append.1 hp).elim (fun hp=>hF (CelF exE qpf) qI w' hk p hp) (fun hp=>hF (CelF exE ps) qI w' hk p hp)
 try simp only[yd,yf]at ht50
 repeat apply yQ
 refine J.exit ?_
 repeat first|refine yH ?_|refine yM rfl ?_|refine yE ?_
 repeat first|apply yX|apply yB
 have hi2:i=pf.length:=by omega
 subst hi2;rw[List.take_length]at hmpf;refine vQ ?_;refine Jm rfl (Jq (Z5 rfl) (Jq (Z0 Z1W rfl) (Jq (Z1 Z2q rfl rfl) (Jq (ZE Z2X rfl) (Jm rfl (vS [0,3,61,62,63] ?_))))));apply yk
 repeat apply yQ
 refine J.loopH (α:=List (Cel exE)×Option (Nat×List Value)×Nat×Nat) (fun z=>[(0,.is (.pointer (some ⟨b,0,none⟩))),(3,.is (sliceO z.2.1 z.1.length z.2.2.1)),(61,.is (.slice ao lo co)),(62,.is (.int .i64 (lo:Nat))),(63,.is (.int .i64 (z.2.2.2:Nat)))]) (fun z=>ownO z.2.1 Zb [⟨b,Z3,.is (stV S0 vc vn (.slice ar lr cr) (.slice ai li ci) (.slice af lf cf) (.slice aw lw cw) (.slice ag lg cg) (.slice ao lo co) (.slice ax lx cx))⟩]) (fun z=>CelF exE z.1) (fun z=>z.2.2.2<=po.length/\Grows Cel.cs 8 z.1 z.2.1 z.2.2.1/\z.1.map Cel.x=S0.rows.flatten++S0.items.map (·.ex)++(S0.from_.map (·.on)).flatten++(po.take z.2.2.2).map (·.x.ex)/\z.1.length<=532+z.2.2.2) (fun z=>po.length-z.2.2.2) (qpf,stpf,cappf,0) [0,3,61,62,63] (.cons rfl (.cons rfl (.cons rfl (.cons rfl (.cons rfl .nil))))) rfl (fun X w hF=>hF _ qI) ⟨Nat.zero_le _,hGpf,(by rw[hmpf,<-hpf];first|(simp;done)|(simp;rfl)),(by show qpf.length<=532+0;have:=hlpf;(try dsimp only at this);omega)⟩ fun⟨qpo,stpo,cappo,i⟩ ⟨hi,hGpo,hmpo,hlpo⟩=>?_;try dsimp only
 try dsimp only at hi
 try dsimp only at hGpo
 try dsimp only at hmpo
 try dsimp only at hlpo
 refine vQ ?_;refine Jq (ZC rfl rfl) (vS [0,3,61,62,63,64] ?_);refine yC rfl (fun ht64=>?_) (fun ht64=>?_)
 try simp only[yd,yf]at ht64
 apply yK;refine vN ?_;apply yk;obtain⟨u1,q1,hq1,hq2,hq3⟩:=Zho po[i];obtain⟨c1,c2,c3,c4,c5,c6,c7,c8,hcs⟩:=cs8 q1;rw[hcs]at hq1;refine J.fact (CelR q1) (fun X w hF _ w' hk=>hq3 po w' (List.getElem_mem _) (hF (CelF kyE po) qI w' hk)) ?_;refine vQ ?_;refine Jq (Z9 Z4r rfl (hao qM) rfl qM qM) ?_;refine Jq (Z3W (sz:=9) (enc:=Cel.cs) (cs:=[c1,c2,c3,c4,c5,c6,c7,c8,u1]) Z2V rfl qI (hao qM) (List.getElem?_eq_getElem (by omega:i<po.length)) qM hq1) ?_;refine JO.alloc Z4Y rfl fun b11=>(JO.m (Z4 rfl rfl qU (by exact Zh rfl rfl) (by exact Zh rfl (List.all_eq_true.2 (by have:=po[i].o;rw[hq1]at this;exact this))) Z3Q) (by rfl) ?_);refine vP [0,3,11,61,62,63] ?_;refine Jm rfl (Jq (Z0 Z4M rfl) (Jq (ZR (cs:=[_,_,_,_,_,_,_,_]) Z6 rfl rfl rfl) (Jq (Z2d (p:=q1) Z4l ZB rfl qD (by rw[show exE.v q1.cs= .agg #[c1,c2,c3,c4,c5,c6,c7,c8] by rw[hcs];rfl];exact rfl)) ?_)));refine JO.apA ([q1]) Z1z Cel.hlen (.there .here) hGpo rfl rfl (srcE q1 Zy) (by have:=hlpo;(try dsimp only at this);(try simp only[List.length_singleton]);omega) (by have:=hlpo;(try dsimp only at this);(try simp only[List.length_singleton]);omega) rfl (fun st2 cap2 hG2=>?_);refine Ja rfl (vP [0,3,61,62,63] ?_);refine Jq (Zv (cc:=((i+1:Nat):Int)) rfl rfl qM qM qM) ?_;refine Jm rfl ?_;apply yI
 repeat refine JX.normal_block ?_
 refine JX.roundG (x:=(qpo,stpo,cappo,i)) (qpo++[q1],st2,cap2,i+1) ?_ ?_ [0,3,61,62,63] ?_ ?_ ?_ ?_
 · exact⟨(by show i+1<=_;omega),hG2,(by show(qpo++[q1]).map Cel.x=_;rw[List.map_append,hmpo,Z4c qM];simp only[List.map_append,List.map_cons,List.map_nil,List.append_assoc,hq2]),(by show(qpo++[q1]).length<=_;rw[List.length_append];have:=hlpo;have:=(show[q1].length<=1 from Nat.le_refl 1);(try dsimp only at*);omega)⟩
 · exact(by show po.length-(i+1)<po.length-i;omega)
 · exact qS
 · exact qH
 · exact qG
 · exact fun X w hF=>fun w' hk p hp=>(List.mem_append.1 hp).elim (fun hp=>hF (CelF exE qpo) qI w' hk p hp) (fun hp=>by rw[List.mem_singleton.1 hp];exact hF (CelR q1) qI w' hk)
 try simp only[yd,yf]at ht64
 repeat apply yQ
 refine J.exit ?_
 repeat first|refine yH ?_|refine yM rfl ?_|refine yE ?_
 repeat first|apply yX|apply yB
 have hi2:i=po.length:=by omega
 subst hi2;rw[List.take_length]at hmpo;rw[hGpo.sl.1];refine J.freezeOMW (N:=0) (e:=Zb) (sz:=8) (Nat.zero_le _) Cel.hlen hGpo .here (fun q hq=>⟨_,List.mem_cons_self,(List.mem_singleton.1 hq).symm⟩) rfl rfl ?_;refine J.fact (ExsR (S0.rows.flatten++S0.items.map (·.ex)++(S0.from_.map (·.on)).flatten++S0.order.map (·.ex)) (.slice (adO stpo) qpo.length (capO stpo cappo))) (fun X w hF _ w' hk=>⟨_,_,_,rfl,by rw[show(S0.rows.flatten++S0.items.map (·.ex)++(S0.from_.map (·.on)).flatten++S0.order.map (·.ex))=qpo.map Cel.x from by rw[hmpo,<-hpo];first|(simp;done)|(simp;rfl)];exact Cel.kids (hF (RowG Cel.cs 8 qpo (adO stpo) qpo.length) qI w' hk) (hF (CelF exE qpo) qI w' hk)⟩) ?_
 repeat apply yQ
 refine J.reg0 hmx qK qK ?_;refine yz (Z2 rfl) (yz (Z2 rfl) (yz (Z5 rfl) (yz (Z0 Z26 rfl) (yz (Z1 Zk rfl rfl) (yz (Z2 rfl) (yz (Z5 rfl) (yz (Z0 Z3p rfl) (yz (Z1 Zk rfl rfl) (yz (Z2 rfl) (yz (Z5 rfl) (yz (Z0 Z32 rfl) ?_)))))))))));refine yz (Z1 Zk rfl rfl) (yz (Zx (cs:=[_,_,_,_]) Z5b qM qM (.cons rfl (.cons rfl (.cons rfl (.cons rfl .nil)))) rfl rfl rfl) ?_);refine yz (Zi3 Z2l rfl) (yz (Z2 rfl) ?_);apply yn;refine FinS.nil0 ?_;refine vS [86,87,88] ?_;apply yk
 repeat apply yQ
 refine J.openNew (s:=86) rfl (fun b86=>?_);refine J.loopF (α:=Nat) (fun k=>[(86,.is (.slice (some ⟨b86,0,none⟩) 4 4)),(87,.is (.int .i64 ((4:Nat):Int))),(88,.is (.int .i64 (k:Nat)))]) (fun k=>k<=4/\ ∀j,j<k->∀i,i<((deepX S0).getD j []).length->¬32<hgt (((deepX S0).getD j []).getD i ex0)) (fun k=>4-k) 0 [86,87,88] (.cons rfl (.cons rfl (.cons rfl .nil))) ⟨Nat.zero_le _,fun j hj=>absurd hj (Nat.not_lt_zero _)⟩ fun k ⟨hk,hall⟩=>?_;refine vQ ?_;refine Jq (ZC rfl rfl) (vS [86,87,88,89] ?_);refine yC rfl (fun ht89=>?_) (fun ht89=>?_)
 try simp only[yd,yf]at ht89
 apply yK;refine vN ?_;apply yk;refine vQ ?_;refine Jq (Z9 Z3t rfl rfl rfl qM qM) ?_;refine Jq (Zcy (cs:=(dvs (.slice (adO stpo) qpo.length (capO stpo cappo)) (.slice aw lw cw) (.slice ag lg cg) (.slice ax lx cx))) (u:=(dvs (.slice (adO stpo) qpo.length (capO stpo cappo)) (.slice aw lw cw) (.slice ag lg cg) (.slice ax lx cx)).getD k undef) Zk rfl qI (by first|exact Zcu (k:=k) qM|(rw[show(0+1*k)=k by omega];exact Zcu (k:=k) qM)|(rw[Nat.mul_one,Int.toNat_natCast,Nat.zero_add];exact Zcu (k:=k) qM))) ?_;refine Ja rfl (vS [13,86,87,88] ?_);refine J.shapeK (xs:=((deepX S0).getD k [])) (v:=(dvs (.slice (adO stpo) qpo.length (capO stpo cappo)) (.slice aw lw cw) (.slice ag lg cg) (.slice ax lx cx)).getD k undef) (by
     match k,(show k<4 by omega)with
     |0,_=>exact qI
     |1,_=>exact qI
     |2,_=>exact qI
     |3,_=>exact qI) (fun a l2 cap2 b2 o2 hv hlk ha=>?_)
 have hl3:=Zd7 hsm0 k;rw[hv];refine vQ ?_;refine Jm rfl (Jq (ZE Zy rfl) (Jm rfl (vS [86,87,88,92,93,94] ?_)));apply yk
 repeat apply yQ
 refine J.loopF (α:=Nat) (fun i=>[(86,_),(87,_),(88,_),(92,_),(93,_),(94,.is (.int .i64 (i:Nat)))]) (fun i=>i<=l2/\ ∀j,j<i->¬32<hgt (((deepX S0).getD k []).getD j ex0)) (fun i=>l2-i) 0 [86,87,88,92,93,94] (.cons rfl (.cons rfl (.cons rfl (.cons rfl (.cons rfl (.cons rfl .nil)))))) ⟨Nat.zero_le _,fun j hj=>absurd hj (Nat.not_lt_zero _)⟩ fun i ⟨hi,hin⟩=>?_;refine vQ ?_;refine Jq (ZC rfl rfl) (vS [86,87,88,92,93,94,95] ?_);refine yC rfl (fun ht95=>?_) (fun ht95=>?_)
 try simp only[yd,yf]at ht95
 apply yK;refine vN ?_;apply yk;refine vQ ?_;refine Jq (Z9 ZO rfl (ha qM) rfl qM qM) ?_;refine Jq (Z1q (kid:=((deepX S0).getD k []).getD i ex0) Z6 rfl qI (ha qM) (Z1B qM) qM) ?_;refine JO.alloc ZT rfl fun b15=>(JO.m (Z4 rfl rfl qU qC qO Zc) (by rfl) ?_);refine vP [15,86,87,88,92,93,94] ?_;refine Jq (Z1J Z6 rfl) (Jq (Zo rfl (Z8K 4096 (((deepX S0).getD k []).getD i ex0) (hec _ (Zao (Z1l qM))) (hec _ (Zao (Z1l qM)))) (.one rfl .nil)) ?_);refine Jq (Z13 rfl rfl) (vS [86,87,88,92,93,94,100] ?_);refine yC rfl (fun ht100=>?_) (fun ht100=>?_)
 try simp only[yd,yf]at ht100
 refine vQ ?_;refine Ja rfl (vS [2] ?_);refine vR ?_;exact JX.retL1 (Lr:=[_]) rfl () trivial (.swap _ _ _) rfl rfl hb0 rfl (Sub.isEq (by rw[ZhD (s:=S0) (k:=k) (i:=i) qM qM]))
 try simp only[yd,yf]at ht100
 apply yK;refine vN ?_;apply yN;refine Jq (Zv (cc:=((i+1:Nat):Int)) rfl rfl qM qM qM) ?_;refine Jm rfl ?_;apply yI
 repeat refine JX.normal_block ?_
 refine JX.roundS (i+1) ?_ ?_ [86,87,88,92,93,94] ?_ ?_ ?_
 · exact⟨by omega,fun j hj=>if h:j=i then by subst h;omega else hin j qM⟩
 · exact qM
 · exact qS
 · exact qB
 · exact qB
 try simp only[yd,yf]at ht95
 repeat apply yQ
 refine J.exit ?_
 repeat first|refine yH ?_|refine yM rfl ?_|refine yE ?_
 refine vN ?_;apply yN;refine Jq (Zv (cc:=((k+1:Nat):Int)) rfl rfl qM qM qM) ?_;refine Jm rfl ?_;apply yI
 repeat refine JX.normal_block ?_
 refine JX.roundS (k+1) ?_ ?_ [86,87,88] ?_ ?_ ?_
 · exact⟨by omega,fun j hj=>if h:j=k then by subst h;intro i2 hi2;exact hin i2 qM else hall j qM⟩
 · exact qM
 · exact qS
 · exact qB
 · exact qB
 try simp only[yd,yf]at ht89
 repeat apply yQ
 refine J.exit ?_
 repeat first|refine yH ?_|refine yM rfl ?_|refine yE ?_
 refine vN ?_;apply yN;refine Ja rfl (vS [2] ?_);refine vR ?_;exact JX.retL1 (Lr:=[]) rfl () trivial (.refl _) rfl rfl hb0 rfl (Sub.isEq (by rw[ZiN (s:=S0) (fun j hj=>hall j qM)]))
theorem Sub.exsK{L:List Own}{Φ:List (World->Prop)}{kids:List Ex}{a:Option Addr}{len cap:Nat}(h:KidsR kids a len∈Φ):Sub L Φ (.is (.slice a len cap)) (.rep (ExsR kids)):=fun E v w hf e=>by
 rw[show v=_ from e];exact fun w' hk=>⟨a,len,cap,rfl,hf.2 _ h w' hk⟩
theorem J.pureF{P:Program}{c:Ctx}{K:List (Nat×Ty)}{L:List Own}{Φ:List (World->Prop)}{Q:Exit->Act->World->Prop}{y:Code}{F:World->Prop}(h:F∈Φ)(hj:(∃w,F w)->J P c K L Φ y Q):J P c K L Φ y Q:=
 ⟨fun X a w hs=>(hj ⟨w,(hs.f F h).now⟩).out X a w hs⟩
theorem Zkb{ps:List (Cel coE)}{l:List Col}(h: ∃w,CelF coE ps w)(hm:ps.map Cel.x=l){i:Nat}(hi:i<ps.length)(hi':i<l.length):ps[i].cs=[.string (l[i]).nm,.int .i64 (l[i]).ty,.bool (l[i]).nn,.bool (l[i]).un]:=by
 obtain⟨w,hw⟩:=h;subst hm;have:ps[i].cs=(ps[i].x).cells:=hw _ (List.getElem_mem hi);rw[this];simp[Col.cells]
theorem ZaN{ps:List (Cel stE)}{l:List ByteArray}(h: ∃w,CelF stE ps w)(hm:ps.map Cel.x=l){i:Nat}(hi:i<ps.length)(hi':i<l.length):ps[i].cs=[.string (l[i])]:=by
 obtain⟨w,hw⟩:=h;subst hm;have:ps[i].cs=[.string ps[i].x]:=hw _ (List.getElem_mem hi);rw[this];simp
theorem ZjP{xs:List Ex}{v:Value}{w:World}(h:ExsR xs v w): ∃a cap,v= .slice a xs.length cap:=by
 obtain⟨a,len,cap,rfl,hk⟩:=h;exact⟨a,cap,by rw[hk.1]⟩
theorem Zki{ps:List (Cel rwE)}{l:List (List Ex)}(h: ∃w,CelF rwE ps w)(hm:ps.map Cel.x=l){i:Nat}(hi:i<ps.length)(hi':i<l.length): ∃a cap,ps[i].cs=[.slice a (l[i]).length cap]:=by
 obtain⟨w,hw⟩:=h;subst hm;obtain⟨v,h1,h2⟩:=hw _ (List.getElem_mem hi);obtain⟨a,cap,rfl⟩:=ZjP h2;exact⟨a,cap,by rw[h1];simp⟩
theorem ZkB{ps:List (Cel itE)}{l:List Itm}(h: ∃w,CelF itE ps w)(hm:ps.map Cel.x=l){i:Nat}(hi:i<ps.length)(hi':i<l.length):(ps[i].cs)[0]? =some (.bool (l[i]).all):=by
 obtain⟨w,hw⟩:=h;subst hm;obtain⟨es,h1,h2⟩:=hw _ (List.getElem_mem hi);rw[h1];simp
theorem Zgr{ps:List (Cel srE)}{l:List Pz.Src}(h: ∃w,CelF srE ps w)(hm:ps.map Cel.x=l){i:Nat}(hi:i<ps.length)(hi':i<l.length): ∃a cap,ps[i].cs=[.string (l[i]).tb,.string (l[i]).nm,.slice a (l[i]).on.length cap]:=by
 obtain⟨w,hw⟩:=h;subst hm;obtain⟨v,h1,h2⟩:=hw _ (List.getElem_mem hi);obtain⟨a,cap,rfl⟩:=ZjP h2;exact⟨a,cap,by rw[h1];simp⟩
theorem Zku{ps:List (Cel kyE)}{l:List Ky}(h: ∃w,CelF kyE ps w)(hm:ps.map Cel.x=l){i:Nat}(hi:i<ps.length)(hi':i<l.length):(ps[i].cs)[8]? =some (.bool (l[i]).desc):=by
 obtain⟨w,hw⟩:=h;subst hm;obtain⟨es,h1,h2⟩:=hw _ (List.getElem_mem hi);have h8:=Z7B h2;rw[h1,List.getElem?_append_right qM,h8];simp
theorem Zb9(N:Nat)(S0:Pz.St)(hsm:SmS S0):CallTy Tryz.prog ZfF [.rep (StR N S0)] (.rep (ExsR (exsOf S0))):=
 CallTy.of (fn:=Tryz.f18) Tryz.func18 (n:=81) rfl rfl rfl (fun _ _=>by kernel_rfl) fun E W=>by
 refine J.openSt (s:=0) rfl (fun vc vn vr vi vf vw vg vo vs=>?_);have hsm0:=hsm;obtain⟨hb1,hb2,hb3,hb4,hb5,hb6,hb7,hb8,hb9,hb10,hb11⟩:=hsm;refine J.shapeE (xs:=S0.rows) (v:=vr) qI (fun pr ar lr cr br or_ hpr hvr hlr har=>?_);refine J.shapeE (xs:=S0.items) (v:=vi) qI (fun pi ai li ci bi oi hpi hvi hli hai=>?_);refine J.shapeE (xs:=S0.from_) (v:=vf) qI (fun pf af lf cf bf of_ hpf hvf hlf haf=>?_);refine J.shapeE (xs:=S0.order) (v:=vo) qI (fun po ao lo co bo oo hpo hvo hlo hao=>?_);refine J.fact (ExsR S0.where_ vw) (fun X w hF _ w' hk=>SlE.exs (hF (SlE exE (FX N) S0.where_ vw) qI w' hk)) ?_;refine J.shapeX (xs:=S0.where_) (v:=vw) qI (fun pw aw lw cw bw ow hpw hvw hlw haw=>?_);refine J.shapeX (xs:=S0.group) (v:=vg) qI (fun pg ag lg cg bg og hpg hvg hlg hag=>?_);refine J.shapeX (xs:=S0.sets) (v:=vs) qI (fun px ax lx cx bx ox hpx hvx hlx hax=>?_);subst hvr hvi hvf hvo hvw hvg hvx;have nr:pr.length=S0.rows.length:=by rw[<-hpr,List.length_map]
 have ni:pi.length=S0.items.length:=by rw[<-hpi,List.length_map]
 have nf:pf.length=S0.from_.length:=by rw[<-hpf,List.length_map]
 have no:po.length=S0.order.length:=by rw[<-hpo,List.length_map]
 have nw:pw.length=S0.where_.length:=by rw[<-hpw,List.length_map]
 have ng:pg.length=S0.group.length:=by rw[<-hpg,List.length_map]
 have nx:px.length=S0.sets.length:=by rw[<-hpx,List.length_map]
 refine vQ ?_;refine JO.box rfl rfl fun b1=>(Ja rfl (vP [1] ?_));refine Ja rfl (vP [1,3] ?_);refine Ja rfl (vS [1,3,4] ?_);apply yk
 repeat apply yQ
 refine J.loopH (α:=List (Cel exE)×Option (Nat×List Value)×Nat×Nat) (fun z=>[(1,.is (.pointer (some ⟨b1,0,none⟩))),(3,.is (sliceO z.2.1 z.1.length z.2.2.1)),(4,.is (.int .i64 (z.2.2.2:Nat)))]) (fun z=>ownO z.2.1 Zb [⟨b1,Z3,.is (stV S0 vc vn (.slice ar lr cr) (.slice ai li ci) (.slice af lf cf) (.slice aw lw cw) (.slice ag lg cg) (.slice ao lo co) (.slice ax lx cx))⟩]) (fun z=>CelF exE z.1) (fun z=>z.2.2.2<=pr.length/\Grows Cel.cs 8 z.1 z.2.1 z.2.2.1/\z.1.map Cel.x=((pr.take z.2.2.2).map Cel.x).flatten/\z.1.length<=16*z.2.2.2) (fun z=>pr.length-z.2.2.2) ([],none,0,0) [1,3,4] (.cons rfl (.cons rfl (.cons rfl .nil))) rfl (fun X w hF=>fun w' hk=>CelF.nil w') ⟨Nat.zero_le _,rfl,rfl,Nat.zero_le _⟩ fun⟨qpr,stpr,cappr,i⟩ ⟨hi,hGpr,hmpr,hlpr⟩=>?_;try dsimp only
 try dsimp only at hi
 try dsimp only at hGpr
 try dsimp only at hmpr
 try dsimp only at hlpr
 refine vQ ?_;refine Jm rfl (Jq (Z0 Z2r rfl) (Jq (Z1 Z24 rfl rfl) (Jq (ZE Z2l rfl) (Jq (ZC rfl rfl) (vS [1,3,4,12] ?_)))));refine yC rfl (fun ht12=>?_) (fun ht12=>?_)
 try simp only[yd,yf]at ht12
 apply yK;refine vN ?_;apply yk;refine J.fact (ExsR pr[i].x (hdv pr[i].cs)) (fun X w hF _ w' hk=>ZaW (List.getElem_mem _) (hF (CelF rwE pr) qI w' hk)) ?_;refine J.shapeX (xs:=pr[i].x) (v:=hdv pr[i].cs) qI (fun ps a2 l2 cap0 b2 o2 hps hv2 hl2 ha2=>?_);have hln:ps.length<=16:=by rw[<-List.length_map (f:=Cel.x),hps];exact hb2 _ (by rw[<-hpr];exact List.mem_map_of_mem (List.getElem_mem _))
 refine vQ ?_;refine Jm rfl (Jq (Z0 Z2r rfl) (Jq (Z1 Z24 rfl rfl) (Jm rfl (Jq (Z9 Z3t rfl (har qM) rfl qM qM) ?_))));refine Jq (ZK (sz:=1) (j:=0) (enc:=Cel.cs) (u:=.slice a2 l2 cap0) Zk rfl qI (har qM) (List.getElem?_eq_getElem (by omega:i<pr.length)) qM (by rw[ZjN,hv2];rfl)) ?_;refine JO.apA (ps) Z1z Cel.hlen .here hGpr rfl rfl (fun L=>Z6n (a:=a2) (len:=l2) (cap:=cap0) Cel.hlen qD (fun p=>p.o) Zy qI) (by have:=hlpr;(try dsimp only at this);omega) (by have:=hlpr;(try dsimp only at this);omega) rfl (fun st2 cap2 hG2=>?_);refine Ja rfl (vP [1,3,4] ?_);refine Jm rfl (Jq (Zv (cc:=((i+1:Nat):Int)) rfl rfl qM qM qM) ?_);refine Ja rfl ?_;apply yI
 repeat refine JX.normal_block ?_
 refine JX.roundG (x:=(qpr,stpr,cappr,i)) (qpr++ps,st2,cap2,i+1) ?_ ?_ [1,3,4] ?_ ?_ ?_ ?_
 · exact⟨(by show i+1<=_;omega),hG2,(by show(qpr++ps).map Cel.x=_;rw[List.map_append,hmpr,Z4c qM];simp only[List.map_append,List.map_cons,List.map_nil,List.flatten_append,List.flatten_cons,List.flatten_nil,List.append_nil,List.append_assoc,hps]),(by show(qpr++ps).length<=_;rw[List.length_append];have:=hlpr;have:=hln;(try dsimp only at*);omega)⟩
 · exact(by show pr.length-(i+1)<pr.length-i;omega)
 · exact qS
 · exact qH
 · exact qG
 · exact fun X w hF=>fun w' hk p hp=>(List.mem_append.1 hp).elim (fun hp=>hF (CelF exE qpr) qI w' hk p hp) (fun hp=>hF (CelF exE ps) qI w' hk p hp)
 try simp only[yd,yf]at ht12
 repeat apply yQ
 refine J.exit ?_
 repeat first|refine yH ?_|refine yM rfl ?_|refine yE ?_
 repeat first|apply yX|apply yB
 have hi2:i=pr.length:=by omega
 subst hi2;rw[List.take_length]at hmpr;rw[hpr]at hmpr;refine vQ ?_;refine Ja rfl (vS [1,3,5] ?_);apply yk
 repeat apply yQ
 refine J.loopH (α:=List (Cel exE)×Option (Nat×List Value)×Nat×Nat) (fun z=>[(1,.is (.pointer (some ⟨b1,0,none⟩))),(3,.is (sliceO z.2.1 z.1.length z.2.2.1)),(5,.is (.int .i64 (z.2.2.2:Nat)))]) (fun z=>ownO z.2.1 Zb [⟨b1,Z3,.is (stV S0 vc vn (.slice ar lr cr) (.slice ai li ci) (.slice af lf cf) (.slice aw lw cw) (.slice ag lg cg) (.slice ao lo co) (.slice ax lx cx))⟩]) (fun z=>CelF exE z.1) (fun z=>z.2.2.2<=pi.length/\Grows Cel.cs 8 z.1 z.2.1 z.2.2.1/\z.1.map Cel.x=S0.rows.flatten++(pi.take z.2.2.2).map (·.x.ex)/\z.1.length<=512+z.2.2.2) (fun z=>pi.length-z.2.2.2) (qpr,stpr,cappr,0) [1,3,5] (.cons rfl (.cons rfl (.cons rfl .nil))) rfl (fun X w hF=>hF _ qI) ⟨Nat.zero_le _,hGpr,(by rw[hmpr];simp),(by show qpr.length<=512+0;have:=hlpr;(try dsimp only at this);omega)⟩ fun⟨qpi,stpi,cappi,i⟩ ⟨hi,hGpi,hmpi,hlpi⟩=>?_;try dsimp only
 try dsimp only at hi
 try dsimp only at hGpi
 try dsimp only at hmpi
 try dsimp only at hlpi
 refine vQ ?_;refine Jm rfl (Jq (Z0 Z2h rfl) (Jq (Z1 Z2v rfl rfl) (Jq (ZE Z36 rfl) (Jq (ZC rfl rfl) (vS [1,3,5,26] ?_)))));refine yC rfl (fun ht26=>?_) (fun ht26=>?_)
 try simp only[yd,yf]at ht26
 apply yK;refine vN ?_;apply yk;obtain⟨u1,q1,hq1,hq2,hq3⟩:=Zik pi[i];obtain⟨c1,c2,c3,c4,c5,c6,c7,c8,hcs⟩:=cs8 q1;refine J.fact (CelR q1) (fun X w hF _ w' hk=>hq3 pi w' (List.getElem_mem _) (hF (CelF itE pi) qI w' hk)) ?_;refine vQ ?_;refine Jm rfl (Jq (Z0 Z2h rfl) (Jq (Z1 Z2v rfl rfl) (Jm rfl (Jq (Z9 Z45 rfl (hai qM) rfl qM qM) ?_))));refine Jq (Z0 Z5q rfl) ?_;refine Jq (Z82 (sz:=9) (i:=i) (j:=1) (n:=8) (enc:=Cel.cs) (cs:=q1.cs) (by rw[q1.h];exact Z6) rfl qI (hai qM) (List.getElem?_eq_getElem (by omega:i<pi.length)) qM (by rw[hq1];show(List.drop 1 (u1::q1.cs)).take 8=q1.cs;rw[List.drop_one,List.tail_cons,List.take_of_length_le (by rw[q1.h];exact Nat.le_refl _)])) ?_;refine Jq (Z2d (p:=q1) Z4l ZB rfl qD rfl) ?_;refine JO.apA ([q1]) Z1z Cel.hlen .here hGpi rfl rfl (srcE q1 Zy) (by have:=hlpi;(try dsimp only at this);(try simp only[List.length_singleton]);omega) (by have:=hlpi;(try dsimp only at this);(try simp only[List.length_singleton]);omega) rfl (fun st2 cap2 hG2=>?_);refine Ja rfl (vP [1,3,5] ?_);refine Jm rfl (Jq (Zv (cc:=((i+1:Nat):Int)) rfl rfl qM qM qM) ?_);refine Ja rfl ?_;apply yI
 repeat refine JX.normal_block ?_
 refine JX.roundG (x:=(qpi,stpi,cappi,i)) (qpi++[q1],st2,cap2,i+1) ?_ ?_ [1,3,5] ?_ ?_ ?_ ?_
 · exact⟨(by show i+1<=_;omega),hG2,(by show(qpi++[q1]).map Cel.x=_;rw[List.map_append,hmpi,Z4c qM];simp only[List.map_append,List.map_cons,List.map_nil,List.append_assoc,hq2]),(by show(qpi++[q1]).length<=_;rw[List.length_append];have:=hlpi;have:=(show[q1].length<=1 from Nat.le_refl 1);(try dsimp only at*);omega)⟩
 · exact(by show pi.length-(i+1)<pi.length-i;omega)
 · exact qS
 · exact qH
 · exact qG
 · exact fun X w hF=>fun w' hk p hp=>(List.mem_append.1 hp).elim (fun hp=>hF (CelF exE qpi) qI w' hk p hp) (fun hp=>by rw[List.mem_singleton.1 hp];exact hF (CelR q1) qI w' hk)
 try simp only[yd,yf]at ht26
 repeat apply yQ
 refine J.exit ?_
 repeat first|refine yH ?_|refine yM rfl ?_|refine yE ?_
 repeat first|apply yX|apply yB
 have hi2:i=pi.length:=by omega
 subst hi2;rw[List.take_length]at hmpi;refine vQ ?_;refine Ja rfl (vS [1,3,6] ?_);apply yk
 repeat apply yQ
 refine J.loopH (α:=List (Cel exE)×Option (Nat×List Value)×Nat×Nat) (fun z=>[(1,.is (.pointer (some ⟨b1,0,none⟩))),(3,.is (sliceO z.2.1 z.1.length z.2.2.1)),(6,.is (.int .i64 (z.2.2.2:Nat)))]) (fun z=>ownO z.2.1 Zb [⟨b1,Z3,.is (stV S0 vc vn (.slice ar lr cr) (.slice ai li ci) (.slice af lf cf) (.slice aw lw cw) (.slice ag lg cg) (.slice ao lo co) (.slice ax lx cx))⟩]) (fun z=>CelF exE z.1) (fun z=>z.2.2.2<=pf.length/\Grows Cel.cs 8 z.1 z.2.1 z.2.2.1/\z.1.map Cel.x=S0.rows.flatten++S0.items.map (·.ex)++((pf.take z.2.2.2).map (·.x.on)).flatten/\z.1.length<=528+z.2.2.2) (fun z=>pf.length-z.2.2.2) (qpi,stpi,cappi,0) [1,3,6] (.cons rfl (.cons rfl (.cons rfl .nil))) rfl (fun X w hF=>hF _ qI) ⟨Nat.zero_le _,hGpi,(by rw[hmpi,<-hpi];first|(simp;done)|(simp;rfl)),(by show qpi.length<=528+0;have:=hlpi;(try dsimp only at this);omega)⟩ fun⟨qpf,stpf,cappf,i⟩ ⟨hi,hGpf,hmpf,hlpf⟩=>?_;try dsimp only
 try dsimp only at hi
 try dsimp only at hGpf
 try dsimp only at hmpf
 try dsimp only at hlpf
 refine vQ ?_;refine Jm rfl (Jq (Z0 Z19 rfl) (Jq (Z1 Z1b rfl rfl) (Jq (ZE Z2g rfl) (Jq (ZC rfl rfl) (vS [1,3,6,42] ?_)))));refine yC rfl (fun ht42=>?_) (fun ht42=>?_)
 try simp only[yd,yf]at ht42
 apply yK;refine vN ?_;apply yk;obtain⟨u1,u2,u3,hq1,hq3⟩:=ZhQ pf[i];refine J.fact (ExsR pf[i].x.on u3) (fun X w hF _ w' hk=>hq3 pf w' (List.getElem_mem _) (hF (CelF srE pf) qI w' hk)) ?_;refine J.shapeX (xs:=pf[i].x.on) (v:=u3) qI (fun ps a2 l2 cap0 b2 o2 hps hv2 hl2 ha2=>?_);subst hv2;have hln:ps.length<=1:=by rw[<-List.length_map (f:=Cel.x),hps];exact hb5 _ (by rw[<-hpf];exact List.mem_map_of_mem (List.getElem_mem _))
 refine vQ ?_;refine Jm rfl (Jq (Z0 Z19 rfl) (Jq (Z1 Z1b rfl rfl) (Jm rfl (Jq (Z9 Z2o rfl (haf qM) rfl qM qM) ?_))));refine Jq (Z0 Z2n rfl) ?_;refine Jq (ZK (sz:=3) (j:=2) (enc:=Cel.cs) (u:=.slice a2 l2 cap0) Zk rfl qI (haf qM) (List.getElem?_eq_getElem (by omega:i<pf.length)) qM (by rw[hq1];rfl)) ?_;refine JO.apA (ps) Z1z Cel.hlen .here hGpf rfl rfl (fun L=>Z6n (a:=a2) (len:=l2) (cap:=cap0) Cel.hlen qD (fun p=>p.o) Zy qI) (by have:=hlpf;(try dsimp only at this);omega) (by have:=hlpf;(try dsimp only at this);omega) rfl (fun st2 cap2 hG2=>?_);refine Ja rfl (vP [1,3,6] ?_);refine Jm rfl (Jq (Zv (cc:=((i+1:Nat):Int)) rfl rfl qM qM qM) ?_);refine Ja rfl ?_;apply yI
 repeat refine JX.normal_block ?_
 refine JX.roundG (x:=(qpf,stpf,cappf,i)) (qpf++ps,st2,cap2,i+1) ?_ ?_ [1,3,6] ?_ ?_ ?_ ?_
 · exact⟨(by show i+1<=_;omega),hG2,(by show(qpf++ps).map Cel.x=_;rw[List.map_append,hmpf,Z4c qM];simp only[List.map_append,List.map_cons,List.map_nil,List.flatten_append,List.flatten_cons,List.flatten_nil,List.append_nil,List.append_assoc,hps]),(by show(qpf++ps).length<=_;rw[List.length_append];have:=hlpf;have:=hln;(try dsimp only at*);omega)⟩
 · exact(by show pf.length-(i+1)<pf.length-i;omega)
 · exact qS
 · exact qH
 · exact qG
 · exact fun X w hF=>fun w' hk p hp=>(List.mem_append.1 hp).elim (fun hp=>hF (CelF exE qpf) qI w' hk p hp) (fun hp=>hF (CelF exE ps) qI w' hk p hp)
 try simp only[yd,yf]at ht42
 repeat apply yQ
 refine J.exit ?_
 repeat first|refine yH ?_|refine yM rfl ?_|refine yE ?_
 repeat first|apply yX|apply yB
 have hi2:i=pf.length:=by omega
 subst hi2;rw[List.take_length]at hmpf;refine vQ ?_;refine Ja rfl (vS [1,3,7] ?_);apply yk
 repeat apply yQ
 refine J.loopH (α:=List (Cel exE)×Option (Nat×List Value)×Nat×Nat) (fun z=>[(1,.is (.pointer (some ⟨b1,0,none⟩))),(3,.is (sliceO z.2.1 z.1.length z.2.2.1)),(7,.is (.int .i64 (z.2.2.2:Nat)))]) (fun z=>ownO z.2.1 Zb [⟨b1,Z3,.is (stV S0 vc vn (.slice ar lr cr) (.slice ai li ci) (.slice af lf cf) (.slice aw lw cw) (.slice ag lg cg) (.slice ao lo co) (.slice ax lx cx))⟩]) (fun z=>CelF exE z.1) (fun z=>z.2.2.2<=po.length/\Grows Cel.cs 8 z.1 z.2.1 z.2.2.1/\z.1.map Cel.x=S0.rows.flatten++S0.items.map (·.ex)++(S0.from_.map (·.on)).flatten++(po.take z.2.2.2).map (·.x.ex)/\z.1.length<=532+z.2.2.2) (fun z=>po.length-z.2.2.2) (qpf,stpf,cappf,0) [1,3,7] (.cons rfl (.cons rfl (.cons rfl .nil))) rfl (fun X w hF=>hF _ qI) ⟨Nat.zero_le _,hGpf,(by rw[hmpf,<-hpf];first|(simp;done)|(simp;rfl)),(by show qpf.length<=532+0;have:=hlpf;(try dsimp only at this);omega)⟩ fun⟨qpo,stpo,cappo,i⟩ ⟨hi,hGpo,hmpo,hlpo⟩=>?_;try dsimp only
 try dsimp only at hi
 try dsimp only at hGpo
 try dsimp only at hmpo
 try dsimp only at hlpo
 refine vQ ?_;refine Jm rfl (Jq (Z0 Z1W rfl) (Jq (Z1 Z2q rfl rfl) (Jq (ZE Z2X rfl) (Jq (ZC rfl rfl) (vS [1,3,7,57] ?_)))));refine yC rfl (fun ht57=>?_) (fun ht57=>?_)
 try simp only[yd,yf]at ht57
 apply yK;refine vN ?_;apply yk;obtain⟨u1,q1,hq1,hq2,hq3⟩:=Zho po[i];obtain⟨c1,c2,c3,c4,c5,c6,c7,c8,hcs⟩:=cs8 q1;refine J.fact (CelR q1) (fun X w hF _ w' hk=>hq3 po w' (List.getElem_mem _) (hF (CelF kyE po) qI w' hk)) ?_;refine vQ ?_;refine Jm rfl (Jq (Z0 Z1W rfl) (Jq (Z1 Z2q rfl rfl) (Jm rfl (Jq (Z9 Z4r rfl (hao qM) rfl qM qM) ?_))));refine Jq (Z0 Z4M rfl) ?_;refine Jq (Z82 (sz:=9) (i:=i) (j:=0) (n:=8) (enc:=Cel.cs) (cs:=q1.cs) (by rw[q1.h];exact Z6) rfl qI (hao qM) (List.getElem?_eq_getElem (by omega:i<po.length)) qM (by rw[hq1];show(List.drop 0 (q1.cs++[u1])).take 8=q1.cs;rw[List.drop_zero];exact List.take_left' q1.h)) ?_;refine Jq (Z2d (p:=q1) Z4l ZB rfl qD rfl) ?_;refine JO.apA ([q1]) Z1z Cel.hlen .here hGpo rfl rfl (srcE q1 Zy) (by have:=hlpo;(try dsimp only at this);(try simp only[List.length_singleton]);omega) (by have:=hlpo;(try dsimp only at this);(try simp only[List.length_singleton]);omega) rfl (fun st2 cap2 hG2=>?_);refine Ja rfl (vP [1,3,7] ?_);refine Jm rfl (Jq (Zv (cc:=((i+1:Nat):Int)) rfl rfl qM qM qM) ?_);refine Ja rfl ?_;apply yI
 repeat refine JX.normal_block ?_
 refine JX.roundG (x:=(qpo,stpo,cappo,i)) (qpo++[q1],st2,cap2,i+1) ?_ ?_ [1,3,7] ?_ ?_ ?_ ?_
 · exact⟨(by show i+1<=_;omega),hG2,(by show(qpo++[q1]).map Cel.x=_;rw[List.map_append,hmpo,Z4c qM];simp only[List.map_append,List.map_cons,List.map_nil,List.append_assoc,hq2]),(by show(qpo++[q1]).length<=_;rw[List.length_append];have:=hlpo;have:=(show[q1].length<=1 from Nat.le_refl 1);(try dsimp only at*);omega)⟩
 · exact(by show po.length-(i+1)<po.length-i;omega)
 · exact qS
 · exact qH
 · exact qG
 · exact fun X w hF=>fun w' hk p hp=>(List.mem_append.1 hp).elim (fun hp=>hF (CelF exE qpo) qI w' hk p hp) (fun hp=>by rw[List.mem_singleton.1 hp];exact hF (CelR q1) qI w' hk)
 try simp only[yd,yf]at ht57
 repeat apply yQ
 refine J.exit ?_
 repeat first|refine yH ?_|refine yM rfl ?_|refine yE ?_
 repeat first|apply yX|apply yB
 have hi2:i=po.length:=by omega
 subst hi2;rw[List.take_length]at hmpo;refine vQ ?_;refine Jm rfl (Jq (Z0 Z26 rfl) (Jq (Z1 Zk rfl rfl) ?_));refine JO.apA (pw) Z1z Cel.hlen .here hGpo rfl rfl (fun L=>Z6n (a:=aw) (len:=lw) (cap:=cw) Cel.hlen qD (fun p=>p.o) Zy qI) (by have:=hlpo;(try dsimp only at this);omega) (by have:=hlpo;(try dsimp only at this);omega) rfl (fun st4 cap4 hG4=>?_);refine Ja rfl (vP [1,3] ?_);refine Jm rfl (Jq (Z0 Z3p rfl) (Jq (Z1 Zk rfl rfl) ?_));refine JO.apA (pg) Z1z Cel.hlen .here hG4 rfl rfl (fun L=>Z6n (a:=ag) (len:=lg) (cap:=cg) Cel.hlen qD (fun p=>p.o) Zy qI) (by have:=hlpo;(try dsimp only at this);simp only[List.length_append];omega) (by have:=hlpo;(try dsimp only at this);simp only[List.length_append];omega) rfl (fun st5 cap5 hG5=>?_);refine Ja rfl (vP [1,3] ?_);refine Jm rfl (Jq (Z0 Z32 rfl) (Jq (Z1 Zk rfl rfl) ?_));refine JO.apA (px) Z1z Cel.hlen .here hG5 rfl rfl (fun L=>Z6n (a:=ax) (len:=lx) (cap:=cx) Cel.hlen qD (fun p=>p.o) Zy qI) (by have:=hlpo;(try dsimp only at this);simp only[List.length_append];omega) (by have:=hlpo;(try dsimp only at this);simp only[List.length_append];omega) rfl (fun st6 cap6 hG6=>?_);refine Ja rfl (vS [2] ?_);refine J.freezeOMW (N:=0) (e:=Zb) (sz:=8) (Nat.zero_le _) Cel.hlen hG6 .here (fun q hq=>hq.elim) rfl rfl ?_;refine J.fact (ExsR (exsOf S0) (sliceO st6 (qpo++pw++pg++px).length cap6)) (fun X w hF _ w' hk=>by rw[hG6.sl.1];exact⟨_,_,_,rfl,by rw[show exsOf S0=(qpo++pw++pg++px).map Cel.x from by unfold exsOf;rw[List.map_append,List.map_append,List.map_append,hmpo,hpw,hpg,hpx,<-hpo];first|(simp;done)|(simp;rfl)];exact Cel.kids (hF (RowG Cel.cs 8 (qpo++pw++pg++px) (adO st6) (qpo++pw++pg++px).length) qI w' hk) (fun p hp=>by
       rcases List.mem_append.1 hp with hp|hp
       · rcases List.mem_append.1 hp with hp|hp
         · rcases List.mem_append.1 hp with hp|hp
           · exact hF (CelF exE qpo) qI w' hk p hp
           · exact hF (CelF exE pw) qI w' hk p hp
         · exact hF (CelF exE pg) qI w' hk p hp
       · exact hF (CelF exE px) qI w' hk p hp)⟩) ?_
 refine vR ?_;exact JX.ret1sub rfl rfl rfl (Sub.fact qI)
theorem Zg0(p:Cel itE)(h: ∃w,CelR p w): ∃q:Cel exE,p.cs= .bool p.x.all::q.cs/\q.x=p.x.ex/\ ∀w,CelR p w->CelR q w:=by
 obtain⟨w,es,hes,hR⟩:=h;obtain⟨x,cs,h,o⟩:=p;dsimp only at hes;subst hes;refine⟨⟨x.ex,es,Z7B hR,fun u hu=>o u (List.mem_cons_of_mem _ hu)⟩,rfl,rfl,fun w hw=>?_⟩;obtain⟨es',h1,h2⟩:=hw;injection h1 with _ h1
 subst h1;exact h2
theorem ZfY(p:Cel kyE)(h: ∃w,CelR p w): ∃q:Cel exE,p.cs=q.cs++[.bool p.x.desc]/\q.x=p.x.ex/\ ∀w,CelR p w->CelR q w:=by
 obtain⟨w,es,hes,hR⟩:=h;obtain⟨x,cs,h,o⟩:=p;dsimp only at hes;subst hes;refine⟨⟨x.ex,es,Z7B hR,fun u hu=>o u (List.mem_append_left _ hu)⟩,rfl,rfl,fun w hw=>?_⟩;obtain⟨es',h1,h2⟩:=hw;have h3:es=es':=(List.append_inj' h1 rfl).1;subst h3;exact h2
theorem CallF.arg{P:Program}{f:FuncId}{Fs:List (World->Prop)}{R1 R2:Value->World->Prop}{T:Ty}(h:CallF P f Fs [.rep R1] T)(hR: ∀v w,R2 v w->R1 v w):CallF P f Fs [.rep R2] T:=
 ⟨h.enter,fun E w vs hw hΦ ht=>h.calls E w vs hw hΦ (by
  cases vs with
  |nil=>exact ht
  |cons v vs=>exact⟨fun w' hk=>hR v w' (ht.1 w' hk),ht.2⟩)⟩
theorem ZjS{r:List Ex}(v:Value)(w:World)(h:rwE.T r v w):ExsR r v w:=by
 obtain⟨cs,rfl,u,rfl,h⟩:=h;exact h
theorem Sub.celX{L:List Own}{Φ:List (World->Prop)}{q:Cel exE}{x:Ex}(h:CelR q∈Φ)(hx:q.x=x):Sub L Φ (.is (.agg q.cs.toArray)) (.rep (ExR x)):=fun X v w hf e=>by
 rw[show v=_ from e];exact fun w' hk=>by have:=hf.2 _ h w' hk;rw[<-hx];exact this
theorem Zlt{t:Int}(h1:1<=t)(h3:t<=3):([.string ⟨#[32,73,78,84]⟩,.string ⟨#[32,66,79,79,76]⟩,.string ⟨#[32,84,69,88,84]⟩]:List Value).toArray[(t-1).toNat]? =some (.string (bl (32::tx (typW t)))):=by
 have:t=1\/t=2\/t=3:=by omega
 rcases this with rfl|rfl|rfl<;>rfl
theorem Ze9(t:Int):(tx (typW t)).length<=4:=by
 unfold typW
 repeat' split
 all_goals decide
theorem Zf7{l:List Ex}(h: ∀x∈l,GE x): ∀x∈l,(prE x).length<=400000000000:=fun x hx=>by have:=(h x hx).len;omega
theorem Zah{t:Int}(h1:1<=t)(h3:t<=3):txTy t=32::tx (typW t):=by unfold txTy;rw[if_pos (by simp only[Bool.and_eq_true,decide_eq_true_eq];exact⟨h1,h3⟩)]
theorem ZcY(c:Col)(hw:wfCol nmOk c):CallF Tryz.prog Z8v [GF,TF] [.rep (coE.T c)] (.is (.string (bl (txC c)))):=
CallF.of (fn:=Tryz.f43) Tryz.func43 (n:=30) rfl rfl rfl (fun _ _=>by kernel_rfl) fun E W=>by
 obtain⟨n,t,nn,un⟩:=c;obtain⟨hn0,h1t,h3t⟩:=(show nmOk n/\1<=t/\t<=3 from hw);have hnl:=Z1y hn0;have hnl2:n.data.toList.length<=2048:=hnl;have htl:=Ze9 t;refine J.openT (s:=0) rfl (fun p hp=>?_);refine J.pureF (F:=CelR p) qI (fun pu=>?_);have hcs:p.cs=[.string n,.int .i64 t,.bool nn,.bool un]:=by obtain⟨w,hw⟩:=pu;have h9:p.cs=p.x.cells:=hw;rw[h9,hp];rfl
 rw[show coE.v p.cs= .agg p.cs.toArray from rfl,hcs];refine vQ ?_;refine JO.box rfl rfl fun b1=>(Ja rfl (vP [1] ?_));refine Jq (Z0 Z8b rfl) (Jq (Z1 Za rfl rfl) (Ja rfl (vS [1,3] ?_)));refine J.reg0 hmx qK qK ?_;refine yz (Z0 Z2U rfl) (yz (Z1 Zq rfl rfl) (yz (Z2Z rfl rfl) (yz (Z2 rfl) (yg rfl rfl rfl (fun hg=>Z0 Z2U (.inl rfl)) (yg rfl rfl rfl (fun hg=>Z1 Zq (qR rfl) rfl) ?_)))));refine yg rfl rfl rfl (fun hg=>Z3U (qR rfl) (.inl rfl)) ?_;refine yz (Zn rfl rfl rfl id) ?_;apply yn;refine FinS.nil0 ?_;refine vS [1,3,13] ?_;refine yC rfl (fun ht13=>?_) (fun ht13=>?_)
 try simp only[yd,yf]at ht13
 refine vQ ?_;refine Jm rfl (Jq (Zg (cs:=[_,_,_]) Zbk (.cons rfl (.cons rfl (.cons rfl .nil))) rfl rfl) (Jq (Z0 Z2U rfl) (Jq (Z1 Zq rfl rfl) (Jq (Z63 (v:=t-1) rfl rfl (Z1H qM qM)) ?_))));refine Jq (Z4w (n:=3) (e:=9) qK Za qK rfl rfl qM qM (Zlt h1t h3t)) ?_;refine Jq (Z7 rfl rfl (sz2 qZ qZ) (Zf (tx n) _)) ?_;refine Ja rfl (vP [1,3] ?_);refine Jq (Z0 Z4E rfl) (Jq (Z1 Z1E rfl rfl) (vS [1,3,22] ?_));refine yC rfl (fun ht22=>?_) (fun ht22=>?_)
 try simp only[yd,yf]at ht22
 refine vQ ?_;refine Jm rfl (Jq (Z7 rfl rfl (sz2 qZ qZ) (Zf _ [32,78,79,84,32,78,85,76,76])) ?_);refine Ja rfl (vP [1,3] ?_);refine Jq (Z0 Z3M rfl) (Jq (Z1 Z1E rfl rfl) (vS [3,26] ?_));refine yC rfl (fun ht26=>?_) (fun ht26=>?_)
 try simp only[yd,yf]at ht26
 refine vQ ?_;refine Jm rfl (Jq (Z7 rfl rfl (sz2 qZ qZ) (Zf _ [32,85,78,73,81,85,69])) ?_);refine Ja rfl (vP [3] ?_);refine Jm rfl (Ja rfl (vS [2] ?_));refine vR ?_;exact JX.ret1is rfl rfl (by unfold txC;dsimp only;rw[Zah h1t h3t,ht22,ht26];simp)
 try simp only[yd,yf]at ht26
 apply yK;refine vN ?_;apply yN;refine Jm rfl (Ja rfl (vS [2] ?_));refine vR ?_;exact JX.ret1is rfl rfl (by unfold txC;dsimp only;rw[Zah h1t h3t,ht22,ht26];simp)
 try simp only[yd,yf]at ht22
 apply yK;refine vN ?_;apply yN;refine Jq (Z0 Z3M rfl) (Jq (Z1 Z1E rfl rfl) (vS [3,26] ?_));refine yC rfl (fun ht26=>?_) (fun ht26=>?_)
 try simp only[yd,yf]at ht26
 refine vQ ?_;refine Jm rfl (Jq (Z7 rfl rfl (sz2 qZ qZ) (Zf _ [32,85,78,73,81,85,69])) ?_);refine Ja rfl (vP [3] ?_);refine Jm rfl (Ja rfl (vS [2] ?_));refine vR ?_;exact JX.ret1is rfl rfl (by unfold txC;dsimp only;rw[Zah h1t h3t,ht22,ht26];simp)
 try simp only[yd,yf]at ht26
 apply yK;refine vN ?_;apply yN;refine Jm rfl (Ja rfl (vS [2] ?_));refine vR ?_;exact JX.ret1is rfl rfl (by unfold txC;dsimp only;rw[Zah h1t h3t,ht22,ht26];simp)
 try simp only[yd,yf]at ht13
 exfalso
 simp at ht13;omega
theorem Ze6(i:Itm)(hw:i.all=true\/(i.all=false/\GE i.ex)):CallF Tryz.prog Zaz [GF,TF] [.rep (itE.T i)] (.is (.string (bl (txItm i)))):=
CallF.of (fn:=Tryz.f87) Tryz.func87 (n:=8) rfl rfl rfl (fun _ _=>by kernel_rfl) fun E W=>by
 refine J.openT (s:=0) rfl (fun p hp=>?_);refine J.pureF (F:=CelR p) qI (fun pu=>?_);subst hp;obtain⟨q,hq1,hq2,hq3⟩:=Zg0 p pu;refine J.fact (CelR q) (fun X w hF _ w' hk=>hq3 w' (hF (CelR p) qI w' hk)) ?_;rw[show itE.v p.cs= .agg p.cs.toArray from rfl,hq1];refine vQ ?_;refine JO.box rfl rfl fun b1=>(Ja rfl (vP [1] ?_));refine Jq (Z0 Za1 rfl) (Jq (Z1 Z1E rfl rfl) (vS [1,4] ?_));refine yC rfl (fun ht4=>?_) (fun ht4=>?_)
 try simp only[yd,yf]at ht4
 refine vQ ?_;refine Ja rfl (vS [2] ?_);refine vR ?_;exact JX.ret1is rfl rfl (by unfold txItm;rw[if_pos ht4])
 try simp only[yd,yf]at ht4
 apply yK;refine vN ?_;apply yN;refine Jq (Z0 Z5q rfl) (Jq (ZR (cs:=q.cs) Z6 rfl (by show(((Value.bool p.x.all::q.cs).toArray.toList).drop 1).take 8=_;rw[List.toList_toArray,List.drop_one,List.tail_cons,List.take_of_length_le (by rw[q.h];exact Nat.le_refl _)]) q.h) ?_);refine Jq (ZN rfl (c_PE (x:=p.x.ex) ((hw.resolve_left (by rw[ht4];decide)).2).1 ((hw.resolve_left (by rw[ht4];decide)).2).2) qF (.sub rfl (Sub.celX qI hq2) .nil)) ?_;refine Ja rfl (vS [2] ?_);refine vR ?_;exact JX.ret1is rfl rfl (by unfold txItm;rw[if_neg (by rw[ht4];decide)])
theorem Zfw(i:Ky)(hw:GE i.ex):CallF Tryz.prog Zba [GF,TF] [.rep (kyE.T i)] (.is (.string (bl (txKy i)))):=
CallF.of (fn:=Tryz.f89) Tryz.func89 (n:=12) rfl rfl rfl (fun _ _=>by kernel_rfl) fun E W=>by
 refine J.openT (s:=0) rfl (fun p hp=>?_);refine J.pureF (F:=CelR p) qI (fun pu=>?_);subst hp;obtain⟨q,hq1,hq2,hq3⟩:=ZfY p pu;refine J.fact (CelR q) (fun X w hF _ w' hk=>hq3 w' (hF (CelR p) qI w' hk)) ?_;rw[show kyE.v p.cs= .agg p.cs.toArray from rfl,hq1];have hpl:=hw.len;refine vQ ?_;refine JO.box rfl rfl fun b1=>(Ja rfl (vP [1] ?_));refine Jq (Z0 Z5T rfl) ?_;refine Jq (Z1 (V:=Value.agg (q.cs++[Value.bool p.x.desc]).toArray) (v:=Value.bool p.x.desc) Z1E rfl (by show nth (q.cs++[Value.bool p.x.desc]) (0+8)=_;rw[ZeI,List.getElem?_append_right (by rw[q.h];exact Nat.le_refl _),q.h];rfl)) ?_;refine vS [1,4] ?_;refine yC rfl (fun ht4=>?_) (fun ht4=>?_)
 try simp only[yd,yf]at ht4
 refine vQ ?_;refine Jq (Z0 Z4M rfl) (Jq (ZR (cs:=q.cs) Z6 rfl (by show(((q.cs++[Value.bool p.x.desc]).toArray.toList).drop 0).take 8=_;rw[List.toList_toArray,List.drop_zero];exact List.take_left' q.h) q.h) ?_);refine Jq (ZN rfl (c_PE (x:=p.x.ex) (hw).1 (hw).2) qF (.sub rfl (Sub.celX qI hq2) .nil)) ?_;refine Jq (Z7 rfl rfl (sz2 qZ qZ) (Zf _ [32,68,69,83,67])) ?_;refine Ja rfl (vS [2] ?_);refine vR ?_;exact JX.ret1is rfl rfl (by unfold txKy;rw[if_pos ht4])
 try simp only[yd,yf]at ht4
 apply yK;refine vN ?_;apply yN;refine Jq (Z0 Z4M rfl) (Jq (ZR (cs:=q.cs) Z6 rfl (by show(((q.cs++[Value.bool p.x.desc]).toArray.toList).drop 0).take 8=_;rw[List.toList_toArray,List.drop_zero];exact List.take_left' q.h) q.h) ?_);refine Jq (ZN rfl (c_PE (x:=p.x.ex) (hw).1 (hw).2) qF (.sub rfl (Sub.celX qI hq2) .nil)) ?_;refine Ja rfl (vS [2] ?_);refine vR ?_;exact JX.ret1is rfl rfl (by unfold txKy;rw[if_neg (by rw[ht4];decide),List.append_nil])
theorem Z7n(r:List Ex)(hn:r.length<=64)(hw: ∀x∈r,GE x):CallF Tryz.prog Z5u [GF,TF] [.rep (ExsR r)] (.is (.string (bl (txR r)))):=
CallF.of (fn:=Tryz.f84) Tryz.func84 (n:=7) rfl rfl rfl (fun _ _=>by kernel_rfl) fun E W=>by
 have hj:=jl (p:=prE) hn fun x hx=>(hw x hx).len;refine vQ ?_;refine Ja rfl (vP [0] ?_);refine Jm rfl (Jq (ZN rfl (Z5A r prE Z4V (fun x hx=>c_PE (hw x hx).1 (hw x hx).2) hn (Zf7 hw)) qF qA) ?_);refine Jq (Z7 rfl rfl (sz2 qZ qZ) (Zf [40] _)) ?_;refine Jq (Z7 rfl rfl (sz2 qZ qZ) (Zf _ [41])) ?_;refine Ja rfl (vS [2] ?_);refine vR ?_;exact JX.ret1is rfl rfl (rfl)
theorem Z2N(w:List UInt8)(hwl:w.length<=10)(xs:List Ex)(hn:xs.length<=64)(hw: ∀x∈xs,GE x):CallF Tryz.prog ZcW [GF,TF] [.is (.string (bl (32::(w++[32])))),.rep (ExsR xs)] (.is (.string (bl (txCl w xs)))):=
CallF.of (fn:=Tryz.f47) Tryz.func47 (n:=12) rfl rfl rfl (fun _ _=>by kernel_rfl) fun E W=>by
 have hj:=jl (p:=prE) hn fun x hx=>(hw x hx).len;refine J.openExs (s:=1) rfl (fun a len cap b o hlen ha=>?_);subst hlen;refine vQ ?_;refine Ja rfl (vP [0,1] ?_);refine Jm rfl (Jq (ZE Zy rfl) (Jq (Zu rfl rfl) (vS [0,1,7] ?_)));refine yC rfl (fun ht7=>?_) (fun ht7=>?_)
 try simp only[yd,yf]at ht7
 refine vQ ?_;refine Ja rfl (vS [4] ?_);refine vR ?_;exact JX.ret1is rfl rfl (by have h0:xs=[]:=List.length_eq_zero_iff.1 (by have h9:=ht7;simp only[beq_iff_eq]at h9;omega);subst h0;rfl)
 try simp only[yd,yf]at ht7
 apply yK;refine vN ?_;apply yN;refine Jm rfl (Jm rfl (Jq (ZN rfl (Z5A xs prE Z4V (fun x hx=>c_PE (hw x hx).1 (hw x hx).2) hn (Zf7 hw)) qF (.sub rfl (Sub.exsK qI) qA)) ?_));refine Jq (Z7 rfl rfl (sz2 qZ qZ) (Zf _ _)) ?_;refine Ja rfl (vS [4] ?_);refine vR ?_;exact JX.ret1is rfl rfl (by unfold txCl;rw[if_neg (fun h9=>by rw[List.isEmpty_iff.1 h9]at ht7;simp at ht7)];simp)
end Go.Proofs.YtbedigkncjbggaaGreatDoor
