/- The document's printer: statements. No condition. -/
import Derived.Test.YtbedigkncjbggaaGreatDoorXQ13
import Derived.Test.YtbedigkncjbggaaGreatDoorXQ1
import Derived.Test.YtbedigkncjbggaaGreatDoorXQ6
import Derived.Test.YtbedigkncjbggaaGreatDoorXQ12
import Derived.Test.YtbedigkncjbggaaGreatDoorXG8
import Derived.Test.YtbedigkncjbggaaGreatDoorXQ8
set_option maxRecDepth 20000
namespace Go.Proofs.YtbedigkncjbggaaGreatDoor
open Go Go.Vc
open Go.Pz
theorem ZaW{ps:List (Cel rwE)}{p:Cel rwE}{w:World}{v:Value}(hp:p∈ps)(h:CelF rwE ps w)(hc:p.cs=[v]):ExsR p.x v w:=by
 obtain⟨u,hu,hR⟩:=h p hp;rw[hc]at hu;injection hu with hu _
 rw[hu];exact hR
def iN(s:Pz.St):List UInt8:=([73,78,83,69,82,84,32,73,78,84,79,32]++tx s.tb)++txNs s.names
theorem ZlV(s:Pz.St):txI s=(iN s++[32,86,65,76,85,69,83,32])++joinC (s.rows.map txR):=by unfold txI iN;simp
theorem Zie{l:List ByteArray}(h:l.length≠0):txNs l=([32,40]++joinC (l.map tx))++[41]:=by
 unfold txNs;rw[if_neg (fun h9=>by rw[List.isEmpty_iff.1 h9]at h;exact h rfl)];simp
theorem Zhk{l:List ByteArray}(h:l.length=0):txNs l=[]:=by unfold txNs;rw[if_pos (List.isEmpty_iff.2 (List.length_eq_zero_iff.1 h))]
theorem ZmT{k:Int}(h7:7<=k)(h9:k<=9):([.string ⟨#[66,69,71,73,78]⟩,.string ⟨#[67,79,77,77,73,84]⟩,.string ⟨#[82,79,76,76,66,65,67,75]⟩]:List Value).toArray[(k-7).toNat]? =some (.string (bl (if k==7 then kBE else if k==8 then kCO else kRO))):=by
 have:k=7\/k=8\/k=9:=by omega
 rcases this with rfl|rfl|rfl<;>rfl
theorem nm4{l:List ByteArray}(h: ∀n∈l,nmOk n): ∀n∈l,(tx n).length<=400000000000:=fun n hn=>Nat.le_trans (Z1y (h n hn)) qD
set_option maxHeartbeats 4000000 in
theorem ZdJ(N:Nat)(s:Pz.St)(hg:GoodS s)(hsh:ShS s)(hk9:1<=s.kind/\s.kind<=9):CallTy Tryz.prog ZdC [.rep (StR N s)] (.is (.string (bl (txS s)))):=
 CallTy.of (fn:=Tryz.f21) Tryz.func21 (n:=135) rfl rfl rfl (fun _ _=>by kernel_rfl) fun E W=>by
 have htb:=hg.tb;have htb2:(tx s.tb).length<=2048:=htb;have hnm:=hg.nm;have hnm2:(tx s.nm).length<=2048:=hnm;have hjn:=jl (p:=tx) hg.nnames fun x hx=>Z1y (hg.names x hx);have hjc:=jl (p:=txC) hg.ncols fun x hx=>Z6f (hg.cols x hx);have hjr:=jl (p:=txR) hg.nrows fun x hx=>Z5D (hg.rows x hx);have hji:=jl (p:=txItm) hg.nitems fun x hx=>Z4b (hg.items x hx);have hjk:=jl (p:=txKy) hg.norder fun x hx=>Z4K (hg.order x hx);have hcw:=Z2S (w:=kWH) qD hg.nwhere hg.where_;have hcg:=Z2S (w:=kGB) qD hg.ngroup hg.group;have hjs:(joinC ((s.names.zip s.sets).map txSet)).length<=64*(20510000+2):=jl (p:=txSet) (by rw[List.length_zip];have:=hg.nnames;omega) fun x hx=>Z84 (hg.names _ (List.of_mem_zip hx).1) (hg.sets _ (List.of_mem_zip hx).2);refine J.openSt (s:=0) rfl (fun vc vn vr vi vf vw vg vo vs=>?_);refine vQ ?_;refine JO.box rfl rfl fun b1=>(Ja rfl (vP [1] ?_));refine Jq (Z0 Z2Y rfl) (Jq (Z1 Zq rfl rfl) (vS [1,10] ?_));apply yk;refine vQ ?_;refine Jq (Zu rfl rfl) (Ja rfl (vS [1,10,11] ?_));refine yC rfl (fun ht11=>?_) (fun ht11=>?_)
 try simp only[yd,yf]at ht11
 repeat apply yQ
 refine J.reg0 hmx qK qK ?_;refine yz (Z0 Z1V rfl) (yz (Z1 Za rfl rfl) (yz (Z7 (u:=bl ([67,82,69,65,84,69,32,84,65,66,76,69,32]++tx s.tb)) rfl rfl (sz3 qZ qZ) (Zf [67,82,69,65,84,69,32,84,65,66,76,69,32] (tx s.tb))) ?_));refine yz (Z7 (u:=bl (([67,82,69,65,84,69,32,84,65,66,76,69,32]++tx s.tb)++[32,40])) rfl rfl (sz3 qZ qZ) (Zf _ [32,40])) ?_;refine yz (Z0 Z4p rfl) (yz (Z1 Z4f rfl rfl) (yz (Zo rfl (ZeC s.cols hg.ncols hg.cols) (.sub rfl (Sub.noS (G:=FC N) qI) .nil)) ?_));refine yz (Z7 rfl rfl (sz3 qZ qZ) (Zf _ _)) ?_;refine yz (Z7 rfl rfl (sz3 qZ qZ) (Zf _ [41])) ?_;refine yz (Z15 rfl) ?_;apply yn;refine FinS.nil0 ?_;refine vS [2] ?_;refine vR ?_;exact JX.ret1is rfl rfl (by unfold txS;rw[if_pos ht11];simp)
 try simp only[yd,yf]at ht11
 refine vQ ?_;refine Jq (Zu rfl rfl) (Ja rfl (vS [1,10,22] ?_));refine yC rfl (fun ht22=>?_) (fun ht22=>?_)
 try simp only[yd,yf]at ht22
 repeat apply yQ
 refine J.reg0 hmx qK qK ?_;refine yz (Z0 Z6R rfl) (yz (Z1 Za rfl rfl) (yz (Z7 (u:=bl ([67,82,69,65,84,69,32,73,78,68,69,88,32]++tx s.nm)) rfl rfl (sz3 qZ qZ) (Zf [67,82,69,65,84,69,32,73,78,68,69,88,32] (tx s.nm))) ?_));refine yz (Z7 rfl rfl (sz3 qZ qZ) (Zf _ [32,79,78,32])) ?_;refine yz (Z0 Z1V rfl) (yz (Z1 Za rfl rfl) (yz (Z7 rfl rfl (sz3 qZ qZ) (Zf _ (tx s.tb))) ?_));refine yz (Z7 rfl rfl (sz3 qZ qZ) (Zf _ [32,40])) ?_;refine yz (Z0 Z1k rfl) (yz (Z1 Z20 rfl rfl) (yz (Zo rfl (Z7m s.names hg.nnames (nm4 hg.names)) (.sub rfl (Sub.noS (G:=FN N) qI) .nil)) ?_));refine yz (Z7 rfl rfl (sz3 qZ qZ) (Zf _ _)) ?_;refine yz (Z7 rfl rfl (sz3 qZ qZ) (Zf _ [41])) ?_;refine yz (Z15 rfl) ?_;apply yn;refine FinS.nil0 ?_;refine vP [1,3] ?_;refine Jq (Z0 Z62 rfl) (Jq (Z1 Z1E rfl rfl) (vS [3,38] ?_));refine yC rfl (fun ht38=>?_) (fun ht38=>?_)
 try simp only[yd,yf]at ht38
 refine vQ ?_;refine Jm rfl (Jq (Z7 rfl rfl (sz3 qZ qZ) (Zf _ [32,85,83,73,78,71,32,72,65,83,72])) ?_);refine Ja rfl (vP [3] ?_);refine Jm rfl (Ja rfl (vS [2] ?_));refine vR ?_;exact JX.ret1is rfl rfl (by unfold txS;rw[if_neg (by rw[ht11];simp),if_pos ht22];rw[if_pos ht38];simp)
 try simp only[yd,yf]at ht38
 apply yK;refine vN ?_;apply yN;refine Jm rfl (Ja rfl (vS [2] ?_));refine vR ?_;exact JX.ret1is rfl rfl (by unfold txS;rw[if_neg (by rw[ht11];simp),if_pos ht22];rw[if_neg (by rw[ht38];simp)];simp)
 try simp only[yd,yf]at ht22
 refine vQ ?_;refine Jq (Zu rfl rfl) (Ja rfl (vS [1,10,42] ?_));refine yC rfl (fun ht42=>?_) (fun ht42=>?_)
 try simp only[yd,yf]at ht42
 refine vQ ?_;refine Jq (Z0 Z1V rfl) (Jq (Z1 Za rfl rfl) (Jq (Z7 (u:=bl ([73,78,83,69,82,84,32,73,78,84,79,32]++tx s.tb)) rfl rfl (sz3 qZ qZ) (Zf [73,78,83,69,82,84,32,73,78,84,79,32] (tx s.tb))) ?_));refine Ja rfl (vS [1,4] ?_);refine J.shapeE (xs:=s.names) (v:=vn) qI (fun pn an ln cn bn on_ hpn hvn hln han=>?_);subst hvn;refine J.pureF (F:=CelF stE pn) qI (fun pun=>?_);have nn:ln=s.names.length:=by rw[<-hln,<-hpn,List.length_map]
 have nn64:=hg.nnames;refine J.shapeE (xs:=s.rows) (v:=vr) qI (fun pr ar lr cr br or_ hpr hvr hlr har=>?_);subst hvr;refine J.pureF (F:=CelF rwE pr) qI (fun pur=>?_);have nr:lr=s.rows.length:=by rw[<-hlr,<-hpr,List.length_map]
 have nr64:=hg.nrows;have hjn9:(iN s).length<=300000:=by
   by_cases h0:s.names.length=0
   · rw[iN,Zhk h0];simp only[List.length_append,List.length_cons,List.length_nil];omega
   · rw[iN,Zie h0];simp only[List.length_append,List.length_cons,List.length_nil];omega
 refine vQ ?_;refine Jq (Z0 Z1k rfl) (Jq (Z1 Z20 rfl rfl) (Jq (ZE ZD rfl) (Jq (Z13 rfl rfl) (vS [1,4,50] ?_))));refine J.cutZN (fun z:Unit=>[(1,.is (.pointer (some ⟨b1,0,none⟩))),(4,.is (.string (bl (iN s))))]) (fun z:Unit=>[⟨b1,Z3,.is (stV s vc (.slice an ln cn) (.slice ar lr cr) vi vf vw vg vo vs)⟩]) (fun z:Unit=>True) ?_ ?_
 · refine yC rfl (fun ht50=>?_) (fun ht50=>?_)
   try simp only[yd,yf]at ht50
   refine vQ ?_;refine Jm rfl (Jq (Z7 rfl rfl (sz3 qZ qZ) (Zf _ [32,40])) ?_);refine Jq (Z0 Z1k rfl) (Jq (Z1 Z20 rfl rfl) (Jq (Zo rfl (Z7m s.names hg.nnames (nm4 hg.names)) (.sub rfl (Sub.noS (G:=FN N) qI) .nil)) ?_));refine Jq (Z7 rfl rfl (sz3 qZ qZ) (Zf _ _)) ?_;refine Jq (Z7 (u:=bl (iN s)) rfl rfl (sz3 qZ qZ) (by rw[iN,Zie qM];refine(Zf _ [41]).trans (congrArg bl ?_);simp)) ?_;refine Ja rfl ?_;apply yI;refine JX.midZ (()) ?_ [1,4] ?_ ?_ ?_
   · exact trivial
   · exact qS
   · exact qH
   · exact qG
   try simp only[yd,yf]at ht50
   apply yK;rw[show[73,78,83,69,82,84,32,73,78,84,79,32]++tx s.tb=iN s from by rw[iN,Zhk qM,List.append_nil]];refine JX.midZ (()) ?_ [1,4] ?_ ?_ ?_
   · exact trivial
   · exact qS
   · exact qH
   · exact qG
 · intro z9 hz9
   try dsimp only
   refine vQ ?_;refine Ja rfl (vP [1,4,5] ?_);refine Ja rfl (vS [1,4,5,6] ?_);apply yk
   repeat apply yQ
   refine J.loopG (α:=Nat×Option (Nat×List Value)×Nat) (fun z=>[(1,.is (.pointer (some ⟨b1,0,none⟩))),(4,.is (.string (bl (iN s)))),(5,.is (sliceO z.2.1 (jT txR s.rows z.1).length z.2.2)),(6,.is (.int .i64 (z.1:Nat)))]) (fun z=>ownO z.2.1 Zs [⟨b1,Z3,.is (stV s vc (.slice an ln cn) (.slice ar lr cr) vi vf vw vg vo vs)⟩]) (fun z=>fun _=>True) (fun z=>z.1<=lr/\Grows strC 1 (jT txR (s.rows) z.1) z.2.1 z.2.2) (fun z=>lr-z.1) (0,none,0) [1,4,5,6] (.cons rfl (.cons rfl (.cons rfl (.cons rfl .nil)))) rfl (fun _=>trivial) ⟨by omega,rfl⟩ fun⟨i,st,cp⟩ ⟨hi,hG⟩=>?_;try dsimp only
   try dsimp only at st
   try dsimp only at cp
   try dsimp only at hi
   try dsimp only at hG
   refine vQ ?_;refine Jm rfl (Jq (Z0 Z2r rfl) (Jq (Z1 Z24 rfl rfl) (Jq (ZE Z2l rfl) (Jq (ZC rfl rfl) (vS [1,4,5,6,62] ?_)))));refine yC rfl (fun ht62=>?_) (fun ht62=>?_)
   try simp only[yd,yf]at ht62
   apply yK;refine vN ?_;apply yk;obtain⟨a9,c9,hs9⟩:=Zki pur hpr (i:=i) qM qM;obtain⟨rw9,hrw⟩: ∃c,s.rows[i]'qM=c:=⟨_,rfl⟩;rw[hrw]at hs9;have hxi:s.rows[i]? =some rw9:=by rw[List.getElem?_eq_getElem qM,hrw]
   have hr9:=hg.rows _ (List.mem_of_getElem? hxi);have hrl9:=jl (p:=prE) hr9.1 fun x hx=>(hr9.2 x hx).len;have hpx:(pr[i]'qM).x=rw9:=by have h0:=congrArg (fun l=>l[i]?) hpr;simp only[List.getElem?_map]at h0;rw[List.getElem?_eq_getElem qM,hxi]at h0;simpa using h0
   refine J.fact (ExsR rw9 (.slice a9 rw9.length c9)) (fun X w hF _ w' hk=>by rw[<-hpx];exact ZaW (List.getElem_mem _) (hF (CelF rwE pr) qI w' hk) (by rw[hs9,hpx])) ?_;refine vQ ?_;refine Jm rfl (Jq (Z0 Z2r rfl) (Jq (Z1 Z24 rfl rfl) (Jm rfl (Jq (Z9 Z3t rfl (har qM) rfl qM qM) ?_))));refine Jq (ZK (enc:=Cel.cs) (sz:=1) (i:=i) (j:=0) (y:=pr[i]'qM) (u:=.slice a9 rw9.length c9) Zk rfl qI (har qM) (List.getElem?_eq_getElem _) qM (by rw[hs9];rfl)) ?_;refine Jq (Zo rfl (Za0 rw9 hr9.1 hr9.2) (.sub rfl (Sub.exsV (xs:=rw9) qI) .nil)) ?_;refine Jq (Z7 (u:=bl ([40]++joinC (rw9.map prE))) rfl rfl (sz3 qZ qZ) (Zf [40] _)) ?_;refine Jq (Z7 (u:=bl (txR rw9)) rfl rfl (sz3 qZ qZ) (by refine(Zf _ [41]).trans (congrArg bl ?_);simp[txR])) ?_;refine Jq (Zx (cs:=[_]) ZS qM qM (.cons rfl .nil) rfl rfl rfl) ?_;have hkl:(jT txR (s.rows) i).length=i:=by simp;omega
   refine JO.apO (ys:=[bl (txR rw9)]) Z1i Z1j yV hG rfl rfl (fun L=>Z1M ZD rfl rfl) (by simp) (by rw[hkl];show(i+1)*16<=_;omega) (by rw[hkl];show i+1<=_;omega) rfl (fun st2 cp2 hG2=>?_);try dsimp only
   rw[<-Z1P hxi];refine Ja rfl (vP [1,4,5,6] ?_);refine Jm rfl (Jq (Zv (cc:=((i+1:Nat):Int)) rfl rfl qM qM qM) ?_);refine Ja rfl ?_;apply yI
   repeat refine JX.normal_block ?_
   refine JX.roundG (x:=(i,st,cp)) (i+1,st2,cp2) ?_ ?_ [1,4,5,6] ?_ ?_ ?_ ?_
   · exact⟨by show i+1<=_;omega,by show Grows strC 1 (jT txR (s.rows) (i+1)) _ _;rw[Z1P hxi];exact hG2⟩
   · exact(by show lr-(i+1)<lr-i;omega)
   · exact qS
   · exact qH
   · exact qG
   · exact fun _ _ _=>fun _ _=>trivial
   try simp only[yd,yf]at ht62
   repeat apply yQ
   refine J.exit ?_
   repeat first|refine yH ?_|refine yM rfl ?_|refine yE ?_
   repeat first|apply yX|apply yB
   have hix:i=s.rows.length:=by omega
   refine J.freezeO Z1j hG (e:=Zs) yV (fun _ h=>h) rfl rfl ?_;rw[hG.sl.1];refine vQ ?_;refine Jm rfl (Jq (Z7 (u:=bl (iN s++[32,86,65,76,85,69,83,32])) rfl rfl (sz3 qZ qZ) (Zf _ [32,86,65,76,85,69,83,32])) ?_);refine Jm rfl (Jq (Zo rfl (c_RL txR s.rows i hix hg.nrows (fun x hx=>Nat.le_trans (Z5D (hg.rows x hx)) qD)) (.sub rfl (Sub.strs qI hG.sl.2) .nil)) ?_);refine Jq (Z7 (u:=bl (txI s)) rfl rfl (sz3 qZ qZ) (by rw[ZlV];exact Zf _ _)) ?_;refine Ja rfl (vS [2] ?_);refine vR ?_;exact JX.ret1is rfl rfl (by unfold txS;rw[if_neg (by rw[ht11];simp),if_neg (by rw[ht22];simp),if_pos ht42])
 try simp only[yd,yf]at ht42
 refine vQ ?_;refine Jq (Zu rfl rfl) (Ja rfl (vS [1,10,81] ?_));refine yC rfl (fun ht81=>?_) (fun ht81=>?_)
 try simp only[yd,yf]at ht81
 refine vQ ?_;refine Jq (ZR (cs:=[_,_,_,_,_,_,_,_,_,_,_,_,_,_]) ZL rfl rfl rfl) (Jq (Zo rfl (ZdL N s hg hsh) (.sub rfl (Sub.st rfl fun X w hf w' hk=>⟨hf _ qI w' hk,hf _ qI w' hk,hf _ qI w' hk,hf _ qI w' hk,hf _ qI w' hk,hf _ qI w' hk,hf _ qI w' hk,hf _ qI w' hk,hf _ qI w' hk⟩) .nil)) ?_);refine Ja rfl (vS [2] ?_);refine vR ?_;exact JX.ret1is rfl rfl (by unfold txS;rw[if_neg (by rw[ht11];simp),if_neg (by rw[ht22];simp),if_neg (by rw[ht42];simp),if_pos ht81])
 try simp only[yd,yf]at ht81
 refine vQ ?_;refine Jq (Zu rfl rfl) (Ja rfl (vS [1,10,85] ?_));refine yC rfl (fun ht85=>?_) (fun ht85=>?_)
 try simp only[yd,yf]at ht85
 refine J.shapeE (xs:=s.names) (v:=vn) qI (fun pn an ln cn bn on_ hpn hvn hln han=>?_);subst hvn;refine J.pureF (F:=CelF stE pn) qI (fun pun=>?_);have nn:ln=s.names.length:=by rw[<-hln,<-hpn,List.length_map]
 have nn64:=hg.nnames;have h5:s.kind=5:=by simpa using ht85
 have hns:s.sets.length=s.names.length:=hg.nsets.resolve_right (fun h=>h h5);refine J.shapeK (xs:=s.sets) (v:=vs) qI (fun ax lx cx bx ox_ hvx hlx hax=>?_);subst hvx;have nx:lx=s.sets.length:=hlx.symm;refine vQ ?_;refine Ja rfl (vP [1,7] ?_);refine Ja rfl (vS [1,7,8] ?_);apply yk
 repeat apply yQ
 refine J.loopG (α:=Nat×Option (Nat×List Value)×Nat) (fun z=>[(1,.is (.pointer (some ⟨b1,0,none⟩))),(7,.is (sliceO z.2.1 (jT txSet (s.names.zip s.sets) z.1).length z.2.2)),(8,.is (.int .i64 (z.1:Nat)))]) (fun z=>ownO z.2.1 Zs [⟨b1,Z3,.is (stV s vc (.slice an ln cn) vr vi vf vw vg vo (.slice ax lx cx))⟩]) (fun z=>fun _=>True) (fun z=>z.1<=ln/\Grows strC 1 (jT txSet (s.names.zip s.sets) z.1) z.2.1 z.2.2) (fun z=>ln-z.1) (0,none,0) [1,7,8] (.cons rfl (.cons rfl (.cons rfl .nil))) rfl (fun _=>trivial) ⟨by omega,rfl⟩ fun⟨i,st,cp⟩ ⟨hi,hG⟩=>?_;try dsimp only
 try dsimp only at st
 try dsimp only at cp
 try dsimp only at hi
 try dsimp only at hG
 refine vQ ?_;refine Jm rfl (Jq (Z0 Z1k rfl) (Jq (Z1 Z20 rfl rfl) (Jq (ZE ZD rfl) (Jq (ZC rfl rfl) (vS [1,7,8,91] ?_)))));refine yC rfl (fun ht91=>?_) (fun ht91=>?_)
 try simp only[yd,yf]at ht91
 apply yK;refine vN ?_;apply yk;have hzi:=setIs (s:=s) (i:=i) qM qM;have hxi:=hzi;have h9n:=Z1y (hg.names _ (List.getElem_mem (by omega:i<s.names.length)));have h9n':(s.names[i]'qM).data.toList.length<=2048:=h9n;have hgs:=hg.sets _ (Z1l (xs:=s.sets) (i:=i) qM);have h9s:=hgs.len
 repeat apply yQ
 refine J.regS 15 hmx qK qK ?_;refine yz (Z2 rfl) (yz (Z0 Z1k rfl) (yz (Z1 Z20 rfl rfl) (yz (Z2 rfl) (yz (Z9 Z1Y rfl (han qM) rfl qM qM) ?_))));refine yz (ZK (enc:=Cel.cs) (sz:=1) (i:=i) (j:=0) (y:=pn[i]'qM) (u:=.string (s.names[i]'qM)) Za rfl qI (han qM) (List.getElem?_eq_getElem _) qM (by rw[ZaN pun hpn qM qM];rfl)) ?_;refine yz (Z7 (u:=bl (tx (s.names[i]'qM)++[32,61,32])) rfl rfl (sz3 qZ qZ) (Zf (tx (s.names[i]'qM)) [32,61,32])) ?_;refine yz (Z0 Z32 rfl) (yz (Z1 Zk rfl rfl) (yz (Z2 rfl) (yz (Z9 ZO rfl (hax qM) rfl qM qM) ?_)));refine yz (Z1q (kid:=s.sets.getD i ex0) Z6 rfl qI (hax qM) (Z1B qM) qM) ?_;refine yz (Zo rfl (c_RE hgs) qA) ?_;refine yz (Z7 (u:=bl (txSet (s.names[i]'qM,s.sets.getD i ex0))) rfl rfl (sz3 qZ qZ) (by refine(Zf _ _).trans (congrArg bl ?_);simp[txSet])) ?_;refine yz (Zx (cs:=[_]) ZS qM qM (.cons rfl .nil) rfl rfl rfl) ?_;apply yn;refine FinS.tail0 ?_;have hkl:(jT txSet ((s.names.zip s.sets)) i).length=i:=by simp;omega
 refine JO.apO (ys:=[bl (txSet (s.names[i]'qM,s.sets.getD i ex0))]) Z1i Z1j yV hG rfl rfl (fun L=>Z1M ZD rfl rfl) (by simp) (by rw[hkl];show(i+1)*16<=_;omega) (by rw[hkl];show i+1<=_;omega) rfl (fun st2 cp2 hG2=>?_);try dsimp only
 rw[<-Z1P hxi];refine Ja rfl (vP [1,7,8] ?_);refine Jm rfl (Jq (Zv (cc:=((i+1:Nat):Int)) rfl rfl qM qM qM) ?_);refine Ja rfl ?_;apply yI
 repeat refine JX.normal_block ?_
 refine JX.roundG (x:=(i,st,cp)) (i+1,st2,cp2) ?_ ?_ [1,7,8] ?_ ?_ ?_ ?_
 · exact⟨by show i+1<=_;omega,by show Grows strC 1 (jT txSet (s.names.zip s.sets) (i+1)) _ _;rw[Z1P hxi];exact hG2⟩
 · exact(by show ln-(i+1)<ln-i;omega)
 · exact qS
 · exact qH
 · exact qG
 · exact fun _ _ _=>fun _ _=>trivial
 try simp only[yd,yf]at ht91
 repeat apply yQ
 refine J.exit ?_
 repeat first|refine yH ?_|refine yM rfl ?_|refine yE ?_
 repeat first|apply yX|apply yB
 have hix:i=(s.names.zip s.sets).length:=by rw[List.length_zip];omega
 have hz64:(s.names.zip s.sets).length<=64:=by rw[List.length_zip];omega
 have hzl: ∀x∈s.names.zip s.sets,(txSet x).length<=400000000000:=fun x hx=>Nat.le_trans (Z84 (hg.names _ (List.of_mem_zip hx).1) (hg.sets _ (List.of_mem_zip hx).2)) qD;refine J.freezeO Z1j hG (e:=Zs) yV (fun _ h=>h) rfl rfl ?_;rw[hG.sl.1]
 repeat apply yQ
 refine J.reg0 hmx qK qK ?_;refine yz (Z0 Z1V rfl) (yz (Z1 Za rfl rfl) (yz (Z7 (u:=bl ([85,80,68,65,84,69,32]++tx s.tb)) rfl rfl (sz3 qZ qZ) (Zf [85,80,68,65,84,69,32] (tx s.tb))) ?_));refine yz (Z7 rfl rfl (sz3 qZ qZ) (Zf _ [32,83,69,84,32])) ?_;refine yz (Z2 rfl) (yz (Zo rfl (c_RL txSet (s.names.zip s.sets) i hix hz64 hzl) (.sub rfl (Sub.strs qI hG.sl.2) .nil)) ?_);refine yz (Z7 rfl rfl (sz3 qZ qZ) (Zf _ _)) ?_;refine yz (Z0 Z26 rfl) (yz (Z1 Zk rfl rfl) (yz (Zo rfl (Z6T s.where_ hsh.wh hg.where_) (.sub rfl (Sub.exsG (xs:=s.where_) (G:=FX N) qI) .nil)) ?_));refine yz (Z7 rfl rfl (sz3 qZ qZ) (Zf _ _)) ?_;refine yz (Z15 rfl) ?_;apply yn;refine FinS.nil0 ?_;refine vS [2] ?_;refine vR ?_;exact JX.ret1is rfl rfl (by unfold txS;rw[if_neg (by rw[ht11];simp),if_neg (by rw[ht22];simp),if_neg (by rw[ht42];simp),if_neg (by rw[ht81];simp),if_pos ht85];simp)
 try simp only[yd,yf]at ht85
 refine vQ ?_;refine Jq (Zu rfl rfl) (Ja rfl (vS [1,121] ?_));refine yC rfl (fun ht121=>?_) (fun ht121=>?_)
 try simp only[yd,yf]at ht121
 repeat apply yQ
 refine J.reg0 hmx qK qK ?_;refine yz (Z0 Z1V rfl) (yz (Z1 Za rfl rfl) (yz (Z7 (u:=bl ([68,69,76,69,84,69,32,70,82,79,77,32]++tx s.tb)) rfl rfl (sz3 qZ qZ) (Zf [68,69,76,69,84,69,32,70,82,79,77,32] (tx s.tb))) ?_));refine yz (Z0 Z26 rfl) (yz (Z1 Zk rfl rfl) (yz (Zo rfl (Z6T s.where_ hsh.wh hg.where_) (.sub rfl (Sub.exsG (xs:=s.where_) (G:=FX N) qI) .nil)) ?_));refine yz (Z7 rfl rfl (sz3 qZ qZ) (Zf _ _)) ?_;refine yz (Z15 rfl) ?_;apply yn;refine FinS.nil0 ?_;refine vS [2] ?_;refine vR ?_;exact JX.ret1is rfl rfl (by unfold txS;rw[if_neg (by rw[ht11];simp),if_neg (by rw[ht22];simp),if_neg (by rw[ht42];simp),if_neg (by rw[ht81];simp),if_neg (by rw[ht85];simp),if_pos ht121];simp)
 try simp only[yd,yf]at ht121
 apply yK
 repeat first|apply yX|apply yB
 have nht11:s.kind≠1:=by intro h;rw[h]at ht11;simp at ht11
 have nht22:s.kind≠2:=by intro h;rw[h]at ht22;simp at ht22
 have nht42:s.kind≠3:=by intro h;rw[h]at ht42;simp at ht42
 have nht81:s.kind≠4:=by intro h;rw[h]at ht81;simp at ht81
 have nht85:s.kind≠5:=by intro h;rw[h]at ht85;simp at ht85
 have nht121:s.kind≠6:=by intro h;rw[h]at ht121;simp at ht121
 refine vQ ?_;refine Jq (Zg (cs:=[_,_,_]) Zbk (.cons rfl (.cons rfl (.cons rfl .nil))) rfl rfl) (Jq (Z0 Z2Y rfl) (Jq (Z1 Zq rfl rfl) (Jq (Z63 (v:=s.kind-7) rfl rfl (Z1H qM qM)) ?_)));refine Jq (Z4w (n:=3) (e:=9) qK Za qK rfl rfl qM qM (ZmT qM qM)) ?_;refine Ja rfl (vS [2] ?_);refine vR ?_;exact JX.ret1is rfl rfl (by unfold txS;rw[if_neg (show ¬(s.kind==1)=true by rw[ht11];simp),if_neg (show ¬(s.kind==2)=true by rw[ht22];simp),if_neg (show ¬(s.kind==3)=true by rw[ht42];simp),if_neg (show ¬(s.kind==4)=true by rw[ht81];simp),if_neg (show ¬(s.kind==5)=true by rw[ht85];simp),if_neg (show ¬(s.kind==6)=true by rw[ht121];simp)])
end Go.Proofs.YtbedigkncjbggaaGreatDoor
namespace Go.Pz
open Go Go.Vc
def listW{α:Type}(part:Ps α):Ps (List α):=fun ts=>(part ts).bind fun z=>(listG part z.2.length z.2).map fun y=>(z.1::y.1,y.2)
def colEndR(n:ByteArray)(t:Int)(nn:Bool):Ps Col:=fun ts=>
 if isT 1 Z6o ts then some (⟨n,t,nn,true⟩,ts.tail)else if isT 1 Z6J ts then(wantP 1 ZgE ts.tail).map fun v=>(⟨n,t,true,true⟩,v.2)else some (⟨n,t,nn,false⟩,ts)
def colR:Ps Col:=fun ts=>(nameP ts).bind fun n=>(typeP n.2).bind fun t=>
 if isT 1 Z1c t.2 then(wantP 1 Z1v t.2.tail).bind fun v=>colEndR n.1 t.1 true v.2 else colEndR n.1 t.1 false t.2
def createR:Ps St:=fun ts=>
 if isT 1 ZcX ts then(nameP ts.tail).bind fun n=>(wantP 5 s_lp n.2).bind fun a=>(listW colR a.2).bind fun c=>(wantP 5 s_rp c.2).bind fun v=>if c.1.length<=16 then some ({stK 1 with tb:=n.1,cols:=c.1},v.2)else none
 else(wantP 1 ZcV ts).bind fun a=>(nameP a.2).bind fun n=>(wantP 1 w_ON n.2).bind fun b=>(nameP b.2).bind fun t=>(wantP 5 s_lp t.2).bind fun c=>(nameP c.2).bind fun m=>(wantP 5 s_rp m.2).bind fun d=>
   if isT 1 Zcv d.2 then(wantP 1 ZeO d.2.tail).map fun v=>({stK 2 with nm:=n.1,tb:=t.1,names:=[m.1],hash:=true},v.2)
   else some ({stK 2 with nm:=n.1,tb:=t.1,names:=[m.1]},d.2)
def exprsR(e:Ps Ex):Ps (List Ex):=fun ts=>(listW e ts).bind fun l=>if l.1.length<=16 then some l else none
def rowR(e:Ps Ex):Ps (List Ex):=fun ts=>(wantP 5 s_lp ts).bind fun a=>(exprsR e a.2).bind fun l=>(wantP 5 s_rp l.2).map fun v=>(l.1,v.2)
def insRowsR(e:Ps Ex)(tb:ByteArray)(ns:List ByteArray):Ps St:=fun ts=>(wantP 1 Z9q ts).bind fun a=>(listW (rowR e) a.2).bind fun r=>if ns.length<=16/\r.1.length<=32 then some ({stK 3 with tb:=tb,names:=ns,rows:=r.1},r.2)else none
def insertR(e:Ps Ex):Ps St:=fun ts=>(wantP 1 Zfs ts).bind fun a=>(nameP a.2).bind fun n=>
 if isT 5 s_lp n.2 then(listW nameP n.2.tail).bind fun l=>(wantP 5 s_rp l.2).bind fun v=>insRowsR e n.1 l.1 v.2 else insRowsR e n.1 [] n.2
def keyR(e:Ps Ex):Ps Ky:=fun ts=>(e ts).map fun z=>if isT 1 Z4s z.2 then(⟨z.1,true⟩,z.2.tail)else(⟨z.1,false⟩,skT 1 Z55 z.2)
def groupR(e:Ps Ex):Ps (List Ex):=fun ts=>if isT 1 Z5C ts then(wantP 1 w_BY ts.tail).bind fun a=>exprsR e a.2 else some ([],ts)
def orderR(e:Ps Ex):Ps (List Ky):=fun ts=>if isT 1 Z4X ts then(wantP 1 w_BY ts.tail).bind fun a=>listW (keyR e) a.2 else some ([],ts)
def queryR(e:Ps Ex):Ps St:=fun ts=>(listW (itemP e) ts).bind fun i=>(wantP 1 Z6E i.2).bind fun a=>(sourceP a.2).bind fun s=>(joinsG e s.2.length s.2).bind fun j=>
 (whereP e j.2).bind fun w=>(groupR e w.2).bind fun g=>(orderR e g.2).bind fun o=>(limitP o.2).bind fun l=>
  if i.1.length<=16/\j.1.length+1<=4/\o.1.length<=16 then some ({stK 4 with items:=i.1,from_:=s.1::j.1,where_:=w.1,group:=g.1,order:=o.1,limit:=l.1},l.2)else none
def updateR(e:Ps Ex):Ps St:=fun ts=>(nameP ts).bind fun n=>(wantP 1 ZgW n.2).bind fun a=>(listW (setP e) a.2).bind fun l=>(whereP e l.2).bind fun w=>
 if l.1.length<=16 then some ({stK 5 with tb:=n.1,names:=l.1.map (·.1),sets:=l.1.map (·.2),where_:=w.1},w.2)else none
theorem Z64{α:Type}(most:Nat)(part:Ps α)(ts:List T3):listP most part ts=(listW part ts).bind fun l=>if l.1.length<=most then some l else none:=by
 unfold listP listW;cases part ts with
 |none=>rfl
 |some z=>
   simp only[Option.bind_some];cases listG part z.2.length z.2 with
   |none=>rfl
   |some y=>simp only[Option.bind_some,Option.map_some,List.length_cons]
theorem ZhK(n:ByteArray)(t:Int)(nn:Bool)(ts:List T3):colEndR n t nn ts=colEnd n t nn ts:=by
 unfold colEndR colEnd skT;cases hu:isT 1 Z6o ts with
 |true=>rw[Z8 (k':=1) (s':=Z6J) hu qD];rfl
 |false=>rfl
theorem Zgm:colR=colP:=by
 funext ts
 unfold colR colP;simp only[ZhK]
theorem ZgY(ts:List T3):createR ts=createP ts:=by
 unfold createR createP;refine ite_congr rfl (fun _=>?_) fun _=>rfl;refine Zr fun n _=>?_;unfold withinP;rw[Zgm];cases wantP 5 s_lp n.2 with
 |none=>rfl
 |some a=>
   simp only[Option.bind_some,Z64];cases listW colP a.2 with
   |none=>rfl
   |some c=>
     simp only[Option.bind_some]
     by_cases h:c.1.length<=16
     · simp only[if_pos h,Option.bind_some]
       cases wantP 5 s_rp c.2<;>rfl
     · simp only[if_neg h]
       cases wantP 5 s_rp c.2<;>rfl
theorem Zdl(e:Ps Ex):exprsR e=listP 16 e:=by funext ts;rw[Z64];rfl
theorem Zgd(e:Ps Ex):rowR e=withinP e:=by funext ts;unfold rowR withinP;rw[Zdl]
theorem Zca(e:Ps Ex)(tb:ByteArray)(ns:List ByteArray)(ts:List T3):insRowsR e tb ns ts=if ns.length<=16 then insRows e tb ns ts else none:=by
 unfold insRowsR insRows;rw[Zgd];cases wantP 1 Z9q ts with
 |none=>simp
 |some a=>
   simp only[Option.bind_some,Z64];cases listW (withinP e) a.2 with
   |none=>simp
   |some r=>
     simp only[Option.bind_some]
     by_cases h:ns.length<=16<;>by_cases h':r.1.length<=32<;>simp[h,h']
theorem ZkN{ts:List T3}(h:okL ts):isLp ts=isT 5 s_lp ts:=by
 cases ts with
 |nil=>rfl
 |cons t r=>
   show((t.k==5)&&(sq t.t s_lp&&(t.n==0)))=((t.k==5)&&sq t.t s_lp);cases hk:t.k==5 with
   |false=>rfl
   |true=>
     have:=(h.cons.1.2.2 (by simpa using hk)).1;rw[this];simp
theorem ZiI{ts:List T3}{z:ByteArray×List T3}(h:okL ts)(hz:nameP ts=some z):okL z.2:=h.suf (Z14 _ _ hz).1
theorem Zh2(e:Ps Ex){ts:List T3}(ho:okL ts):insertR e ts=insertP e ts:=by
 unfold insertR insertP;refine Zr fun a ha=>Zr fun n hn=>?_;have h1:okL n.2:=ZiI (ho.suf (Zi _ _ _ _ ha).1) hn;rw[ZkN h1];cases hi:isT 5 s_lp n.2 with
 |false=>
   simp only[Bool.false_eq_true,if_false];rw[Zca,if_pos (by simp)]
 |true=>
   simp only[if_true];unfold withinP;have hw:wantP 5 s_lp n.2=some ((),n.2.tail):=by unfold wantP;rw[hi];rfl
   rw[hw];simp only[Option.bind_some,Z64,Zca];cases listW nameP n.2.tail with
   |none=>rfl
   |some l=>
     simp only[Option.bind_some]
     by_cases h:l.1.length<=16
     · simp only[if_pos h,Option.bind_some]
       cases wantP 5 s_rp l.2<;>rfl
     · simp only[if_neg h]
       cases wantP 5 s_rp l.2<;>rfl
theorem ZfX(e:Ps Ex):keyR e=keyP e:=by
 funext ts
 unfold keyR keyP;cases e ts with
 |none=>rfl
 |some z=>
   simp only[Option.map_some]
   congr 1
   unfold skT;cases hd:isT 1 Z4s z.2 with
   |true=>rw[Z8 (k':=1) (s':=Z55) hd qD];rfl
   |false=>cases isT 1 Z55 z.2<;>rfl
theorem Ziu(e:Ps Ex):groupR e=groupP e:=by funext ts;unfold groupR groupP;rw[Zdl]
theorem Zh4(e:Ps Ex)(ts:List T3):updateR e ts=updateP e ts:=by
 unfold updateR updateP;refine Zr fun n _=>Zr fun a _=>?_;simp only[Z64];cases listW (setP e) a.2 with
 |none=>rfl
 |some l=>
   simp only[Option.bind_some]
   by_cases h:l.1.length<=16
   · simp only[if_pos h,Option.bind_some]
     cases whereP e l.2<;>rfl
   · simp only[if_neg h]
     cases whereP e l.2<;>rfl
theorem Zht(e:Ps Ex)(ts:List T3):queryR e ts=queryP e ts:=by
 unfold queryR queryP;rw[Ziu];simp only[Z64];cases listW (itemP e) ts with
 |none=>rfl
 |some i=>
   simp only[Option.bind_some]
   by_cases hi:i.1.length<=16
   · simp only[if_pos hi,Option.bind_some]
     refine Zr fun a _=>Zr fun s _=>Zr fun j _=>?_
     by_cases hj:j.1.length+1<=4
     · simp only[if_pos hj]
       refine Zr fun w _=>Zr fun g _=>?_;unfold orderR orderP;rw[ZfX];cases isT 1 Z4X g.2 with
       |false=>
         simp only[Bool.false_eq_true,if_false,Option.bind_some];cases limitP g.2 with
         |none=>rfl
         |some l=>simp[hi,hj]
       |true=>
         simp only[if_true];cases wantP 1 w_BY g.2.tail with
         |none=>rfl
         |some b=>
           simp only[Option.bind_some,Z64];cases listW (keyP e) b.2 with
           |none=>rfl
           |some o=>
             simp only[Option.bind_some]
             by_cases ho:o.1.length<=16
             · simp only[if_pos ho,Option.bind_some]
               cases limitP o.2 with
               |none=>rfl
               |some l=>simp[hi,hj,ho]
             · simp only[if_neg ho]
               cases limitP o.2 with
               |none=>rfl
               |some l=>simp[ho]
     · simp only[if_neg hj]
       cases whereP e j.2 with
       |none=>rfl
       |some w=>
         simp only[Option.bind_some];cases groupP e w.2 with
         |none=>rfl
         |some g=>
           simp only[Option.bind_some];cases orderR e g.2 with
           |none=>rfl
           |some o=>
             simp only[Option.bind_some];cases limitP o.2 with
             |none=>rfl
             |some l=>simp[hj]
   · simp only[if_neg hi]
     cases wantP 1 Z6E i.2 with
     |none=>rfl
     |some a=>
       simp only[Option.bind_some];cases sourceP a.2 with
       |none=>rfl
       |some s=>
         simp only[Option.bind_some];cases joinsG e s.2.length s.2 with
         |none=>rfl
         |some j=>
           simp only[Option.bind_some];cases whereP e j.2 with
           |none=>rfl
           |some w=>
             simp only[Option.bind_some];cases groupP e w.2 with
             |none=>rfl
             |some g=>
               simp only[Option.bind_some];cases orderR e g.2 with
               |none=>rfl
               |some o=>
                 simp only[Option.bind_some];cases limitP o.2 with
                 |none=>rfl
                 |some l=>simp[hi]
end Go.Pz
namespace Go.Pz
open Go Go.Vc
def stmtR(e:Ps Ex):Ps St:=fun ts=>
 if isT 1 Z7u ts then createR ts.tail else if isT 1 Z7s ts then insertR e ts.tail else if isT 1 Z40 ts then queryR e ts.tail
 else if isT 1 Z7A ts then updateR e ts.tail else if isT 1 Z7x ts then removeP e ts.tail
 else if isT 1 Z9a ts then some (stK 7,ts.tail)else if isT 1 Z7y ts then some (stK 8,ts.tail)else if isT 1 Z5L ts then some (stK 9,ts.tail)else none
theorem Zjh(e:Ps Ex){ts:List T3}(ho:okL ts):stmtR e ts=stmtP e ts:=by
 cases ts with
 |nil=>rfl
 |cons t r=>
   have hi: ∀s,isT 1 s (t::r)=((t.k==1)&&sq t.t s):=fun _=>rfl;unfold stmtR stmtP;simp only[hi,List.tail_cons,takeP];cases hk:t.k==1 with
   |false=>simp
   |true=>
     simp only[Bool.true_and,if_true,Option.bind_some,ZgY,Zh2 e ho.cons.2,Zht,Zh4]
theorem ZkE{n:Nat}{ts:List T3}(ho:okL ts)(hl:ts.length<n):exprR n 0 ts=exprP n ts:=by
 rw[ZbD n 0 (.inl rfl) ts ho hl];show orP exprX ts=_;rw[<-ZeK];exact Zfh ts hl
end Go.Pz
namespace Go.Pz
open Go Go.Vc
structure Rk where
 ts:List T3
 ad:Option Addr
 cap:Nat
variable(T:Rk)
abbrev Rk.k(us:List T3):Nat:=T.ts.length-us.length
abbrev Rk.G:World->Prop:=RowG T3.cells 3 T.ts T.ad T.ts.length
def Rv{α:Type}(o:Option (α×List T3))(us:List T3)(bad:Bool)(z:α×List T3×Bool):Prop:=
 z.2.1<:+us/\(bad=true->z.2.2=true)/\(bad=false->(z.2.2=false/\o=some (z.1,z.2.1))\/(z.2.2=true/\o=none))
section
variable{α β:Type}{o:Option (α×List T3)}{us:List T3}{bad:Bool}
theorem Rv.suf{z:α×List T3×Bool}(h:Rv o us bad z):z.2.1<:+us:=h.1
theorem Rv.bd{z:α×List T3×Bool}(h:Rv o us true z):z.2.2=true:=h.2.1 rfl
theorem Rv.pure(x:α):Rv (some (x,us)) us bad (x,us,bad):=⟨List.suffix_refl _,id,fun h=>.inl ⟨h,rfl⟩⟩
theorem Rv.none(x:α):Rv none us bad (x,us,true):=⟨List.suffix_refl _,fun _=>rfl,fun _=>.inr ⟨rfl,rfl⟩⟩
theorem Rv.badly{us':List T3}(h:us'<:+us)(x:α):Rv o us true (x,us',true):=⟨h,fun _=>rfl,fun h=>by cases h⟩
theorem Rv.ok{z:α×List T3×Bool}(h:Rv o us bad z)(hz:z.2.2=false):bad=false/\o=some (z.1,z.2.1):=by
 cases hb:bad with
 |true=>subst hb;exact absurd h.bd (by rw[hz];decide)
 |false=>
   refine⟨rfl,?_⟩;rcases h.2.2 hb with⟨_,h⟩|⟨h,_⟩
   · exact h
   · rw[hz]at h;cases h
theorem Rv.bind{f:α×List T3->Option (β×List T3)}{z:α×List T3×Bool}{y:β×List T3×Bool}(h:Rv o us bad z)(h2:Rv (f (z.1,z.2.1)) z.2.1 z.2.2 y):Rv (o.bind f) us bad y:=by
 refine⟨h2.1.trans h.1,fun hb=>h2.2.1 (h.2.1 hb),fun hb=>?_⟩;rcases h.2.2 hb with⟨h3,h4⟩|⟨h3,h4⟩
 · rcases h2.2.2 h3 with⟨h5,h6⟩|⟨h5,h6⟩
   · exact .inl ⟨h5,by rw[h4];exact h6⟩
   · exact .inr ⟨h5,by rw[h4];exact h6⟩
 · exact .inr ⟨h2.2.1 h3,by rw[h4];rfl⟩
theorem Rv.map{f:α×List T3->β×List T3}{z:α×List T3×Bool}(h:Rv o us bad z)(e:(f (z.1,z.2.1)).2=z.2.1):Rv (o.map f) us bad ((f (z.1,z.2.1)).1,z.2.1,z.2.2):=by
 rw[Option.map_eq_bind];refine h.bind ?_;show Rv (some (f (z.1,z.2.1))) _ _ _;rw[show f (z.1,z.2.1)=((f (z.1,z.2.1)).1,z.2.1)from Prod.ext rfl e];exact Rv.pure _
def isRB(k:Int)(s:ByteArray)(us:List T3)(bad:Bool):Bool:= !bad&&isT k s us
def skRB(k:Int)(s:ByteArray)(us:List T3)(bad:Bool):List T3:=if isRB k s us bad then us.tail else us
theorem Z2I{k:Int}{s:ByteArray}(h:isRB k s us bad=true):bad=false/\isT k s us=true:=by
 unfold isRB at h;revert h;cases bad<;>simp
theorem Z1f{k:Int}{s:ByteArray}(h:isRB k s us bad=true):skRB k s us bad=us.tail:=by unfold skRB;rw[if_pos h]
theorem Z16{k:Int}{s:ByteArray}(h:isRB k s us bad=false):skRB k s us bad=us:=by unfold skRB;rw[h];rfl
theorem Z4i{k:Int}{s:ByteArray}:skRB k s us bad<:+us:=by
 unfold skRB;split
 · exact List.tail_suffix us
 · exact List.suffix_refl us
theorem Rv.ite_t{k:Int}{s:ByteArray}{p q:Option (α×List T3)}{z:α×List T3×Bool}(h:isRB k s us bad=true)(hz:Rv p us.tail bad z):Rv (if isT k s us then p else q) us bad z:=by
 rw[if_pos (Z2I h).2];exact⟨hz.1.trans (List.tail_suffix _),hz.2.1,hz.2.2⟩
theorem Rv.ite_f{k:Int}{s:ByteArray}{p q:Option (α×List T3)}{z:α×List T3×Bool}(h:isRB k s us bad=false)(hz:Rv q us bad z):Rv (if isT k s us then p else q) us bad z:=by
 cases bad with
 |true=>exact⟨hz.1,hz.2.1,fun h=>by cases h⟩
 |false=>rw[show isT k s us=false by simpa [isRB] using h];exact hz
theorem Rv.want{k:Int}{s:ByteArray}:Rv (wantP k s us) us bad ((),skRB k s us bad,bad|| !isRB k s us bad):=by
 cases h:isRB k s us bad with
 |true=>
   obtain⟨rfl,h1⟩:=Z2I h;unfold wantP;refine Rv.ite_t h ?_;rw[Z1f h];exact Rv.pure ()
 |false=>
   rw[Z16 h];cases bad with
   |true=>exact Rv.badly (List.suffix_refl _) ()
   |false=>
     unfold wantP;rw[show isT k s us=false by simpa [isRB] using h];exact Rv.none ()
def isKB(k:Int)(us:List T3)(bad:Bool):Bool:= !bad&&isK k us
def pkT(us:List T3)(bad:Bool):T3:=if bad then t3D else us.headD t3D
theorem ZbI{k:Int}(hk:k≠0):((pkT us bad).k==k)=isKB k us bad:=by
 unfold pkT isKB;cases bad with
 |true=>show(((0:Int)==k))=false;rw[beq_eq_false_iff_ne];exact fun h=>hk h.symm
 |false=>
   cases us with
   |nil=>show(((0:Int)==k))=false;rw[beq_eq_false_iff_ne];exact fun h=>hk h.symm
   |cons t r=>rfl
theorem ZiB{k:Int}{s:ByteArray}(hk:k≠0):(((pkT us bad).k==k)&&seq (pkT us bad).t s)=isRB k s us bad:=by
 rw[ZbI hk];unfold isKB isRB pkT;cases bad with
 |true=>rfl
 |false=>
   cases us with
   |nil=>rfl
   |cons t r=>show((t.k==k)&&seq t.t s)=((t.k==k)&&sq t.t s);rw[Z1G]
theorem ZbM{k:Int}(h:isKB k us bad=true):bad=false/\isK k us=true:=by
 unfold isKB at h;revert h;cases bad<;>simp
def skK(k:Int)(us:List T3)(bad:Bool):List T3:=if isKB k us bad then us.tail else us
theorem Rv.take{k:Int}:Rv (takeP k us) us bad ((if isKB k us bad then us.headD t3D else t3D),skK k us bad,bad|| !isKB k us bad):=by
 have e:takeP k us=if isK k us then some (us.headD t3D,us.tail)else Option.none:=by cases us<;>rfl
 cases h:isKB k us bad with
 |true=>
   obtain⟨rfl,h1⟩:=ZbM h;rw[e,if_pos h1];unfold skK;rw[h];exact⟨List.tail_suffix _,id,fun _=>.inl ⟨rfl,rfl⟩⟩
 |false=>
   unfold skK;rw[h];cases bad with
   |true=>exact Rv.badly (List.suffix_refl _) _
   |false=>
     rw[e,show isK k us=false by simpa [isKB] using h];exact Rv.none _
end
end Go.Pz
set_option maxRecDepth 20000
namespace Go.Proofs.YtbedigkncjbggaaGreatDoor
open Go Go.Vc
open Go.Pz
abbrev RB(T:Rk)(b:Nat)(us:List T3)(bad:Bool):Own:=⟨b,Z3F,.is (.agg #[.slice T.ad T.ts.length T.cap,.int .i64 (T.k us:Nat),.bool bad])⟩
theorem ZmN{T:Rk}{us:List T3}{bad:Bool}(hus:us<:+T.ts)(h:(bad||decide ((T.ts.length:Int)<=(T.k us:Nat)))=false):bad=false/\us≠[]:=by
 simp only[Bool.or_eq_false_iff,decide_eq_false_iff_not]at h;refine⟨h.1,fun e=>?_⟩;subst e;apply h.2;show(T.ts.length:Int)<=((T.ts.length-0:Nat):Int)
 omega
theorem ZmH{T:Rk}{us:List T3}{bad:Bool}(hus:us<:+T.ts)(h:(bad||decide ((T.ts.length:Int)<=(T.k us:Nat)))=true):pkT us bad=t3D:=by
 unfold pkT;cases bad with
 |true=>rfl
 |false=>
   simp only[Bool.false_or,decide_eq_true_eq]at h;have hl:=hus.length_le;have:us.length=0:=by
     have:T.ts.length<=T.ts.length-us.length:=by exact_mod_cast h
     by_cases hz:us.length=0
     · exact hz
     · omega
   rw[List.length_eq_zero_iff.1 this];rfl
theorem Zm0{T:Rk}{us:List T3}(hs:us<:+T.ts)(h:us≠[]):T.ts[T.k us]? =some (us.headD t3D):=by
 obtain⟨ps,e⟩:=hs;cases us with
 |nil=>exact absurd rfl h
 |cons t r=>
   show T.ts[T.ts.length-(t::r).length]? =some t;rw[<-e];simp
theorem ZaP{T:Rk}{us:List T3}(hs:us<:+T.ts)(h:us≠[]):T.k us<T.ts.length:=by
 have h1:=hs.length_le;have h2:0<us.length:=List.length_pos_iff.2 h;show T.ts.length-us.length<_
 omega
theorem Z5W{T:Rk}{us:List T3}(hs:us<:+T.ts)(h:us≠[]):T.k us.tail=T.k us+1:=by
 have h1:=hs.length_le;have h2:0<us.length:=List.length_pos_iff.2 h;show T.ts.length-us.tail.length=T.ts.length-us.length+1;rw[List.length_tail];omega
theorem Ze0{us:List T3}{bad:Bool}(h:bad=false):pkT us bad=us.headD t3D:=by subst h;rfl
theorem Zl4{k:Int}{s:ByteArray}{us:List T3}{bad:Bool}(h:isRB k s us bad=true):us≠[]:=Zc3 (Z2I h).2
theorem Zld{k:Int}{us:List T3}{bad:Bool}(h:isKB k us bad=true):us≠[]:=Z8Y (ZbM h).2
abbrev tkV(t:T3):Value:=.agg (T3.cells t).toArray
abbrev inRK{T:Rk}{us:List T3}(hs:us<:+T.ts)(h:us≠[]):((T.k us:Nat):Int)+1=(T.k us.tail:Nat):=by rw[Z5W hs h];rfl
theorem Z2P(T:Rk)(b0 o0:Nat)(ha:T.ts.length≠0->T.ad=some ⟨b0,o0,none⟩)(h9:T.ts.length<=2049)(b:Nat)(us:List T3)(hus:us<:+T.ts)(bad:Bool):CallL Tryz.prog Z8w [RB T b us bad] [T.G] [.is (.pointer (some ⟨b,0,none⟩))] (fun _:Unit=>True) (fun _=>[RB T b us bad]) (fun _=>.is (tkV (pkT us bad))):=
CallL.of (fn:=Tryz.f126) Tryz.func126 (n:=30) rfl rfl rfl (fun _ _=>by kernel_rfl) fun E W hb0=>by
 refine vQ ?_;refine JO.alloc Z1C rfl fun b2=>(vS [0,2] ?_);refine J.reg0 hmx qK qK ?_;refine yz (Z2 rfl) (yz (Z5 rfl) (yz (Z0 Ze rfl) (yz (Z1 Z1E rfl rfl) (yz (Z2 rfl) (yg rfl rfl rfl (fun hg=>Z2 (.inl rfl)) (yg rfl rfl rfl (fun hg=>Z5 (qR rfl)) ?_))))));refine yg rfl rfl rfl (fun hg=>Z0 ZH (qR rfl)) ?_;refine yg rfl rfl rfl (fun hg=>Z1 Zq (qR rfl) rfl) ?_;refine yg rfl rfl rfl (fun hg=>Z2 (.inl rfl)) (yg rfl rfl rfl (fun hg=>Z5 (qR rfl)) ?_);refine yg rfl rfl rfl (fun hg=>Z0 Z4F (qR rfl)) ?_;refine yg rfl rfl rfl (fun hg=>Z1 ZJ (qR rfl) rfl) ?_;refine yg rfl rfl rfl (fun hg=>ZE Z12 (qR rfl)) ?_;refine yg rfl rfl rfl (fun hg=>Z2Z (qR rfl) (qR rfl)) ?_;refine yz (ZF rfl rfl rfl id) ?_;apply yn;refine FinS.nil0 ?_;refine vS [0,2,18] ?_;refine yC rfl (fun ht18=>?_) (fun ht18=>?_);refine vQ ?_;refine Jq (Zg (cs:=[_,_,_]) Z1e .nil rfl rfl) (JO.m (Z4 rfl rfl qU qC qO ZI) (by rfl) ?_);refine vS [2] ?_;refine vR ?_;exact JX.retLC (Lr:=[_]) rfl () trivial (.swap _ _ _) rfl hb0 rfl ZM HasOwn.mem rfl (by rw[ZmH hus ht18];rfl);apply yK
 repeat first|apply yX|apply yB
 obtain⟨hbd,hne⟩:=ZmN hus ht18;have hlt:=ZaP hus hne;have hkt:=Z5W hus hne;have hk9:T.ts.length<=4096:=by omega
 repeat apply yQ
 refine J.front b2 (by repeat(first|exact .here|apply Front.there)) ?_;refine J.reg1 hmx qK qK ?_;refine yz (Z2 rfl) (yz (Z5 rfl) (yz (Z0 Z4F rfl) (yz (Z1 ZJ rfl rfl) (yz (Z2 rfl) (yz (Z5 rfl) (yz (Z0 ZH rfl) (yz (Z1 Zq rfl rfl) (yz (Z9 Z1m rfl (ha qM) rfl qM qM) ?_))))))));refine yz (Z3W (enc:=T3.cells) (sz:=3) (i:=T.k us) (y:=us.headD t3D) (cs:=T3.cells (us.headD t3D)) ZM rfl qI (ha qM) (Zm0 hus hne) qM rfl) ?_;refine RT.m rfl (Z4 rfl rfl qU qC qO ZI) (by rfl) ?_;apply yn;refine FinS.nil1 ?_;refine vS [2] ?_;refine vR ?_;exact JX.retLC (Lr:=[_]) rfl () trivial (.swap _ _ _) rfl hb0 rfl ZM HasOwn.mem rfl (by rw[Ze0 hbd])
theorem Z4C(T:Rk)(b0 o0:Nat)(ha:T.ts.length≠0->T.ad=some ⟨b0,o0,none⟩)(h9:T.ts.length<=2049)(b:Nat)(us:List T3)(hus:us<:+T.ts)(bad:Bool)(kd:Int)(hkd:kd≠0)(s:ByteArray):CallL Tryz.prog Zad [RB T b us bad] [T.G] [.is (.pointer (some ⟨b,0,none⟩)),.is (.int .i64 kd),.is (.string s)] (fun _:Unit=>True) (fun _=>[RB T b (skRB kd s us bad) bad]) (fun _=>.is (.bool (isRB kd s us bad))):=
CallL.of (fn:=Tryz.f72) Tryz.func72 (n:=27) rfl rfl rfl (fun _ _=>by kernel_rfl) fun E W hb0=>by
 refine vQ ?_;refine Ja rfl (vP [0,1,2] ?_);refine Jm rfl (JO.callK (Lr:=[]) (Z2P T b0 o0 ha h9 b (us) (hus) (bad)) rfl (.refl _) qF qA ?_);intro _ _;refine vD ?_;refine JO.alloc Z1C rfl fun b7=>(JO.m (Z4 rfl rfl qU (by exact Zh rfl rfl) (by first|exact Zh rfl rfl|exact ZQ) ZI) (by rfl) ?_);refine vS [0,1,2,7] ?_;refine J.reg0 hmx qK qK ?_;refine yz (Z0 Z1n rfl) (yz (Z1 Zq rfl rfl) (yz (Z2 rfl) (yz (Zu rfl rfl) (yz (Z2 rfl) (yg rfl rfl rfl (fun hg=>Z0 Z1K (.inl rfl)) (yg rfl rfl rfl (fun hg=>Z1 Za (qR rfl) rfl) ?_))))));refine yg rfl rfl rfl (fun hg=>Z2 (.inl rfl)) (yg rfl rfl rfl (fun hg=>Z1L (qR rfl) (qR rfl)) ?_);refine yz (Zn rfl rfl rfl id) ?_;apply yn;refine FinS.nil0 ?_;refine vS [0,19] ?_;refine yC rfl (fun ht19=>?_) (fun ht19=>?_);have hB:isRB kd s us bad=true:=by rw[<-ZiB hkd];exact ht19
 have hne:=Zl4 hB;have hlt:=ZaP hus hne;have hkt:=Z5W hus hne;have hk9:T.ts.length<=4096:=by omega
 refine vQ ?_;refine Jm rfl (Jq (Z5 rfl) (Jq (Z0 ZH rfl) (Jq (Z1 Zq rfl rfl) (Jq (Zv (cc:=(T.k us.tail:Nat)) rfl rfl (inRK hus hne) qM qM) ?_))));refine Jq (Z5 rfl) (Jq (Z0 ZH rfl) (JO.m (Zj (cs':=[_,_,_]) rfl rfl qU rfl rfl rfl rfl Z2x) (by rfl) ?_));apply yI
 repeat first|apply yX|apply yB
 refine yL [] .nil (vQ ?_);refine Ja rfl (vS [6] ?_);refine vR ?_;exact JX.retL1 (Lr:=[_]) rfl () trivial (by rw[Z1f hB];exact .swap _ _ _) rfl rfl hb0 rfl (Sub.isEq (by rw[hB]));apply yK
 repeat first|apply yX|apply yB
 have hB:isRB kd s us bad=false:=by rw[<-ZiB hkd];exact ht19
 refine vQ ?_;refine Ja rfl (vS [6] ?_);refine vR ?_;exact JX.retL1 (Lr:=[_]) rfl () trivial (by rw[Z16 hB];exact .swap _ _ _) rfl rfl hb0 rfl (Sub.isEq (by rw[hB]))
theorem Z10(T:Rk)(b0 o0:Nat)(ha:T.ts.length≠0->T.ad=some ⟨b0,o0,none⟩)(h9:T.ts.length<=2049)(b:Nat)(us:List T3)(hus:us<:+T.ts)(bad:Bool)(s:ByteArray):CallL Tryz.prog Z94 [RB T b us bad] [T.G] [.is (.pointer (some ⟨b,0,none⟩)),.is (.string s)] (fun _:Unit=>True) (fun _=>[RB T b (skRB 5 s us bad) bad]) (fun _=>.is (.bool (isRB 5 s us bad))):=
CallL.of (fn:=Tryz.f39) Tryz.func39 (n:=8) rfl rfl rfl (fun _ _=>by kernel_rfl) fun E W hb0=>by
 refine vQ ?_;refine Ja rfl (vP [0,1] ?_);refine Jm rfl (Jm rfl (JO.callK (Lr:=[]) (Z4C T b0 o0 ha h9 b (us) (hus) (bad) 5 qD s) rfl (.refl _) qF qA ?_));intro _ _;refine vD ?_;refine Ja rfl (vS [4] ?_);refine vR ?_;exact JX.retL1 rfl () trivial (.refl _) rfl rfl hb0 rfl (Sub.refl _)
theorem Zm(T:Rk)(b0 o0:Nat)(ha:T.ts.length≠0->T.ad=some ⟨b0,o0,none⟩)(h9:T.ts.length<=2049)(b:Nat)(us:List T3)(hus:us<:+T.ts)(bad:Bool)(s:ByteArray):CallL Tryz.prog Z8G [RB T b us bad] [T.G] [.is (.pointer (some ⟨b,0,none⟩)),.is (.string s)] (fun _:Unit=>True) (fun _=>[RB T b (skRB 1 s us bad) bad]) (fun _=>.is (.bool (isRB 1 s us bad))):=
CallL.of (fn:=Tryz.f31) Tryz.func31 (n:=8) rfl rfl rfl (fun _ _=>by kernel_rfl) fun E W hb0=>by
 refine vQ ?_;refine Ja rfl (vP [0,1] ?_);refine Jm rfl (Jm rfl (JO.callK (Lr:=[]) (Z4C T b0 o0 ha h9 b (us) (hus) (bad) 1 qD s) rfl (.refl _) qF qA ?_));intro _ _;refine vD ?_;refine Ja rfl (vS [4] ?_);refine vR ?_;exact JX.retL1 rfl () trivial (.refl _) rfl rfl hb0 rfl (Sub.refl _)
theorem Zl(T:Rk)(b0 o0:Nat)(ha:T.ts.length≠0->T.ad=some ⟨b0,o0,none⟩)(h9:T.ts.length<=2049)(b:Nat)(us:List T3)(hus:us<:+T.ts)(bad:Bool)(kd:Int)(hkd:kd≠0)(s:ByteArray):CallL Tryz.prog Z8O [RB T b us bad] [T.G] [.is (.pointer (some ⟨b,0,none⟩)),.is (.int .i64 kd),.is (.string s)] (fun z:Unit×List T3×Bool=>Rv (wantP kd s us) us bad z) (fun z=>[RB T b z.2.1 z.2.2]) (fun z=>.is (.tuple #[])):=
CallL.of (fn:=Tryz.f36) Tryz.func36 (n:=14) rfl rfl rfl (fun _ _=>by kernel_rfl) fun E W hb0=>by
 refine vQ ?_;refine Jm rfl (Jm rfl (Jm rfl (JO.callK (Lr:=[]) (Z4C T b0 o0 ha h9 b (us) (hus) (bad) kd hkd s) rfl (.refl _) qF qA ?_)));intro _ _;refine vD ?_;refine Jq (Z2e rfl) (vS [0,10] ?_);refine yC rfl (fun ht10=>?_) (fun ht10=>?_);have hr:=Rv.want (us:=us) (bad:=bad) (k:=kd) (s:=s);rw[show(bad|| !isRB kd s us bad)=true by rw[ht10,Bool.or_true]]at hr;refine vQ ?_;refine Jm rfl (Jq (Z5 rfl) (Jq (Z0 Ze rfl) (JO.m (Zj (cs':=[_,_,_]) rfl rfl qU rfl rfl rfl rfl Z2D) (by rfl) ?_)));apply yI;refine JX.normal_ret ?_;exact JX.retL0 rfl ((),skRB kd s us bad,_) (by first|exact hr|(have hr:=Rv.want (us:=us) (bad:=bad) (k:=kd) (s:=s);rw[show(bad|| !isRB kd s us bad)=bad by rw[ht10,Bool.or_false]]at hr;exact hr)) (.refl _) rfl hb0 rfl;apply yK;refine JX.normal_ret ?_;exact JX.retL0 rfl ((),skRB kd s us bad,_) (by first|exact hr|(have hr:=Rv.want (us:=us) (bad:=bad) (k:=kd) (s:=s);rw[show(bad|| !isRB kd s us bad)=bad by rw[ht10,Bool.or_false]]at hr;exact hr)) (.refl _) rfl hb0 rfl
theorem Z5P(T:Rk)(b0 o0:Nat)(ha:T.ts.length≠0->T.ad=some ⟨b0,o0,none⟩)(h9:T.ts.length<=2049)(b:Nat)(us:List T3)(hus:us<:+T.ts)(bad:Bool)(kd:Int)(hkd:kd≠0):CallL Tryz.prog Z9M [RB T b us bad] [T.G] [.is (.pointer (some ⟨b,0,none⟩)),.is (.int .i64 kd)] (fun z:T3×List T3×Bool=>Rv (takeP kd us) us bad z) (fun z=>[RB T b z.2.1 z.2.2]) (fun z=>.is (tkV z.1)):=
CallL.of (fn:=Tryz.f79) Tryz.func79 (n:=24) rfl rfl rfl (fun _ _=>by kernel_rfl) fun E W hb0=>by
 refine vQ ?_;refine JO.alloc Z1C rfl fun b4=>(vP [0,1,4] ?_);refine Jm rfl (JO.callK (Lr:=[_]) (Z2P T b0 o0 ha h9 b (us) (hus) (bad)) rfl (.swap _ _ _) qF qA ?_);intro _ _;refine vD ?_;refine JO.alloc Z1C rfl fun b5=>(JO.m (Z4 rfl rfl qU (by exact Zh rfl rfl) (by first|exact Zh rfl rfl|exact ZQ) ZI) (by rfl) ?_);refine vP [0,1,4,5] ?_;refine Jq (Z0 Z1n rfl) (Jq (Z1 Zq rfl rfl) (Jm rfl (Jq (Z3e rfl rfl) (vS [0,4,5,11] ?_))));refine yC rfl (fun ht11=>?_) (fun ht11=>?_);have hB:isKB kd us bad=false:=by rw[<-ZbI hkd];simpa using ht11
 have hr:=Rv.take (us:=us) (bad:=bad) (k:=kd);unfold skK at hr;rw[hB]at hr;simp only[Bool.false_eq_true,if_false,Bool.not_false,Bool.or_true]at hr;refine vQ ?_;refine Jm rfl (Jq (Z5 rfl) (Jq (Z0 Ze rfl) (JO.m (Zj (cs':=[_,_,_]) rfl rfl qU rfl rfl rfl rfl Z2D) (by rfl) ?_)));refine vP [4] ?_;refine Jq (Zg (cs:=[_,_,_]) Z1e .nil rfl rfl) (JO.m (Z4 rfl rfl qU (by exact Zh rfl rfl) (by first|exact Zh rfl rfl|exact ZQ) ZI) (by rfl) ?_);refine vS [4] ?_;refine vR ?_;exact JX.retLC (Lr:=[_,_]) rfl ((t3D,us,true)) (hr) (qP) rfl hb0 rfl ZM HasOwn.mem rfl rfl;apply yK
 repeat first|apply yX|apply yB
 have hB:isKB kd us bad=true:=by rw[<-ZbI hkd];simpa using ht11
 have hne:=Zld hB;have hlt:=ZaP hus hne;have hkt:=Z5W hus hne;have hk9:T.ts.length<=4096:=by omega
 have hr:=Rv.take (us:=us) (bad:=bad) (k:=kd);unfold skK at hr;rw[hB]at hr;simp only[if_true,Bool.not_true,Bool.or_false]at hr;rw[<-Ze0 (ZbM hB).1]at hr;refine vQ ?_;refine Jm rfl (Jq (Z5 rfl) (Jq (Z0 ZH rfl) (Jq (Z1 Zq rfl rfl) (Jq (Zv (cc:=(T.k us.tail:Nat)) rfl rfl (inRK hus hne) qM qM) ?_))));refine Jq (Z5 rfl) (Jq (Z0 ZH rfl) (JO.m (Zj (cs':=[_,_,_]) rfl rfl qU rfl rfl rfl rfl Z2x) (by rfl) ?_));refine vP [4,5] ?_;refine Jq (ZR (cs:=[_,_,_]) ZM rfl rfl rfl) (JO.m (Z4 rfl rfl qU (by exact Zh rfl rfl) (by first|exact Zh rfl rfl|exact ZQ) ZI) (by rfl) ?_);refine vS [4] ?_;refine vR ?_;exact JX.retLC (Lr:=[_,_]) rfl ((pkT us bad,us.tail,bad)) (hr) (qP) rfl hb0 rfl ZM HasOwn.mem rfl rfl
theorem ZY(T:Rk)(b0 o0:Nat)(ha:T.ts.length≠0->T.ad=some ⟨b0,o0,none⟩)(h9:T.ts.length<=2049)(b:Nat)(us:List T3)(hus:us<:+T.ts)(bad:Bool):CallL Tryz.prog Z8I [RB T b us bad] [T.G] [.is (.pointer (some ⟨b,0,none⟩))] (fun z:ByteArray×List T3×Bool=>Rv (nameP us) us bad z) (fun z=>[RB T b z.2.1 z.2.2]) (fun z=>.is (.string z.1)):=
CallL.of (fn:=Tryz.f37) Tryz.func37 (n:=6) rfl rfl rfl (fun _ _=>by kernel_rfl) fun E W hb0=>by
 refine vQ ?_;refine Ja rfl (vP [0] ?_);refine Jm rfl (JO.callK (Lr:=[]) (Z5P T b0 o0 ha h9 b (us) (hus) (bad) 2 qD) rfl (.refl _) qF qA ?_);intro z hz;refine vD ?_;refine Jq (Z4S (off:=1) qK rfl rfl) ?_;refine Ja rfl (vS [2] ?_);refine vR ?_;exact JX.retL1 rfl (z.1.t,z.2.1,z.2.2) (by unfold nameP;exact hz.map rfl) (.refl _) rfl rfl hb0 rfl (Sub.refl _)
section
variable{us:List T3}{bad:Bool}
theorem ZkQ(h:isRB 1 Z9E us bad=true):Rv (typeP us) us bad (1,us.tail,bad):=by
 unfold typeP;exact Rv.ite_t h (.pure _)
theorem Zk9(h:isRB 1 Z9E us bad=false)(h2:isRB 1 Z96 us bad=true):Rv (typeP us) us bad (2,us.tail,bad):=by
 unfold typeP;exact Rv.ite_f h (Rv.ite_t h2 (.pure _))
theorem ZkI(h:isRB 1 Z9E us bad=false)(h2:isRB 1 Z96 us bad=false)(h3:isRB 1 Zam us bad=true):Rv (typeP us) us bad (3,us.tail,bad):=by
 unfold typeP;exact Rv.ite_f h (Rv.ite_f h2 (Rv.ite_t h3 (.pure _)))
theorem Zkm(h:isRB 1 Z9E us bad=false)(h2:isRB 1 Z96 us bad=false)(h3:isRB 1 Zam us bad=false):Rv (typeP us) us bad (0,us,true):=by
 unfold typeP;exact Rv.ite_f h (Rv.ite_f h2 (Rv.ite_f h3 (.none _)))
end
theorem Z7P(T:Rk)(b0 o0:Nat)(ha:T.ts.length≠0->T.ad=some ⟨b0,o0,none⟩)(h9:T.ts.length<=2049)(b:Nat)(us:List T3)(hus:us<:+T.ts)(bad:Bool):CallL Tryz.prog Z7N [RB T b us bad] [T.G] [.is (.pointer (some ⟨b,0,none⟩))] (fun z:Col×List T3×Bool=>Rv (colR us) us bad z) (fun z=>[RB T b z.2.1 z.2.2]) (fun z=>.is (.agg z.1.cells.toArray)):=
CallL.of (fn:=Tryz.f73) Tryz.func73 (n:=37) rfl rfl rfl (fun _ _=>by kernel_rfl) fun E W hb0=>by
 refine vQ ?_;refine JO.alloc Z6S rfl fun b2=>(vP [0,2] ?_);refine Jm rfl ?_;refine JO.callK (Lr:=[_]) (ZY T b0 o0 ha h9 b _ ?hs _) rfl qP qF qA ?_
 case hs=>exact qW
 intro z hz;refine vD ?_;refine Jq (Zg (cs:=[_,_,_,_]) ZdN (.cons rfl .nil) rfl rfl) (JO.alloc Z6S rfl fun b3=>(JO.m (Z4 rfl rfl qU (by exact Zh rfl rfl) (by first|exact Zh rfl rfl|exact ZQ) Z6P) (by rfl) ?_));refine vS [0,2,3] ?_;refine J.cutZN (fun x:Int×List T3×Bool=>[(0,.is (.pointer (some ⟨b,0,none⟩))),(2,.is (.pointer (some ⟨b2,0,none⟩))),(3,.is (.pointer (some ⟨b3,0,none⟩)))]) (fun x:Int×List T3×Bool=>RB T b x.2.1 x.2.2::⟨b3,Z1X,.is (.agg #[.string z.1,.int .i64 (x.1),.bool false,.bool false])⟩::⟨b2,Z1X,.is (.agg #[.string ⟨#[]⟩,.int .i64 0,.bool false,.bool false])⟩::[]) (fun x:Int×List T3×Bool=>Rv (typeP z.2.1) z.2.1 z.2.2 x) ?_ ?_
 · apply yk
   refine J.front b (by repeat(first|exact .here|apply Front.there)) ?_;refine vQ ?_;refine Jm rfl ?_;refine JO.callK (Lr:=_) (Zm T b0 o0 ha h9 b _ ?hs _ Z9E) rfl (.refl _) qF qA ?_
   case hs=>exact hz.suf.trans hus
   intro _ _;refine vD ?_;refine Ja rfl (vS [0,2,3,10] ?_);refine yC rfl (fun ht10=>?_) (fun ht10=>?_);rw[Z1f ht10];refine vQ ?_;refine Jq (Z0 Z2U rfl) (JO.m (Zj (cs':=[_,_,_,_]) rfl rfl qU rfl rfl rfl rfl Z2x) (by rfl) ?_);apply yI
   repeat refine JX.normal_block ?_
   refine JX.midZ ((1,z.2.1.tail,z.2.2)) ?_ [0,2,3] ?_ ?_ ?_
   · exact ZkQ ht10
   · exact qS
   · exact qH
   · exact qG
   rw[Z16 ht10];refine vQ ?_;refine Jm rfl ?_;refine JO.callK (Lr:=_) (Zm T b0 o0 ha h9 b _ ?hs _ Z96) rfl (.refl _) qF qA ?_
   case hs=>exact hz.suf.trans hus
   intro _ _;refine vD ?_;refine Ja rfl (vS [0,2,3,14] ?_);refine yC rfl (fun ht14=>?_) (fun ht14=>?_);rw[Z1f ht14];refine vQ ?_;refine Jq (Z0 Z2U rfl) (JO.m (Zj (cs':=[_,_,_,_]) rfl rfl qU rfl rfl rfl rfl Z2x) (by rfl) ?_);apply yI
   repeat refine JX.normal_block ?_
   refine JX.midZ ((2,z.2.1.tail,z.2.2)) ?_ [0,2,3] ?_ ?_ ?_
   · exact Zk9 ht10 ht14
   · exact qS
   · exact qH
   · exact qG
   rw[Z16 ht14];refine vQ ?_;refine Jm rfl ?_;refine JO.callK (Lr:=_) (Zm T b0 o0 ha h9 b _ ?hs _ Zam) rfl (.refl _) qF qA ?_
   case hs=>exact hz.suf.trans hus
   intro _ _;refine vD ?_;refine Ja rfl (vS [0,2,3,18] ?_);refine yC rfl (fun ht18=>?_) (fun ht18=>?_);rw[Z1f ht18];refine vQ ?_;refine Jq (Z0 Z2U rfl) (JO.m (Zj (cs':=[_,_,_,_]) rfl rfl qU rfl rfl rfl rfl Z2x) (by rfl) ?_);apply yI
   repeat refine JX.normal_block ?_
   refine JX.midZ ((3,z.2.1.tail,z.2.2)) ?_ [0,2,3] ?_ ?_ ?_
   · exact ZkI ht10 ht14 ht18
   · exact qS
   · exact qH
   · exact qG
   rw[Z16 ht18];refine vQ ?_;refine Jm rfl (Jq (Z5 rfl) (Jq (Z0 Ze rfl) (JO.m (Zj (cs':=[_,_,_]) rfl rfl qU rfl rfl rfl rfl Z2D) (by rfl) ?_)));apply yI
   repeat refine JX.normal_block ?_
   refine JX.midZ ((0,z.2.1,true)) ?_ [0,2,3] ?_ ?_ ?_
   · exact Zkm ht10 ht14 ht18
   · exact qS
   · exact qH
   · exact qG
 · intro⟨tp,u1,d1⟩ htp
   try dsimp only
   refine vQ ?_;refine Jm rfl ?_;refine JO.callK (Lr:=_) (Zm T b0 o0 ha h9 b _ ?hs _ Z1c) rfl (.refl _) qF qA ?_
   case hs=>exact htp.suf.trans (hz.suf.trans hus)
   intro _ _;refine vD ?_;refine vS [0,2,3,23] ?_;refine J.cutZN (fun x:Bool×List T3×Bool=>[(0,.is (.pointer (some ⟨b,0,none⟩))),(2,.is (.pointer (some ⟨b2,0,none⟩))),(3,.is (.pointer (some ⟨b3,0,none⟩)))]) (fun x:Bool×List T3×Bool=>RB T b x.2.1 x.2.2::⟨b3,Z1X,.is (.agg #[.string z.1,.int .i64 (tp),.bool x.1,.bool false])⟩::⟨b2,Z1X,.is (.agg #[.string ⟨#[]⟩,.int .i64 0,.bool false,.bool false])⟩::[]) (fun x:Bool×List T3×Bool=>x.2.1<:+us/\ ∀y:Col×List T3×Bool,Rv (colEndR z.1 tp x.1 x.2.1) x.2.1 x.2.2 y->Rv (colR us) us bad y) ?_ ?_
   · refine yC rfl (fun ht23=>?_) (fun ht23=>?_)
     rw[Z1f ht23];refine vQ ?_;refine Jm rfl ?_;refine JO.callK (Lr:=_) (Zl T b0 o0 ha h9 b _ ?hs _ 1 qD Z1v) rfl (.refl _) qF qA ?_
     case hs=>exact(List.tail_suffix _).trans (htp.suf.trans (hz.suf.trans hus))
     intro z25 hz25;refine vD ?_;refine vP [0,2,3] ?_;refine Jq (Z0 Z4E rfl) (JO.m (Zj (cs':=[_,_,_,_]) rfl rfl qU rfl rfl rfl rfl Z2D) (by rfl) ?_);apply yI;refine JX.midZ ((true,z25.2.1,z25.2.2)) ?_ [0,2,3] ?_ ?_ ?_
     · exact⟨hz25.suf.trans ((List.tail_suffix _).trans (htp.suf.trans hz.suf)),fun y hy=>(by unfold colR;exact hz.bind (htp.bind (Rv.ite_t ht23 (hz25.bind hy))))⟩
     · exact qS
     · exact qH
     · exact qG
     apply yK;rw[Z16 ht23];refine JX.midZ ((false,u1,d1)) ?_ [0,2,3] ?_ ?_ ?_
     · exact⟨htp.suf.trans hz.suf,fun y hy=>(by unfold colR;exact hz.bind (htp.bind (Rv.ite_f ht23 hy)))⟩
     · exact qS
     · exact qH
     · exact qG
   · intro⟨nn,u2,d2⟩ ⟨hu2,hJ⟩
     try dsimp only
     try dsimp only at hu2 hJ
     refine vQ ?_;refine Jm rfl ?_;refine JO.callK (Lr:=_) (Zm T b0 o0 ha h9 b _ ?hs _ Z6o) rfl (.refl _) qF qA ?_
     case hs=>exact hu2.trans hus
     intro _ _;refine vD ?_;refine vS [0,2,3,28] ?_;refine J.cutZN (fun x:(Bool×Bool)×List T3×Bool=>[(2,.is (.pointer (some ⟨b2,0,none⟩))),(3,.is (.pointer (some ⟨b3,0,none⟩)))]) (fun x:(Bool×Bool)×List T3×Bool=>RB T b x.2.1 x.2.2::⟨b3,Z1X,.is (.agg #[.string z.1,.int .i64 (tp),.bool x.1.1,.bool x.1.2])⟩::⟨b2,Z1X,.is (.agg #[.string ⟨#[]⟩,.int .i64 0,.bool false,.bool false])⟩::[]) (fun x:(Bool×Bool)×List T3×Bool=>Rv (colEndR z.1 tp nn u2) u2 d2 (⟨z.1,tp,x.1.1,x.1.2⟩,x.2.1,x.2.2)) ?_ ?_
     · refine yC rfl (fun ht28=>?_) (fun ht28=>?_)
       rw[Z1f ht28];refine vQ ?_;refine Jq (Z0 Z3M rfl) (JO.m (Zj (cs':=[_,_,_,_]) rfl rfl qU rfl rfl rfl rfl Z2D) (by rfl) ?_);apply yI;refine JX.midZ (((nn,true),u2.tail,d2)) ?_ [2,3] ?_ ?_ ?_
       · exact(by unfold colEndR;exact Rv.ite_t ht28 (.pure _))
       · exact qS
       · exact qH
       · exact qG
       rw[Z16 ht28];refine vQ ?_;refine Jm rfl ?_;refine JO.callK (Lr:=_) (Zm T b0 o0 ha h9 b _ ?hs _ Z6J) rfl (.refl _) qF qA ?_
       case hs=>exact hu2.trans hus
       intro _ _;refine vD ?_;refine vS [0,2,3,31] ?_;refine yC rfl (fun ht31=>?_) (fun ht31=>?_);rw[Z1f ht31];refine vQ ?_;refine Jm rfl ?_;refine JO.callK (Lr:=_) (Zl T b0 o0 ha h9 b _ ?hs _ 1 qD ZgE) rfl (.refl _) qF qA ?_
       case hs=>exact(List.tail_suffix _).trans (hu2.trans hus)
       intro z33 hz33;refine vD ?_;refine vP [2,3] ?_;refine Jq (Z0 Z4E rfl) (JO.m (Zj (cs':=[_,_,_,_]) rfl rfl qU rfl rfl rfl rfl Z2D) (by rfl) ?_);refine vP [2,3] ?_;refine Jq (Z0 Z3M rfl) (JO.m (Zj (cs':=[_,_,_,_]) rfl rfl qU rfl rfl rfl rfl Z2D) (by rfl) ?_);apply yI;refine JX.midZ (((true,true),z33.2.1,z33.2.2)) ?_ [2,3] ?_ ?_ ?_
       · exact(by unfold colEndR;exact Rv.ite_f ht28 (Rv.ite_t ht31 (Rv.map (f:=fun v:Unit×List T3=>((⟨z.1,tp,true,true⟩:Col),v.2)) hz33 rfl)))
       · exact qS
       · exact qH
       · exact qG
       apply yK;rw[Z16 ht31];refine JX.midZ (((nn,false),u2,d2)) ?_ [2,3] ?_ ?_ ?_
       · exact(by unfold colEndR;exact Rv.ite_f ht28 (Rv.ite_f ht31 (.pure _)))
       · exact qS
       · exact qH
       · exact qG
     · intro⟨⟨n3,q3⟩,u3,d3⟩ hce
       try dsimp only
       try dsimp only at hce
       refine vQ ?_;refine Jq (ZR (cs:=[_,_,_,_]) Z5o rfl rfl rfl) (JO.m (Z4 rfl rfl qU (by exact Zh rfl rfl) (by first|exact Zh rfl rfl|exact ZQ) Z6P) (by rfl) ?_);refine vS [2] ?_;refine vR ?_;exact JX.retLC (Lr:=[_,_]) rfl ((⟨z.1,tp,n3,q3⟩:Col),u3,d3) (hJ _ hce) qP rfl hb0 rfl Z5o HasOwn.mem rfl rfl
end Go.Proofs.YtbedigkncjbggaaGreatDoor
namespace Go.Pz
open Go Go.Vc
theorem Zk7{α:Type}{part:Ps α}(hp:Dn0 part){n:Nat}{ts:List T3}(hn:ts.length<=n):listG part n ts=if isT 5 ZU ts then listW part ts.tail else some ([],ts):=by
 cases n with
 |zero=>
   have:ts=[]:=List.length_eq_zero_iff.1 qM;subst this;rfl
 |succ n=>
   rw[listG]
   split
   · rename_i hi
     unfold listW;refine Zr fun z hz=>?_;have h1:=(hp _ _ hz).length_le;have h2:=(ZG hi).2;rw[Z6Z hp n z.2.length z.2 qM (Nat.le_refl _)]
   · rfl
theorem Rv.listW_step{α:Type}{part:Ps α}(hp:Dn0 part){us:List T3}{z:α×List T3×Bool}(hz:Rv (part us) us false z){y:List α×List T3×Bool}
   (h:Rv (if isRB 5 ZU z.2.1 z.2.2 then listW part z.2.1.tail else some ([],z.2.1)) (skRB 5 ZU z.2.1 z.2.2) z.2.2 y):Rv (listW part us) us false (z.1::y.1,y.2.1,y.2.2):=by
 unfold listW;refine hz.bind ?_;show Rv ((listG part z.2.1.length z.2.1).map fun y=>(z.1::y.1,y.2)) _ _ _;refine Rv.map (z:=y) (f:=fun y=>(z.1::y.1,y.2)) ?_ rfl;rw[Zk7 hp (Nat.le_refl _)];cases hc:isRB 5 ZU z.2.1 z.2.2 with
 |true=>
   rw[hc,if_pos rfl,Z1f hc]at h;exact Rv.ite_t hc h
 |false=>
   rw[hc,Z16 hc]at h;exact Rv.ite_f hc h
def remW{α:Type}(part:Ps α)(more:Bool)(us:List T3):Option (List α×List T3):=if more then listW part us else some ([],us)
structure InvW {α:Type} (part:Ps α) (us0:List T3) (bad0:Bool) (acc:List α) (us:List T3) (bad more:Bool):Prop where
 suf:us<:+us0
 fin': ∀y:List α×List T3×Bool,Rv (remW part more us) us bad y->Rv (listW part us0) us0 bad0 (acc++y.1,y.2.1,y.2.2)
 cnt:bad=false->acc.length+us.length<=us0.length
 len:acc.length<=us0.length+1
theorem InvW.start{α:Type}(part:Ps α)(us:List T3)(bad:Bool):InvW part us bad [] us bad true:=⟨List.suffix_refl _,fun _ h=>h,fun _=>by simp,by simp⟩
theorem InvW.step{α:Type}{part:Ps α}(hp:Dn part){us0 us:List T3}{bad0:Bool}{acc:List α}(h:InvW part us0 bad0 acc us false true){z:α×List T3×Bool}(hz:Rv (part us) us false z):
   InvW part us0 bad0 (acc++[z.1]) (skRB 5 ZU z.2.1 z.2.2) z.2.2 (isRB 5 ZU z.2.1 z.2.2):=by
 have hs:skRB 5 ZU z.2.1 z.2.2<:+z.2.1:=Z4i;have hc:=h.cnt rfl;refine⟨(hs.trans hz.suf).trans h.suf,fun y hy=>?_,fun hb=>?_,by rw[List.length_append,List.length_singleton];omega⟩
 · rw[List.append_assoc]
   refine h.fin' (z.1::y.1,y.2.1,y.2.2) ?_;show Rv (listW part us) us false _;refine Rv.listW_step hp.le hz ?_;unfold remW at hy;cases hq:isRB 5 ZU z.2.1 z.2.2 with
   |true=>rw[hq,Z1f hq]at hy;rw[Z1f hq];exact hy
   |false=>rw[hq,Z16 hq]at hy;rw[Z16 hq];exact hy
 · have h1:=(hp _ _ (hz.ok hb).2).2
   have h2:=hs.length_le;rw[List.length_append,List.length_singleton];simp only at h1
   omega
theorem InvW.less{α:Type}{part:Ps α}{us:List T3}{z:α×List T3×Bool}(hz:Rv (part us) us false z):(skRB 5 ZU z.2.1 z.2.2).length+(if isRB 5 ZU z.2.1 z.2.2 then 1 else 0)<us.length+1:=by
 have h1:=hz.suf.length_le;cases hq:isRB 5 ZU z.2.1 z.2.2 with
 |true=>
   rw[Z1f hq,if_pos rfl];have h2:=(ZG (Z2I hq).2).2
   omega
 |false=>rw[Z16 hq];simp only[Bool.false_eq_true,if_false];omega
theorem InvW.fin{α:Type}{part:Ps α}{us0 us:List T3}{bad0 bad more:Bool}{acc:List α}(h:InvW part us0 bad0 acc us bad more)(he:(more&& !bad)=false):Rv (listW part us0) us0 bad0 (acc,us,bad):=by
 have:=h.fin' ([],us,bad) (by
   cases bad with
   |true=>exact Rv.badly (List.suffix_refl _) _
   |false=>
     rw[Bool.not_false,Bool.and_true]at he;subst he;exact Rv.pure _)
 rwa [List.append_nil]at this
theorem Z3K{α:Type}{c:Prop}[Decidable c]{a b:Option α}{z:α}{p:Prop}(h:(if c then a else b)=some z)(h1:a=some z->p)(h2:b=some z->p):p:=by
 by_cases hc:c
 · rw[if_pos hc]at h;exact h1 h
 · rw[if_neg hc]at h;exact h2 h
theorem ZbS{e:Ps Ex}(he:Dn e):Dn (factorR e)
 |[],z,h=>by rw[factorR]at h;cases h
 |t::r,z,h=>by
   have hr:Lt r (t::r):=⟨List.suffix_cons _ _,by simp⟩;have hup: ∀{q:List T3},q<:+r->Lt q (t::r):=fun hq=>⟨hq.trans hr.1,Nat.lt_of_le_of_lt hq.length_le hr.2⟩;have hs: ∀{y:Ex},some (y,r)=some z->Lt z.2 (t::r):=fun h=>by injection h with h;subst h;exact hr
   rw[factorR]at h;refine Z3K h (fun h=>?_) fun h=>Z3K h (fun h=>by cases h) fun h=>Z3K h hs fun h=>Z3K h hs fun h=>Z3K h (fun h=>Z3K h (fun h=>?_) hs) fun h=>Z3K h hs fun h=>Z3K h hs fun h=>Z3K h hs fun h=>Z3K h (fun h=>?_) fun h=>?_
   · obtain⟨y,hy,rfl⟩:=mpd h
     exact hup (ZbS he r y hy).1
   · obtain⟨y,hy,rfl⟩:=mpd h
     exact hup ((Z14 _ _ hy).1.trans (List.tail_suffix r))
   · obtain⟨x,hx,h⟩:=bnd h
     obtain⟨v,hv,rfl⟩:=mpd h;exact hup ((Zi _ _ _ _ hv).1.trans (he _ _ hx).1)
   · cases hq:aggK t.t with
     |none=>rw[hq]at h;cases h
     |some q=>
       rw[hq]at h;obtain⟨y,hy,h⟩:=bnd h;refine Z3K h (fun h=>?_) fun h=>?_
       · obtain⟨v,hv,rfl⟩:=mpd h
         exact hup ((Zi _ _ _ _ hv).1.trans ((List.tail_suffix _).trans (Zi _ _ _ _ hy).1))
       · obtain⟨x,hx,h⟩:=bnd h
         obtain⟨v,hv,rfl⟩:=mpd h;exact hup ((Zi _ _ _ _ hv).1.trans ((he _ _ hx).1.trans (Zi _ _ _ _ hy).1))
theorem Z9r{e:Int->Ps Ex}{l:Int}(he: ∀b,Dn (e b)): ∀(m:Nat) (x:Ex) (c:Bool),Dn0 (loopR e l m x c)
 |0,x,c,ts,z,h=>by rw[loopR]at h;injection h with h;subst h;exact List.suffix_refl _
 |m+1,x,c,ts,z,h=>by
   rw[loopR]at h
   split at h
   · obtain⟨y,hy,h⟩:=bnd h
     exact(Z9r he m _ _ _ _ h).trans ((he _ _ _ hy).1.trans (List.tail_suffix _))
   split at h
   · obtain⟨y,hy,h⟩:=bnd h
     exact(Z9r he m _ _ _ _ h).trans ((Zi _ _ _ _ hy).1.trans ((Z2p _ _ _).trans (List.tail_suffix _)))
   · injection h with h;subst h;exact List.suffix_refl _
theorem Z5y: ∀(n:Nat) (l:Int),Dn (exprR n l)
 |0,l,ts,z,h=>by cases h
 |n+1,l,ts,z,h=>by
   rw[exprR]at h;refine Z3K h (fun h=>?_) fun h=>?_
   · obtain⟨y,hy,h⟩:=bnd h
     have h1:=Z5y n 2 _ _ hy;have h2:=Z9r (Z5y n) _ _ _ _ _ h;exact⟨h2.trans (h1.1.trans (List.tail_suffix _)),Nat.lt_of_le_of_lt h2.length_le (Nat.lt_of_lt_of_le h1.2 (List.tail_suffix ts).length_le)⟩
   · obtain⟨y,hy,h⟩:=bnd h
     have h1:=ZbS (Z5y n 0) _ _ hy;have h2:=Z9r (Z5y n) _ _ _ _ _ h;exact⟨h2.trans h1.1,Nat.lt_of_le_of_lt h2.length_le h1.2⟩
abbrev Rk.e(T:Rk):Ps Ex:=exprP (T.ts.length+1)
theorem Rk.e_dn(T:Rk):Dn T.e:=Z34 _
end Go.Pz
