/- print.Print. No condition. -/
import Derived.Test.YtbedigkncjbggaaGreatDoorXQ11
import Derived.Test.YtbedigkncjbggaaGreatDoorXQ3
import Derived.Test.YtbedigkncjbggaaGreatDoorXG7
import Derived.Test.YtbedigkncjbggaaGreatDoorXQ6
import Derived.Test.YtbedigkncjbggaaGreatDoorXQ1
import Derived.Test.YtbedigkncjbggaaGreatDoorXG8
import Derived.Test.YtbedigkncjbggaaGreatDoorXG4
set_option maxRecDepth 20000
namespace Go.Proofs.YtbedigkncjbggaaGreatDoor
open Go Go.Vc
open Go.Pz
theorem c_SJ(xs:List ByteArray)(hn:xs.length<=64)(hl: ∀x∈xs,nmOk x):CallTy Tryz.prog Z6i [.rep (SlE stE noS xs),.is (.string ⟨#[44,32]⟩)] (.is (.string (bl (joinC (xs.map tx))))):=by
 rw[<-Z50];refine Z33 xs ⟨#[44,32]⟩ qM ?_;rw[show(⟨#[44,32]⟩:ByteArray).data.toList=[44,32]from rfl,Z50];have:=jl (p:=tx) hn fun x hx=>Z1y (hl x hx);show(joinC (xs.map tx)).length<=_
 omega
theorem ZfT{ps:List (Cel srE)}{p:Cel srE}{w:World}{a b v:Value}(hp:p∈ps)(h:CelF srE ps w)(hc:p.cs=[a,b,v]):ExsR p.x.on v w:=by
 obtain⟨u,hu,hR⟩:=h p hp;rw[hc]at hu;injection hu with _ hu
 injection hu with _ hu
 injection hu with hu _
 rw[hu];exact hR
abbrev qT(s:Pz.St)(i:Nat):List UInt8:=kSE++32::(joinC (s.items.map txItm)++32::(kFR++32::frI s.from_ i))
theorem Z73{s:Pz.St}{i:Nat}{x:Pz.Src}(h:s.from_[i]? =some x):qT s (i+1)=qT s i++((if 0<i then 32::(kJO++[32])else[])++(txSrc x++txCl kON x.on)):=by
 unfold qT;rw[Zgb h];simp
theorem qT_0(s:Pz.St):qT s 0=kSE++32::(joinC (s.items.map txItm)++32::(kFR++[32])):=by
 show kSE++32::(joinC (s.items.map txItm)++32::(kFR++32::txFr (s.from_.take 0)))=_;rw[List.take_zero];rfl
theorem ZaE{s:Pz.St}{i:Nat}(h:i=s.from_.length):qT s i=kSE++32::(joinC (s.items.map txItm)++32::(kFR++32::txFr s.from_)):=by
 subst h;show kSE++32::(joinC (s.items.map txItm)++32::(kFR++32::txFr (s.from_.take _)))=_;rw[List.take_length]
theorem ZbP{s:Pz.St}(h:GoodS s){i:Nat}(hi:i<=64):(qT s i).length<=200000000000:=by
 have h1:=Zmi h.from_ hi;have h2:=jl (p:=txItm) h.nitems fun x hx=>Z4b (h.items x hx);unfold qT;simp only[List.length_append,List.length_cons,List.length_nil]
 omega
theorem setIs{s:Pz.St}{i:Nat}(h1:i<s.names.length)(h2:i<s.sets.length):(s.names.zip s.sets)[i]? =some (s.names[i],s.sets.getD i ex0):=by
 rw[List.getElem?_zip_eq_some];exact⟨List.getElem?_eq_getElem h1,Z1B h2⟩
set_option maxHeartbeats 1000000 in
theorem ZcC(N:Nat)(s:Pz.St)(hg:GoodS s):CallF Tryz.prog Zct [GF,TF] [.rep (StR N s)] (.is (.string (bl (txI s)))):=
CallF.of (fn:=Tryz.f45) Tryz.func45 (n:=24) rfl rfl rfl (fun _ _=>by kernel_rfl) fun E W=>by
 have htb:=hg.tb;have htb2:(tx s.tb).length<=2048:=htb;have hnm:=hg.nm;have hnm2:(tx s.nm).length<=2048:=hnm;have hjn:=jl (p:=tx) hg.nnames fun x hx=>Z1y (hg.names x hx);have hjc:=jl (p:=txC) hg.ncols fun x hx=>Z6f (hg.cols x hx);have hjr:=jl (p:=txR) hg.nrows fun x hx=>Z5D (hg.rows x hx);have hji:=jl (p:=txItm) hg.nitems fun x hx=>Z4b (hg.items x hx);have hjk:=jl (p:=txKy) hg.norder fun x hx=>Z4K (hg.order x hx);have hcw:=Z2S (w:=kWH) qD hg.nwhere hg.where_;have hcg:=Z2S (w:=kGB) qD hg.ngroup hg.group;refine J.openSt (s:=0) rfl (fun vc vn vr vi vf vw vg vo vs=>?_);refine vQ ?_;refine JO.box rfl rfl fun b1=>(Ja rfl (vP [1] ?_));refine Jq (Z0 Z1V rfl) (Jq (Z1 Za rfl rfl) (Jq (Z7 rfl rfl (sz2 qZ qZ) (Zf [73,78,83,69,82,84,32,73,78,84,79,32] (tx s.tb))) ?_));refine Ja rfl (vS [1,3] ?_);refine J.shapeE (xs:=s.names) (v:=vn) qI (fun pn an ln cn bn on_ hpn hvn hln han=>?_);subst hvn;have nn:ln=s.names.length:=by rw[<-hln,<-hpn,List.length_map]
 refine vQ ?_;refine Jq (Z0 Z1k rfl) (Jq (Z1 Z20 rfl rfl) (Jq (ZE ZD rfl) (Jq (Z13 rfl rfl) (vS [1,3,10] ?_))));refine yC rfl (fun ht10=>?_) (fun ht10=>?_)
 try simp only[yd,yf]at ht10
 refine vQ ?_;refine Jm rfl (Jq (Z0 Z1k rfl) (Jq (Z1 Z20 rfl rfl) (Jq (Zo rfl (c_SJ s.names hg.nnames hg.names) (.sub rfl (Sub.noS (G:=FN N) qI) qA)) ?_)));refine Jq (Z7 rfl rfl (sz2 qZ qZ) (Zf [32,40] _)) ?_;refine Jq (Z7 rfl rfl (sz2 qZ qZ) (Zf _ [41])) ?_;refine Jq (Z7 rfl rfl (sz2 qZ qZ) (Zf _ _)) ?_;refine Ja rfl (vP [1,3] ?_);refine Jm rfl (Jq (Z7 rfl rfl (sz2 qZ qZ) (Zf _ [32,86,65,76,85,69,83,32])) ?_);refine Jq (Z0 Z2r rfl) (Jq (Z1 Z24 rfl rfl) (Jq (ZN rfl (Z4P rwE rfl (fun _=>rfl) s.rows txR Z5u (fun r hr=>CallF.arg (Z7n r (hg.rows r hr).1 (hg.rows r hr).2) ZjS) hg.nrows (fun x hx=>Nat.le_trans (Z5D (hg.rows x hx)) qD)) qF (.sub rfl (Sub.noS (G:=noS) qI) (.one rfl .nil))) ?_));refine Jq (Z7 rfl rfl (sz2 qZ qZ) (Zf _ _)) ?_;refine Ja rfl (vS [2] ?_);refine vR ?_;exact JX.ret1is rfl rfl (by unfold txI txNs;rw[if_neg (fun h9=>by rw[List.isEmpty_iff.1 h9]at nn;simp at nn ht10;omega)];simp)
 try simp only[yd,yf]at ht10
 apply yK;refine vN ?_;apply yN;refine Jm rfl (Jq (Z7 rfl rfl (sz2 qZ qZ) (Zf _ [32,86,65,76,85,69,83,32])) ?_);refine Jq (Z0 Z2r rfl) (Jq (Z1 Z24 rfl rfl) (Jq (ZN rfl (Z4P rwE rfl (fun _=>rfl) s.rows txR Z5u (fun r hr=>CallF.arg (Z7n r (hg.rows r hr).1 (hg.rows r hr).2) ZjS) hg.nrows (fun x hx=>Nat.le_trans (Z5D (hg.rows x hx)) qD)) qF (.sub rfl (Sub.noS (G:=noS) qI) (.one rfl .nil))) ?_));refine Jq (Z7 rfl rfl (sz2 qZ qZ) (Zf _ _)) ?_;refine Ja rfl (vS [2] ?_);refine vR ?_;exact JX.ret1is rfl rfl (by unfold txI txNs;rw[if_pos (List.isEmpty_iff.2 (List.length_eq_zero_iff.1 (by simp at ht10;omega)))];simp)
set_option maxHeartbeats 2000000 in
theorem ZdM(N:Nat)(s:Pz.St)(hg:GoodS s):CallF Tryz.prog ZdG [GF,TF] [.rep (StR N s)] (.is (.string (bl (txQ s)))):=
CallF.of (fn:=Tryz.f46) Tryz.func46 (n:=72) rfl rfl rfl (fun _ _=>by kernel_rfl) fun E W=>by
 have htb:=hg.tb;have htb2:(tx s.tb).length<=2048:=htb;have hnm:=hg.nm;have hnm2:(tx s.nm).length<=2048:=hnm;have hjn:=jl (p:=tx) hg.nnames fun x hx=>Z1y (hg.names x hx);have hjc:=jl (p:=txC) hg.ncols fun x hx=>Z6f (hg.cols x hx);have hjr:=jl (p:=txR) hg.nrows fun x hx=>Z5D (hg.rows x hx);have hji:=jl (p:=txItm) hg.nitems fun x hx=>Z4b (hg.items x hx);have hjk:=jl (p:=txKy) hg.norder fun x hx=>Z4K (hg.order x hx);have hcw:=Z2S (w:=kWH) qD hg.nwhere hg.where_;have hcg:=Z2S (w:=kGB) qD hg.ngroup hg.group;have hlm:=hg.lim;have hit:0<=s.limit->(Lib.itoa s.limit).length<=19:=fun h=>Zbo h hlm.2;have hqT:=fun i hi=>ZbP hg (i:=i) hi;refine J.openSt (s:=0) rfl (fun vc vn vr vi vf vw vg vo vs=>?_);refine vQ ?_;refine JO.box rfl rfl fun b1=>(Ja rfl (vP [1] ?_));refine Jq (Z0 Z2h rfl) (Jq (Z1 Z2v rfl rfl) (Jq (ZN rfl (Z8S itE rfl (fun _=>rfl) s.items txItm Zaz (fun i hi=>Ze6 i (hg.items i hi)) hg.nitems (fun x hx=>Nat.le_trans (Z4b (hg.items x hx)) qD)) qF (.sub rfl (Sub.noS (G:=noS) qI) (.one rfl .nil))) ?_));refine Jq (Z7 rfl rfl (sz2 qZ qZ) (Zf [83,69,76,69,67,84,32] _)) ?_;refine Jq (Z7 (u:=bl (qT s 0)) rfl rfl (sz2 qZ qZ) (by rw[qT_0];exact(Zf _ [32,70,82,79,77,32]).trans (congrArg bl (by simp)))) ?_;refine Ja rfl (vS [1,3] ?_);refine J.shapeE (xs:=s.from_) (v:=vf) qI (fun pf af lf cf bf of_ hpf hvf hlf haf=>?_);subst hvf;refine J.pureF (F:=CelF srE pf) qI (fun puf=>?_);refine J.shapeE (xs:=s.order) (v:=vo) qI (fun po ao lo co bo oo_ hpo hvo hlo hao=>?_);subst hvo;have nf:lf=s.from_.length:=by rw[<-hlf,<-hpf,List.length_map]
 have no:lo=s.order.length:=by rw[<-hlo,<-hpo,List.length_map]
 have nf64:=hg.nfrom;refine vQ ?_;refine Jq (Z0 Z19 rfl) (Jq (Z1 Z1b rfl rfl) (Jq (ZE Z2g rfl) (Jm rfl (vS [1,3,12,13,14] ?_))));apply yk
 repeat apply yQ
 refine J.loopG (α:=Nat) (fun i=>[(1,.is (.pointer (some ⟨b1,0,none⟩))),(3,.is (.string (bl (qT s i)))),(12,.is (.slice af lf cf)),(13,.is (.int .i64 (lf:Nat))),(14,.is (.int .i64 (i:Nat)))]) (fun i=>[⟨b1,Z3,.is (stV s vc vn vr vi (.slice af lf cf) vw vg (.slice ao lo co) vs)⟩]) (fun i=>fun _=>True) (fun i=>i<=lf) (fun i=>lf-i) 0 [1,3,12,13,14] (.cons rfl (.cons rfl (.cons rfl (.cons rfl (.cons rfl .nil))))) rfl (fun _=>trivial) (Nat.zero_le _) fun i hi=>?_;try dsimp only
 try dsimp only at hi
 refine vQ ?_;refine Jq (ZC rfl rfl) (vS [1,3,12,13,14,15] ?_);refine yC rfl (fun ht15=>?_) (fun ht15=>?_)
 try simp only[yd,yf]at ht15
 apply yK;refine vN ?_;apply yk;obtain⟨a9,c9,hs9⟩:=Zgr (i:=i) puf hpf qM qM;have hxi:s.from_[i]? =some (s.from_[i]'qM):=List.getElem?_eq_getElem _;have hm9:=hg.from_ _ (List.mem_of_getElem? hxi);have hq9:=hqT i qM;have ht9:=Z1y hm9.1.1;have ht9':(s.from_[i]'qM).tb.data.toList.length<=2048:=ht9;have hn9:=Z1y hm9.1.2;have hn9':(s.from_[i]'qM).nm.data.toList.length<=2048:=hn9;have hc9:=Z2S (w:=kON) qD hm9.2.1 hm9.2.2;have hpx:(pf[i]'qM).x=s.from_[i]'qM:=by have h0:=congrArg (fun l=>l[i]?) hpf;simp only[List.getElem?_map]at h0;rw[List.getElem?_eq_getElem qM,List.getElem?_eq_getElem qM]at h0;simpa using h0
 refine J.fact (ExsR (s.from_[i]'qM).on (.slice a9 (s.from_[i]'qM).on.length c9)) (fun X w hF _ w' hk=>by rw[<-hpx];exact ZfT (List.getElem_mem _) (hF (CelF srE pf) qI w' hk) (by rw[hs9,hpx])) ?_;refine vQ ?_;refine Jm rfl (Jq (Z9 Z2o rfl (haf qM) rfl qM qM) ?_);refine Jq (Z3W (enc:=Cel.cs) (sz:=3) (i:=i) (y:=pf[i]'qM) (cs:=[.string (s.from_[i]'qM).tb,.string (s.from_[i]'qM).nm,.slice a9 (s.from_[i]'qM).on.length c9]) Z27 rfl qI (haf qM) (List.getElem?_eq_getElem _) qM hs9) ?_;refine JO.alloc Z2W rfl fun b5=>(Ja rfl (JO.m (Z4 rfl rfl qU qC qO Z2s) (by rfl) ?_));refine vP [1,3,4,5,12,13,14] ?_;refine Jm rfl (Jq (Z13 rfl rfl) (vS [1,3,5,12,13,14,20] ?_));refine yC rfl (fun ht20=>?_) (fun ht20=>?_)
 try simp only[yd,yf]at ht20
 refine vQ ?_;refine Jm rfl (Jq (Z7 rfl rfl (sz2 qZ qZ) (Zf _ [32,74,79,73,78,32])) ?_);refine Ja rfl (vP [1,3,5,12,13,14] ?_);refine Jm rfl (Jq (Z0 Z3i rfl) (Jq (Z1 Za rfl rfl) (Jq (Z7 rfl rfl (sz2 qZ qZ) (Zf _ (tx (s.from_[i]'qM).tb))) ?_)));refine Ja rfl (vP [1,3,5,12,13,14] ?_);refine Jq (Z0 Z2A rfl) (Jq (Z1 Za rfl rfl) (Jq (Z0 Z3i rfl) (Jq (Z1 Za rfl rfl) (Jq (Z4Z rfl rfl) (vS [1,3,5,12,13,14,31] ?_)))));refine yC rfl (fun ht31=>?_) (fun ht31=>?_)
 try simp only[yd,yf]at ht31
 refine vQ ?_;refine Jm rfl (Jq (Z0 Z2A rfl) (Jq (Z1 Za rfl rfl) (Jq (Z7 rfl rfl (sz2 qZ qZ) (Zf [32,65,83,32] (tx (s.from_[i]'qM).nm))) ?_)));refine Jq (Z7 rfl rfl (sz2 qZ qZ) (Zf _ _)) ?_;refine Ja rfl (vP [1,3,5,12,13,14] ?_);refine Jm rfl (Jq (Z0 Z2n rfl) (Jq (Z1 Zk rfl rfl) (Jq (ZN rfl (Z2N kON qD _ hm9.2.1 hm9.2.2) qF (.one rfl (.sub rfl (Sub.exsV qI) .nil))) ?_)));refine Jq (Z7 (u:=bl (qT s (i+1))) rfl rfl (sz2 qZ qZ) (by rw[Zf,Z73 hxi];refine congrArg bl ?_;unfold txSrc;(first|rw[if_pos (show 0<i by omega)]|rw[if_neg (show ¬0<i by omega)]);(first|rw[if_pos (by rw[<-Z1G];simpa using ht31)]|rw[if_neg (by rw[<-Z1G];simpa using ht31)]);simp)) ?_;refine Ja rfl (vP [1,3,12,13,14] ?_);refine Jq (Zv (cc:=((i+1:Nat):Int)) rfl rfl qM qM qM) ?_;refine Jm rfl ?_;apply yI
 repeat refine JX.normal_block ?_
 refine JX.roundG (x:=i) (i+1) ?_ ?_ [1,3,12,13,14] ?_ ?_ ?_ ?_
 · exact qM
 · exact qM
 · exact qS
 · exact qH
 · exact qG
 · exact fun _ _ _=>fun _ _=>trivial
 try simp only[yd,yf]at ht31
 apply yK;refine vN ?_;apply yN;refine Jm rfl (Jq (Z0 Z2n rfl) (Jq (Z1 Zk rfl rfl) (Jq (ZN rfl (Z2N kON qD _ hm9.2.1 hm9.2.2) qF (.one rfl (.sub rfl (Sub.exsV qI) .nil))) ?_)));refine Jq (Z7 (u:=bl (qT s (i+1))) rfl rfl (sz2 qZ qZ) (by rw[Zf,Z73 hxi];refine congrArg bl ?_;unfold txSrc;(first|rw[if_pos (show 0<i by omega)]|rw[if_neg (show ¬0<i by omega)]);(first|rw[if_pos (by rw[<-Z1G];simpa using ht31)]|rw[if_neg (by rw[<-Z1G];simpa using ht31)]);simp)) ?_;refine Ja rfl (vP [1,3,12,13,14] ?_);refine Jq (Zv (cc:=((i+1:Nat):Int)) rfl rfl qM qM qM) ?_;refine Jm rfl ?_;apply yI
 repeat refine JX.normal_block ?_
 refine JX.roundG (x:=i) (i+1) ?_ ?_ [1,3,12,13,14] ?_ ?_ ?_ ?_
 · exact qM
 · exact qM
 · exact qS
 · exact qH
 · exact qG
 · exact fun _ _ _=>fun _ _=>trivial
 try simp only[yd,yf]at ht20
 apply yK;refine vN ?_;apply yN;refine Jm rfl (Jq (Z0 Z3i rfl) (Jq (Z1 Za rfl rfl) (Jq (Z7 rfl rfl (sz2 qZ qZ) (Zf _ (tx (s.from_[i]'qM).tb))) ?_)));refine Ja rfl (vP [1,3,5,12,13,14] ?_);refine Jq (Z0 Z2A rfl) (Jq (Z1 Za rfl rfl) (Jq (Z0 Z3i rfl) (Jq (Z1 Za rfl rfl) (Jq (Z4Z rfl rfl) (vS [1,3,5,12,13,14,31] ?_)))));refine yC rfl (fun ht31=>?_) (fun ht31=>?_)
 try simp only[yd,yf]at ht31
 refine vQ ?_;refine Jm rfl (Jq (Z0 Z2A rfl) (Jq (Z1 Za rfl rfl) (Jq (Z7 rfl rfl (sz2 qZ qZ) (Zf [32,65,83,32] (tx (s.from_[i]'qM).nm))) ?_)));refine Jq (Z7 rfl rfl (sz2 qZ qZ) (Zf _ _)) ?_;refine Ja rfl (vP [1,3,5,12,13,14] ?_);refine Jm rfl (Jq (Z0 Z2n rfl) (Jq (Z1 Zk rfl rfl) (Jq (ZN rfl (Z2N kON qD _ hm9.2.1 hm9.2.2) qF (.one rfl (.sub rfl (Sub.exsV qI) .nil))) ?_)));refine Jq (Z7 (u:=bl (qT s (i+1))) rfl rfl (sz2 qZ qZ) (by rw[Zf,Z73 hxi];refine congrArg bl ?_;unfold txSrc;(first|rw[if_pos (show 0<i by omega)]|rw[if_neg (show ¬0<i by omega)]);(first|rw[if_pos (by rw[<-Z1G];simpa using ht31)]|rw[if_neg (by rw[<-Z1G];simpa using ht31)]);simp)) ?_;refine Ja rfl (vP [1,3,12,13,14] ?_);refine Jq (Zv (cc:=((i+1:Nat):Int)) rfl rfl qM qM qM) ?_;refine Jm rfl ?_;apply yI
 repeat refine JX.normal_block ?_
 refine JX.roundG (x:=i) (i+1) ?_ ?_ [1,3,12,13,14] ?_ ?_ ?_ ?_
 · exact qM
 · exact qM
 · exact qS
 · exact qH
 · exact qG
 · exact fun _ _ _=>fun _ _=>trivial
 try simp only[yd,yf]at ht31
 apply yK;refine vN ?_;apply yN;refine Jm rfl (Jq (Z0 Z2n rfl) (Jq (Z1 Zk rfl rfl) (Jq (ZN rfl (Z2N kON qD _ hm9.2.1 hm9.2.2) qF (.one rfl (.sub rfl (Sub.exsV qI) .nil))) ?_)));refine Jq (Z7 (u:=bl (qT s (i+1))) rfl rfl (sz2 qZ qZ) (by rw[Zf,Z73 hxi];refine congrArg bl ?_;unfold txSrc;(first|rw[if_pos (show 0<i by omega)]|rw[if_neg (show ¬0<i by omega)]);(first|rw[if_pos (by rw[<-Z1G];simpa using ht31)]|rw[if_neg (by rw[<-Z1G];simpa using ht31)]);simp)) ?_;refine Ja rfl (vP [1,3,12,13,14] ?_);refine Jq (Zv (cc:=((i+1:Nat):Int)) rfl rfl qM qM qM) ?_;refine Jm rfl ?_;apply yI
 repeat refine JX.normal_block ?_
 refine JX.roundG (x:=i) (i+1) ?_ ?_ [1,3,12,13,14] ?_ ?_ ?_ ?_
 · exact qM
 · exact qM
 · exact qS
 · exact qH
 · exact qG
 · exact fun _ _ _=>fun _ _=>trivial
 try simp only[yd,yf]at ht15
 repeat apply yQ
 refine J.exit ?_
 repeat first|refine yH ?_|refine yM rfl ?_|refine yE ?_
 repeat first|apply yX|apply yB
 have hif:i=s.from_.length:=by omega
 have hq9:=hqT i qM
 repeat apply yQ
 refine J.reg0 hmx qK qK ?_;refine yz (Z2 rfl) (yz (Z0 Z26 rfl) (yz (Z1 Zk rfl rfl) (yz (ZN rfl (Z2N kWH qD _ hg.nwhere hg.where_) qF (.one rfl (.sub rfl (Sub.exsG (xs:=s.where_) (G:=FX N) qI) .nil))) ?_)));refine yz (Z0 Z3p rfl) (yz (Z1 Zk rfl rfl) (yz (ZN rfl (Z2N kGB qD _ hg.ngroup hg.group) qF (.one rfl (.sub rfl (Sub.exsV (xs:=s.group) qI) .nil))) ?_));refine yz (Z7 rfl rfl (sz2 qZ qZ) (Zf _ _)) ?_;refine yz (Z7 rfl rfl (sz2 qZ qZ) (Zf _ _)) ?_;refine yz (Z15 rfl) ?_;apply yn;refine FinS.nil0 ?_;refine vP [1,3] ?_;refine Jq (Z0 Z1W rfl) (Jq (Z1 Z2q rfl rfl) (Jq (ZE Z2X rfl) (Jq (Z13 rfl rfl) (vS [1,3,55] ?_))));refine yC rfl (fun ht55=>?_) (fun ht55=>?_)
 try simp only[yd,yf]at ht55
 refine vQ ?_;refine Jm rfl (Jq (Z0 Z1W rfl) (Jq (Z1 Z2q rfl rfl) (Jq (ZN rfl (Z9v kyE rfl (fun _=>rfl) s.order txKy Zba (fun k hk=>Zfw k (hg.order k hk)) hg.norder (fun x hx=>Nat.le_trans (Z4K (hg.order x hx)) qD)) qF (.sub rfl (Sub.noS (G:=noS) qI) (.one rfl .nil))) ?_)));refine Jq (Z7 rfl rfl (sz2 qZ qZ) (Zf [32,79,82,68,69,82,32,66,89,32] _)) ?_;refine Jq (Z7 rfl rfl (sz2 qZ qZ) (Zf _ _)) ?_;refine Ja rfl (vP [1,3] ?_);refine Jq (Z0 Z2O rfl) (Jq (Z1 Zq rfl rfl) (Jq (Z2Z rfl rfl) (vS [1,3,64] ?_)));refine yC rfl (fun ht64=>?_) (fun ht64=>?_)
 try simp only[yd,yf]at ht64
 refine vQ ?_;refine Jm rfl (Jq (Z0 Z2O rfl) (Jq (Z1 Zq rfl rfl) (Jq (ZN rfl (Z8L s.limit qM hlm.2) qF qA) ?_)));refine Jq (Z7 rfl rfl (sz2 qZ qZ) (Zf [32,76,73,77,73,84,32] (Lib.itoa s.limit))) ?_;refine Jq (Z7 rfl rfl (sz2 qZ qZ) (Zf _ _)) ?_;refine Ja rfl (vP [3] ?_);refine Jm rfl (Ja rfl (vS [2] ?_));refine vR ?_;exact JX.ret1is rfl rfl (by unfold txQ txOr txLim;rw[ZaE hif,if_neg (fun h9=>by rw[List.isEmpty_iff.1 h9]at no;simp at no ht55;omega),if_pos (by simpa using ht64)];simp)
 try simp only[yd,yf]at ht64
 apply yK;refine vN ?_;apply yN;refine Jm rfl (Ja rfl (vS [2] ?_));refine vR ?_;exact JX.ret1is rfl rfl (by unfold txQ txOr txLim;rw[ZaE hif,if_neg (fun h9=>by rw[List.isEmpty_iff.1 h9]at no;simp at no ht55;omega),if_neg (by simpa using ht64)];simp)
 try simp only[yd,yf]at ht55
 apply yK;refine vN ?_;apply yN;refine Jq (Z0 Z2O rfl) (Jq (Z1 Zq rfl rfl) (Jq (Z2Z rfl rfl) (vS [1,3,64] ?_)));refine yC rfl (fun ht64=>?_) (fun ht64=>?_)
 try simp only[yd,yf]at ht64
 refine vQ ?_;refine Jm rfl (Jq (Z0 Z2O rfl) (Jq (Z1 Zq rfl rfl) (Jq (ZN rfl (Z8L s.limit qM hlm.2) qF qA) ?_)));refine Jq (Z7 rfl rfl (sz2 qZ qZ) (Zf [32,76,73,77,73,84,32] (Lib.itoa s.limit))) ?_;refine Jq (Z7 rfl rfl (sz2 qZ qZ) (Zf _ _)) ?_;refine Ja rfl (vP [3] ?_);refine Jm rfl (Ja rfl (vS [2] ?_));refine vR ?_;exact JX.ret1is rfl rfl (by unfold txQ txOr txLim;rw[ZaE hif,if_pos (List.isEmpty_iff.2 (List.length_eq_zero_iff.1 (by simp at ht55;omega))),if_pos (by simpa using ht64)];simp)
 try simp only[yd,yf]at ht64
 apply yK;refine vN ?_;apply yN;refine Jm rfl (Ja rfl (vS [2] ?_));refine vR ?_;exact JX.ret1is rfl rfl (by unfold txQ txOr txLim;rw[ZaE hif,if_pos (List.isEmpty_iff.2 (List.length_eq_zero_iff.1 (by simp at ht55;omega))),if_neg (by simpa using ht64)];simp)
theorem ZmA{α:Type}(p:α->List UInt8)(xs:List α)(n:Nat)(h:n=xs.length)(hn:xs.length<=64)(hl: ∀x∈xs,(p x).length<=400000000000):CallTy Tryz.prog Z6i [.rep (SlE stE noS (jT p xs n)),.is (.string ⟨#[44,32]⟩)] (.is (.string (bl (joinC (xs.map p))))):=by
 have:=Z33 (jT p xs n) ⟨#[44,32]⟩ (by subst h;simp;omega) (ZaQ h hn hl);rw[Z6B h,show(⟨#[44,32]⟩:ByteArray).data.toList=[44,32]from rfl,Z50]at this;exact this
set_option maxHeartbeats 2000000 in
theorem Z9Q(N:Nat)(s:Pz.St)(hg:GoodS s)(hk9:1<=s.kind/\s.kind<=9):CallF Tryz.prog ZdB [GF,TF] [.rep (StR N s)] (.is (.string (bl (txS s)))):=
CallF.of (fn:=Tryz.f20) Tryz.func20 (n:=100) rfl rfl rfl (fun _ _=>by kernel_rfl) fun E W=>by
 have htb:=hg.tb;have htb2:(tx s.tb).length<=2048:=htb;have hnm:=hg.nm;have hnm2:(tx s.nm).length<=2048:=hnm;have hjn:=jl (p:=tx) hg.nnames fun x hx=>Z1y (hg.names x hx);have hjc:=jl (p:=txC) hg.ncols fun x hx=>Z6f (hg.cols x hx);have hjr:=jl (p:=txR) hg.nrows fun x hx=>Z5D (hg.rows x hx);have hji:=jl (p:=txItm) hg.nitems fun x hx=>Z4b (hg.items x hx);have hjk:=jl (p:=txKy) hg.norder fun x hx=>Z4K (hg.order x hx);have hcw:=Z2S (w:=kWH) qD hg.nwhere hg.where_;have hcg:=Z2S (w:=kGB) qD hg.ngroup hg.group;have hjs:(joinC ((s.names.zip s.sets).map txSet)).length<=64*(20510000+2):=jl (p:=txSet) (by rw[List.length_zip];have:=hg.nnames;omega) fun x hx=>Z84 (hg.names _ (List.of_mem_zip hx).1) (hg.sets _ (List.of_mem_zip hx).2);refine J.openSt (s:=0) rfl (fun vc vn vr vi vf vw vg vo vs=>?_);refine vQ ?_;refine JO.box rfl rfl fun b1=>(Ja rfl (vP [1] ?_));refine Jq (Z0 Z2Y rfl) (Jq (Z1 Zq rfl rfl) (vS [1,8] ?_));apply yk;refine vQ ?_;refine Jq (Zu rfl rfl) (Ja rfl (vS [1,8,9] ?_));refine yC rfl (fun ht9=>?_) (fun ht9=>?_)
 try simp only[yd,yf]at ht9
 repeat apply yQ
 refine J.reg0 hmx qK qK ?_;refine yz (Z0 Z1V rfl) (yz (Z1 Za rfl rfl) (yz (Z7 rfl rfl (sz2 qZ qZ) (Zf [67,82,69,65,84,69,32,84,65,66,76,69,32] (tx s.tb))) ?_));refine yz (Z7 rfl rfl (sz2 qZ qZ) (Zf _ [32,40])) ?_;refine yz (Z0 Z4p rfl) (yz (Z1 Z4f rfl rfl) (yz (ZN rfl (Z7D coE rfl (fun _=>rfl) s.cols txC Z8v (fun c hc=>ZcY c (hg.cols c hc)) hg.ncols (fun x hx=>Nat.le_trans (Z6f (hg.cols x hx)) qD)) qF (.sub rfl (Sub.noS (G:=FC N) qI) (.one rfl .nil))) ?_));refine yz (Z7 rfl rfl (sz2 qZ qZ) (Zf _ _)) ?_;refine yz (Z7 rfl rfl (sz2 qZ qZ) (Zf _ [41])) ?_;refine yz (Z15 rfl) ?_;apply yn;refine FinS.nil0 ?_;refine vS [2] ?_;refine vR ?_;exact JX.ret1is rfl rfl (by unfold txS;rw[if_pos ht9];simp)
 try simp only[yd,yf]at ht9
 refine vQ ?_;refine Jq (Zu rfl rfl) (Ja rfl (vS [1,8,20] ?_));refine yC rfl (fun ht20=>?_) (fun ht20=>?_)
 try simp only[yd,yf]at ht20
 repeat apply yQ
 refine J.reg0 hmx qK qK ?_;refine yz (Z0 Z6R rfl) (yz (Z1 Za rfl rfl) (yz (Z7 rfl rfl (sz2 qZ qZ) (Zf [67,82,69,65,84,69,32,73,78,68,69,88,32] (tx s.nm))) ?_));refine yz (Z7 rfl rfl (sz2 qZ qZ) (Zf _ [32,79,78,32])) ?_;refine yz (Z0 Z1V rfl) (yz (Z1 Za rfl rfl) (yz (Z7 rfl rfl (sz2 qZ qZ) (Zf _ (tx s.tb))) ?_));refine yz (Z7 rfl rfl (sz2 qZ qZ) (Zf _ [32,40])) ?_;refine yz (Z0 Z1k rfl) (yz (Z1 Z20 rfl rfl) (yz (Zo rfl (c_SJ s.names hg.nnames hg.names) (.sub rfl (Sub.noS (G:=FN N) qI) qA)) ?_));refine yz (Z7 rfl rfl (sz2 qZ qZ) (Zf _ _)) ?_;refine yz (Z7 rfl rfl (sz2 qZ qZ) (Zf _ [41])) ?_;refine yz (Z15 rfl) ?_;apply yn;refine FinS.nil0 ?_;refine vP [1,3] ?_;refine Jq (Z0 Z62 rfl) (Jq (Z1 Z1E rfl rfl) (vS [3,36] ?_));refine yC rfl (fun ht36=>?_) (fun ht36=>?_)
 try simp only[yd,yf]at ht36
 refine vQ ?_;refine Jm rfl (Jq (Z7 rfl rfl (sz2 qZ qZ) (Zf _ [32,85,83,73,78,71,32,72,65,83,72])) ?_);refine Ja rfl (vP [3] ?_);refine Jm rfl (Ja rfl (vS [2] ?_));refine vR ?_;exact JX.ret1is rfl rfl (by unfold txS;rw[if_neg (by rw[ht9];simp),if_pos ht20,if_pos ht36];simp)
 try simp only[yd,yf]at ht36
 apply yK;refine vN ?_;apply yN;refine Jm rfl (Ja rfl (vS [2] ?_));refine vR ?_;exact JX.ret1is rfl rfl (by unfold txS;rw[if_neg (by rw[ht9];simp),if_pos ht20,if_neg (by rw[ht36];simp)];simp)
 try simp only[yd,yf]at ht20
 refine vQ ?_;refine Jq (Zu rfl rfl) (Ja rfl (vS [1,8,40] ?_));refine yC rfl (fun ht40=>?_) (fun ht40=>?_)
 try simp only[yd,yf]at ht40
 refine vQ ?_;refine Jq (ZR (cs:=[_,_,_,_,_,_,_,_,_,_,_,_,_,_]) ZL rfl rfl rfl) (Jq (ZN rfl (ZcC N s hg) qF (.sub rfl (Sub.st rfl fun X w hf w' hk=>⟨hf _ qI w' hk,hf _ qI w' hk,hf _ qI w' hk,hf _ qI w' hk,hf _ qI w' hk,hf _ qI w' hk,hf _ qI w' hk,hf _ qI w' hk,hf _ qI w' hk⟩) .nil)) ?_);refine Ja rfl (vS [2] ?_);refine vR ?_;exact JX.ret1is rfl rfl (by unfold txS;rw[if_neg (by rw[ht9];simp),if_neg (by rw[ht20];simp),if_pos ht40])
 try simp only[yd,yf]at ht40
 refine vQ ?_;refine Jq (Zu rfl rfl) (Ja rfl (vS [1,8,44] ?_));refine yC rfl (fun ht44=>?_) (fun ht44=>?_)
 try simp only[yd,yf]at ht44
 refine vQ ?_;refine Jq (ZR (cs:=[_,_,_,_,_,_,_,_,_,_,_,_,_,_]) ZL rfl rfl rfl) (Jq (ZN rfl (ZdM N s hg) qF (.sub rfl (Sub.st rfl fun X w hf w' hk=>⟨hf _ qI w' hk,hf _ qI w' hk,hf _ qI w' hk,hf _ qI w' hk,hf _ qI w' hk,hf _ qI w' hk,hf _ qI w' hk,hf _ qI w' hk,hf _ qI w' hk⟩) .nil)) ?_);refine Ja rfl (vS [2] ?_);refine vR ?_;exact JX.ret1is rfl rfl (by unfold txS;rw[if_neg (by rw[ht9];simp),if_neg (by rw[ht20];simp),if_neg (by rw[ht40];simp),if_pos ht44])
 try simp only[yd,yf]at ht44
 refine vQ ?_;refine Jq (Zu rfl rfl) (Ja rfl (vS [1,8,48] ?_));refine yC rfl (fun ht48=>?_) (fun ht48=>?_)
 try simp only[yd,yf]at ht48
 have h5:s.kind=5:=by simpa using ht48
 have hns:s.sets.length=s.names.length:=hg.nsets.resolve_right (fun h=>h h5);have hnn64:=hg.nnames;refine vQ ?_;refine Ja rfl (vS [1,4] ?_);refine J.shapeE (xs:=s.names) (v:=vn) qI (fun pn an ln cn bn on_ hpn hvn hln han=>?_);subst hvn;refine J.pureF (F:=CelF stE pn) qI (fun pun=>?_);refine J.shapeK (xs:=s.sets) (v:=vs) qI (fun ax lx cx bx ox_ hvx hlx hax=>?_);subst hvx;have nn:ln=s.names.length:=by rw[<-hln,<-hpn,List.length_map]
 have nx:lx=s.sets.length:=hlx.symm;refine vQ ?_;refine Jq (Z0 Z1k rfl) (Jq (Z1 Z20 rfl rfl) (Jq (ZE ZD rfl) (Jm rfl (vS [1,4,51,52,53] ?_))));apply yk
 repeat apply yQ
 refine J.loopG (α:=Nat×Option (Nat×List Value)×Nat) (fun z=>[(1,.is (.pointer (some ⟨b1,0,none⟩))),(4,.is (sliceO z.2.1 (jT txSet (s.names.zip s.sets) z.1).length z.2.2)),(51,.is (.slice an ln cn)),(52,.is (.int .i64 (ln:Nat))),(53,.is (.int .i64 (z.1:Nat)))]) (fun z=>ownO z.2.1 Zs [⟨b1,Z3,.is (stV s vc (.slice an ln cn) vr vi vf vw vg vo (.slice ax lx cx))⟩]) (fun z=>fun _=>True) (fun z=>z.1<=ln/\Grows strC 1 (jT txSet (s.names.zip s.sets) z.1) z.2.1 z.2.2) (fun z=>ln-z.1) (0,none,0) [1,4,51,52,53] (.cons rfl (.cons rfl (.cons rfl (.cons rfl (.cons rfl .nil))))) rfl (fun _=>trivial) ⟨by omega,rfl⟩ fun⟨i,st,cp⟩ ⟨hi,hG⟩=>?_;try dsimp only
 try dsimp only at st
 try dsimp only at cp
 try dsimp only at hi
 try dsimp only at hG
 refine vQ ?_;refine Jq (ZC rfl rfl) (vS [1,4,51,52,53,54] ?_);refine yC rfl (fun ht54=>?_) (fun ht54=>?_)
 try simp only[yd,yf]at ht54
 apply yK;refine vN ?_;apply yk;refine vQ ?_;refine Jm rfl (Jq (Z9 Z1Y rfl (han qM) rfl qM qM) ?_);refine Jq (ZK (enc:=Cel.cs) (sz:=1) (i:=i) (j:=0) (y:=pn[i]'qM) (u:=.string (s.names[i]'qM)) Za rfl qI (han qM) (List.getElem?_eq_getElem _) qM (by rw[ZaN pun hpn qM qM];rfl)) ?_;refine Ja rfl (Ja rfl (vP [1,4,5,6,51,52,53] ?_));refine Jm rfl (Jq (Z0 Z32 rfl) (Jq (Z1 Zk rfl rfl) (Jq (ZE Zy rfl) (Jq (ZC rfl rfl) (vS [1,4,5,6,51,52,53,62] ?_)))));refine yC rfl (fun ht62=>?_) (fun ht62=>?_)
 try simp only[yd,yf]at ht62
 have hzi:=setIs (s:=s) (i:=i) qM qM;have h9n:=Z1y (hg.names _ (List.getElem_mem (by omega:i<s.names.length)));have h9n':(s.names[i]'qM).data.toList.length<=2048:=h9n;have h9s:=(hg.sets _ (Z1l (xs:=s.sets) (i:=i) qM)).len;refine vQ ?_;refine Jm rfl (Jm rfl (Jq (Z7 rfl rfl (sz2 qZ qZ) (Zf (tx (s.names[i]'qM)) [32,61,32])) ?_));refine Jq (Z0 Z32 rfl) (Jq (Z1 Zk rfl rfl) (Jm rfl (Jq (Z9 ZO rfl (hax qM) rfl qM qM) ?_)));refine Jq (Z1q (kid:=s.sets.getD i ex0) Z6 rfl qI (hax qM) (Z1B qM) qM) ?_;refine Jq (ZN rfl (c_PE (hg.sets _ (Z1l qM)).1 (hg.sets _ (Z1l qM)).2) qF (.one rfl .nil)) ?_;refine Jq (Z7 (u:=bl (txSet (s.names[i]'qM,s.sets.getD i ex0))) rfl rfl (sz2 qZ qZ) (by rw[Zf];exact congrArg bl (by simp[txSet]))) ?_;refine Jq (Zx (cs:=[_]) ZS qM qM (.cons rfl .nil) rfl rfl rfl) ?_;have hkl:(jT txSet (s.names.zip s.sets) i).length=i:=by simp;omega
 refine JO.apO (ys:=[bl (txSet (s.names[i]'qM,s.sets.getD i ex0))]) Z1i Z1j yV hG rfl rfl (fun L=>Z1M ZD rfl rfl) (by simp) (by rw[hkl];show(i+1)*16<=_;omega) (by rw[hkl];show i+1<=_;omega) rfl (fun st2 cp2 hG2=>?_);try dsimp only
 rw[<-Z1P (setIs qM qM)];refine Ja rfl (vP [1,4,51,52,53] ?_);refine Jq (Zv (cc:=((i+1:Nat):Int)) rfl rfl qM qM qM) ?_;refine Jm rfl ?_;apply yI
 repeat refine JX.normal_block ?_
 refine JX.roundG (x:=(i,st,cp)) (i+1,st2,cp2) ?_ ?_ [1,4,51,52,53] ?_ ?_ ?_ ?_
 · exact⟨by show i+1<=_;omega,by show Grows strC 1 (jT txSet (s.names.zip s.sets) (i+1)) _ _;rw[Z1P (setIs qM qM)];exact hG2⟩
 · exact(by show ln-(i+1)<ln-i;omega)
 · exact qS
 · exact qH
 · exact qG
 · exact fun _ _ _=>fun _ _=>trivial
 try simp only[yd,yf]at ht62
 exfalso
 omega
 try simp only[yd,yf]at ht54
 repeat apply yQ
 refine J.exit ?_
 repeat first|refine yH ?_|refine yM rfl ?_|refine yE ?_
 repeat first|apply yX|apply yB
 have hix:i=(s.names.zip s.sets).length:=by rw[List.length_zip];omega
 have hz64:(s.names.zip s.sets).length<=64:=by rw[List.length_zip];omega
 have hzl: ∀x∈s.names.zip s.sets,(txSet x).length<=400000000000:=fun x hx=>Nat.le_trans (Z84 (hg.names _ (List.of_mem_zip hx).1) (hg.sets _ (List.of_mem_zip hx).2)) qD;refine J.freezeO Z1j hG (e:=Zs) yV (fun _ h=>h) rfl rfl ?_;rw[hG.sl.1]
 repeat apply yQ
 refine J.reg0 hmx qK qK ?_;refine yz (Z0 Z1V rfl) (yz (Z1 Za rfl rfl) (yz (Z7 rfl rfl (sz2 qZ qZ) (Zf [85,80,68,65,84,69,32] (tx s.tb))) ?_));refine yz (Z7 rfl rfl (sz2 qZ qZ) (Zf _ [32,83,69,84,32])) ?_;refine yz (Z2 rfl) (yz (Zo rfl (ZmA txSet (s.names.zip s.sets) i hix hz64 hzl) (.sub rfl (Sub.strs qI hG.sl.2) qA)) ?_);refine yz (Z7 rfl rfl (sz2 qZ qZ) (Zf _ _)) ?_;refine yz (Z0 Z26 rfl) (yz (Z1 Zk rfl rfl) (yz (ZN rfl (Z2N kWH qD _ hg.nwhere hg.where_) qF (.one rfl (.sub rfl (Sub.exsG (xs:=s.where_) (G:=FX N) qI) .nil))) ?_));refine yz (Z7 rfl rfl (sz2 qZ qZ) (Zf _ _)) ?_;refine yz (Z15 rfl) ?_;apply yn;refine FinS.nil0 ?_;refine vS [2] ?_;refine vR ?_;exact JX.ret1is rfl rfl (by unfold txS;rw[if_neg (by rw[ht9];simp),if_neg (by rw[ht20];simp),if_neg (by rw[ht40];simp),if_neg (by rw[ht44];simp),if_pos ht48];simp)
 try simp only[yd,yf]at ht48
 refine vQ ?_;refine Jq (Zu rfl rfl) (Ja rfl (vS [1,8,87] ?_));refine yC rfl (fun ht87=>?_) (fun ht87=>?_)
 try simp only[yd,yf]at ht87
 repeat apply yQ
 refine J.reg0 hmx qK qK ?_;refine yz (Z0 Z1V rfl) (yz (Z1 Za rfl rfl) (yz (Z7 rfl rfl (sz2 qZ qZ) (Zf [68,69,76,69,84,69,32,70,82,79,77,32] (tx s.tb))) ?_));refine yz (Z0 Z26 rfl) (yz (Z1 Zk rfl rfl) (yz (ZN rfl (Z2N kWH qD _ hg.nwhere hg.where_) qF (.one rfl (.sub rfl (Sub.exsG (xs:=s.where_) (G:=FX N) qI) .nil))) ?_));refine yz (Z7 rfl rfl (sz2 qZ qZ) (Zf _ _)) ?_;refine yz (Z15 rfl) ?_;apply yn;refine FinS.nil0 ?_;refine vS [2] ?_;refine vR ?_;exact JX.ret1is rfl rfl (by unfold txS;rw[if_neg (by rw[ht9];simp),if_neg (by rw[ht20];simp),if_neg (by rw[ht40];simp),if_neg (by rw[ht44];simp),if_neg (by rw[ht48];simp),if_pos ht87];simp)
 try simp only[yd,yf]at ht87
 refine vQ ?_;refine Jq (Zu rfl rfl) (Ja rfl (vS [8,96] ?_));refine yC rfl (fun ht96=>?_) (fun ht96=>?_)
 try simp only[yd,yf]at ht96
 refine vQ ?_;refine Ja rfl (vS [2] ?_);refine vR ?_;exact JX.ret1is rfl rfl (by unfold txS;rw[if_neg (by rw[ht9];simp),if_neg (by rw[ht20];simp),if_neg (by rw[ht40];simp),if_neg (by rw[ht44];simp),if_neg (by rw[ht48];simp),if_neg (by rw[ht87];simp),if_pos ht96])
 try simp only[yd,yf]at ht96
 refine vQ ?_;refine Jq (Zu rfl rfl) (Ja rfl (vS [98] ?_));refine yC rfl (fun ht98=>?_) (fun ht98=>?_)
 try simp only[yd,yf]at ht98
 refine vQ ?_;refine Ja rfl (vS [2] ?_);refine vR ?_;exact JX.ret1is rfl rfl (by unfold txS;rw[if_neg (by rw[ht9];simp),if_neg (by rw[ht20];simp),if_neg (by rw[ht40];simp),if_neg (by rw[ht44];simp),if_neg (by rw[ht48];simp),if_neg (by rw[ht87];simp),if_neg (by rw[ht96];simp),if_pos ht98])
 try simp only[yd,yf]at ht98
 apply yK;refine vN ?_;apply yN;refine Ja rfl (vS [2] ?_);refine vR ?_;exact JX.ret1is rfl rfl (by unfold txS;rw[if_neg (by rw[ht9];simp),if_neg (by rw[ht20];simp),if_neg (by rw[ht40];simp),if_neg (by rw[ht44];simp),if_neg (by rw[ht48];simp),if_neg (by rw[ht87];simp),if_neg (by rw[ht96];simp),if_neg (by rw[ht98];simp)])
abbrev zSt:Ty:=.is (stV st0 nilv nilv nilv nilv nilv nilv nilv nilv nilv)
theorem SrZero{N:Nat}{L:List Own}{Φ:List (World->Prop)}:Sub L Φ zSt (.rep (StR N st0)):=Sub.st rfl fun X w hf w' hk=>⟨Zw (FrS.nil _),Zw (FrS.nil _),Zw trivial,Zw trivial,Zw trivial,Zw (FrS.nil _),Z23,Zw trivial,Z23⟩
theorem ZgF(w:World):(zeroValue 59).run Tryz.prog w= .ok (.agg #[]) w:=by
 have hz:=Z95;unfold zeroOf at hz;cases hq:Tryz.prog.info? 59 with
 |none=>rw[hq]at hz;cases hz
 |some i=>
   rw[hq]at hz;simp only[Option.bind_some]at hz
   simp[zeroValue,typeInfo,hq,hz]
def RecS(b2 b3:Nat)(T2:Ty)(e3:Int)(u u':FrameMode)(T2':Ty)(e3':Int):Prop:=CallRec Tryz.prog Z86 [⟨b2,Z3,T2⟩,⟨b3,Z7j,.is (.int .i64 e3)⟩] ([.pointer (some ⟨b2,0,none⟩),.pointer (some ⟨b3,0,none⟩)].map Ty.is) u u' [⟨b2,Z3,T2'⟩,⟨b3,Z7j,.is (.int .i64 e3')⟩]
theorem ZlH(b2 b3:Nat)(T2:Ty)(h2:T2.out=true)(e3:Int):RecS b2 b3 T2 e3 .returning .returning T2 e3:=
 CallRec.of (fn:=Tryz.f25) .none Tryz.func25 rfl (n:=11) rfl rfl rfl (fun _ _=>by kernel_rfl) fun E W hb0=>by
 refine Jq (ZfB (d:=.struct #[]) qK rfl ZgF rfl) ?_;refine Jm rfl (Jq (Z39 rfl) (Jq (Z3b rfl) (JO.alloc Z95 rfl fun b4=>(JO.m (Z4 rfl rfl qU qC qO Zcp) (by rfl) ?_))));refine Ja rfl (vP [0,1,3] ?_);refine Jm rfl (vS [0,1,9] ?_);refine yC rfl (fun ht9=>?_) (fun ht9=>?_)
 · cases ht9
 · apply yK
   refine JX.normal_ret ?_;exact JX.retL0 (Lr:=[_]) rfl () trivial (List.perm_append_comm (l₁:=[_]) (l₂:=[_,_])) (by simp[h2,Ty.out]) hb0 rfl
theorem ZlK(ts:List T3)(bb oo cap:Nat):Value.slice (some ⟨bb,oo,none⟩) ts.length cap=Tk.sl ⟨ts,bb,oo,cap⟩ ts:=by
 have hk:Tk.k ⟨ts,bb,oo,cap⟩ ts=0:=Nat.sub_self _;have hj:Tk.j ⟨ts,bb,oo,cap⟩ ts=0:=by unfold Tk.j;rw[hk];split<;>rfl
 show _=Value.slice (some ⟨bb,oo+3*Tk.j ⟨ts,bb,oo,cap⟩ ts,none⟩) ts.length (cap-Tk.k ⟨ts,bb,oo,cap⟩ ts);rw[hk,hj];rfl
theorem Zmr{l:List T3×Int}(h: ¬l.2=0):readS l=(st0,l.2):=by unfold readS;rw[if_neg (by simpa using h)]
theorem ZdP{l:List T3×Int}(h:l.2=0)(hn:wholeP l.1=none):readS l=(st0,30):=by unfold readS;rw[if_pos (by simpa using h)];unfold readT;rw[hn]
theorem ZjH{l:List T3×Int}{s:Pz.St}(h:l.2=0)(hn:wholeP l.1=some s)(hd:deepS s=true):readS l=(st0,31):=by unfold readS;rw[if_pos (by simpa using h)];unfold readT;rw[hn];simp only;rw[if_pos hd]
theorem Zin{l:List T3×Int}{s:Pz.St}(h:l.2=0)(hn:wholeP l.1=some s)(hd:deepS s=false):readS l=(s,0):=by unfold readS;rw[if_pos (by simpa using h)];unfold readT;rw[hn];simp only;rw[if_neg (by rw[hd];decide)]
theorem Zfr{ts:List T3}(h:stmtP (exprP (ts.length+1)) ts=none):wholeP ts=none:=by unfold wholeP;rw[h];rfl
theorem Zd6{ts:List T3}{z:Pz.St×List T3}(h:stmtP (exprP (ts.length+1)) ts=some z)(hs: ¬(skT 5 Z5d z.2).length=0):wholeP ts=none:=by
 unfold wholeP;rw[h,Option.bind_some];split
 · rename_i h2;rw[h2]at hs;exact absurd rfl hs
 · rfl
theorem Zd4{ts:List T3}{z:Pz.St×List T3}(h:stmtP (exprP (ts.length+1)) ts=some z)(hs:(skT 5 Z5d z.2).length=0):wholeP ts=some z.1:=by
 unfold wholeP;rw[h,Option.bind_some];rw[List.length_eq_zero_iff.1 hs]
section
variable{P:Program}{c:Ctx}{K:List (Nat×Ty)}{L:List Own}{Φ:List (World->Prop)}{Q:Exit->Act->World->Prop}
theorem Z60{α:Type}{En:Enc α}{G:GoS}{xs:List α}{v:Value}{w:World}(h:SlE En G xs v w):v.oneCell'=true:=by obtain⟨ps,a,len,cap,_,rfl,_⟩:=h;rfl
theorem Ze3{xs:List Ex}{v:Value}{w:World}(h:ExsR xs v w):v.oneCell'=true:=by obtain⟨a,len,cap,rfl,_⟩:=h;rfl
theorem J.openOwnSt{N b:Nat}{e:TypeId}{st:Pz.St}{y:Code}(hj: ∀vc vn vr vi vf vw vg vo vs:Value,(∀u∈[vc,vn,vr,vi,vf,vw,vg,vo,vs],u.oneCell'=true)->J P c K (⟨b,e,.is (stV st vc vn vr vi vf vw vg vo vs)⟩::L) (SlE coE (FC N) st.cols vc::SlE stE (FN N) st.names vn::SlE rwE noS st.rows vr::SlE itE noS st.items vi::SlE srE noS st.from_ vf::SlE exE (FX N) st.where_ vw::ExsR st.group vg::SlE kyE noS st.order vo::ExsR st.sets vs::Φ) y Q):J P c K (⟨b,e,.rep (StR N st)⟩::L) Φ y Q:=by
 refine⟨fun X a w hs=>?_⟩;obtain⟨hb,v,hv,hp⟩:=hs.l _ List.mem_cons_self;obtain⟨vc,vn,vr,vi,vf,vw,vg,vo,vs,rfl,h1,h2,h3,h4,h5,h6,h7,h8,h9⟩:=ZhF (show Pers X w (StR N st v)from hp);refine(hj vc vn vr vi vf vw vg vo vs ?_).out X a w ⟨hs.n,hs.d,hs.wf,hs.k,?_,hs.ld,?_,hs.x,hs.xs,hs.keeps,?_⟩
 · intro u hu
   simp only[List.mem_cons,List.mem_nil_iff,or_false]at hu;rcases hu with rfl|rfl|rfl|rfl|rfl|rfl|rfl|rfl|rfl
   · exact Z60 h1.now
   · exact Z60 h2.now
   · exact Z60 h3.now
   · exact Z60 h4.now
   · exact Z60 h5.now
   · exact Z60 h6.now
   · exact Ze3 h7.now
   · exact Z60 h8.now
   · exact Ze3 h9.now
 · intro o ho
   rcases List.mem_cons.1 ho with rfl|ho
   · exact⟨hb,_,hv,rfl⟩
   · exact hs.l o (List.mem_cons_of_mem _ ho)
 · intro F hF
   simp only[List.mem_cons]at hF;rcases hF with rfl|rfl|rfl|rfl|rfl|rfl|rfl|rfl|rfl|hF<;>first|assumption|exact hs.f F hF
 · intro o ho
   rcases List.mem_cons.1 ho with rfl|ho
   · exact hs.may ⟨b,e,.rep (StR N st)⟩ List.mem_cons_self
   · exact hs.may o (List.mem_cons_of_mem _ ho)
end
theorem ZcB{st:Pz.St}{vc vn vr vi vf vw vg vo vs:Value}(h: ∀u∈[vc,vn,vr,vi,vf,vw,vg,vo,vs],u.oneCell'=true):Cnt (.is (stV st vc vn vr vi vf vw vg vo vs)) 14:=Zh rfl (by
 simp only[List.mem_cons,List.mem_nil_iff,or_false,forall_eq_or_imp,forall_eq]at h
 simp[Value.cells,h]
 all_goals exact⟨rfl,rfl,rfl,rfl,rfl⟩)
abbrev lx(s:ByteArray):List T3×Int:=lexL s.data.toList
theorem Zip{ts:List T3}(h:(readT ts).2≠0):(readT ts).1=st0:=by
 unfold readT at h ⊢
 split
 · rfl
 · rename_i s hs
   rw[hs]at h;dsimp only at h ⊢
   split
   · rfl
   · rename_i hd;rw[if_neg hd]at h;exact absurd rfl h
theorem Zl2{l:List UInt8}(h:(prS l).2≠0):(prS l).1=st0:=by
 by_cases he:(lexL l).2=0
 · rw[Zee he]at h ⊢;exact Zip h
 · rw[Zgy he]
theorem Zi5(l:List UInt8):SmS (prS l).1/\ ∀x∈exsOf (prS l).1,ect x<=4096:=by
 by_cases h:(prS l).2=0
 · have he:=ZeL h
   rw[Zee he]at h ⊢;obtain⟨s,r,h1,_,_,h4⟩:=ZeW h;rw[h4];refine⟨Zbv h1,fun x hx=>?_⟩;have:=Zcw (Z34 _) (ZaU _) (Nat.le_refl _) h1 x hx;have:=Z9F l
   omega
 · rw[Zl2 h]
   refine⟨⟨Nat.zero_le _,(fun x hx=>by cases hx),Nat.zero_le _,Nat.zero_le _,(fun x hx=>by cases hx),Nat.zero_le _,Nat.zero_le _,Nat.zero_le _,Nat.zero_le _,Nat.zero_le _,Nat.zero_le _⟩,fun x hx=>by simp[exsOf,st0]at hx⟩
theorem sz3{a b:ByteArray}(ha:a.data.toList.length<=4000000000000000000)(hb:b.data.toList.length<=4000000000000000000):a.size+b.size<=9223372036854775807:=by
 rw[<-Z18,<-Z18];omega
theorem ZkL{nk:ByteArray->Prop}{s:Pz.St}(h:WfS nk s):1<=s.kind/\s.kind<=9:=by
 cases h with
 | @tab=>exact⟨by show(1:Int)<=1;decide,by show(1:Int)<=9;decide⟩
 | @idx=>exact⟨by show(1:Int)<=2;decide,by show(2:Int)<=9;decide⟩
 | @ins=>exact⟨by show(1:Int)<=3;decide,by show(3:Int)<=9;decide⟩
 | @sel=>exact⟨by show(1:Int)<=4;decide,by show(4:Int)<=9;decide⟩
 | @upd=>exact⟨by show(1:Int)<=5;decide,by show(5:Int)<=9;decide⟩
 | @del=>exact⟨by show(1:Int)<=6;decide,by show(6:Int)<=9;decide⟩
 | @pl k h=>rcases h with rfl|rfl|rfl<;>exact⟨by show(1:Int)<=_;decide,by show(_:Int)<=9;decide⟩
theorem Zdo{l:List UInt8}(h:(prS l).2=0):GoodS (prS l).1/\(1<=(prS l).1.kind/\(prS l).1.kind<=9):=⟨ZlS (ZcK h).1 (Zi5 l).2,ZkL (ZcK h).1⟩
abbrev pw1:List UInt8:=[115,101,108,101,99,116,32,97,43,98,42,50,44,99,111,117,110,116,40,42,41,32,102,114,111,109,32,116,32,120,32,119,104,101,114,101,32,110,111,116,32,97,61,49,32,111,114,100,101,114,32,98,121,32,97,32,100,101,115,99]
abbrev pw2:List UInt8:=[83,69,76,69,67,84,32,97,32,43,32,40,98,32,42,32,50,41,44,32,67,79,85,78,84,40,42,41,32,70,82,79,77,32,116,32,65,83,32,120,32,87,72,69,82,69,32,78,79,84,32,40,97,32,61,32,49,41,32,79,82,68,69,82,32,66,89,32,97,32,68,69,83,67]
theorem ZmB:((prS pw1).2==0&&(txS (prS pw1).1==pw2))=true:=by decide+kernel
inductive OkK (v:V3):Prop
 |null (h:v=⟨0,0,em⟩)
 |int (n:Int) (h:v=⟨1,n,em⟩)
 |bool (b:Bool) (h:v=⟨2,if b then 1 else 0,em⟩)
 |text (s:ByteArray) (hs:s.size<=64) (h:v=⟨3,0,s⟩)
theorem ZkK{P:Program}{L:List Own}{Φ:List (World->Prop)}{H:Know}{dst:Option Nat}{ty:TypeId}{pos:String}{after:Array Edge}{g:Option (Nat×Bool)}{t:TypeId}{x:Operand}{k:IntKind}{a v:Int}(hx:H x (.is (.int k a)))(h:k.wrap (0-a)=v):Ob P L Φ H ⟨dst,.unOp .neg t x,ty,pos,after,g⟩ (.is (.int k v)):=h ▸ Zma hx
theorem Z5X{a b:ByteArray}(h:a.data.toList=b.data.toList):a=b:=by rw[<-Zh0 a,<-Zh0 b,h]
theorem Zc7(s:ByteArray):s.data.toList.length=s.size:=by simp
theorem Zdw(s t:ByteArray):seq s t=(s.data.toList==t.data.toList):=by
 unfold seq;rw[ByteArray.toList_eq,ByteArray.toList_eq]
theorem ZjB{v:V3}(h:okV v=true):OkK v:=by
 obtain⟨k,n,s⟩:=v;unfold okV at h;dsimp only at h
 split at h
 · rename_i hk
   simp only[Bool.and_eq_true,beq_iff_eq,Z8X]at h hk;exact .null (by rw[hk,h.1,h.2])
 · split at h
   · rename_i hk
     simp only[beq_iff_eq,Z8X]at h hk;exact .int n (by rw[hk,h])
   · split at h
     · rename_i hk
       simp only[Bool.and_eq_true,beq_iff_eq,Z8X]at h hk;have hn:n=0\/n=1:=by
         have:=h.1;rw[Int.fdiv_eq_ediv_of_nonneg _ qM]at this
         omega
       rcases hn with e|e
       · exact .bool false (by rw[hk,h.2,e];rfl)
       · exact .bool true (by rw[hk,h.2,e];rfl)
     · simp only[Bool.and_eq_true,beq_iff_eq,decide_eq_true_eq]at h
       exact .text s qM (by rw[h.1.1,h.1.2])
abbrev dbl(s:List UInt8):List UInt8:=repL 39 [39,39] s
def unsN(n:Int):Nat:=(n % 18446744073709551616).toNat
theorem ZhI{l:List UInt8}{i:Nat}(h:i<l.length):l.take (i+1)=l.take i++[l.getD i 0]:=by
 rw[List.take_add_one]
 simp[h]
theorem ZmD{v:V3}(h:okV v=true):v.s.size<=64:=by
 cases ZjB h with
 |null e=>rw[e];decide
 |int n e=>rw[e];exact Nat.zero_le _
 |bool b e=>rw[e];exact Nat.zero_le _
 |text s hs e=>rw[e];exact hs
theorem ZiS(n:Int):IntKind.u64.wrap n=((unsN n:Nat):Int):=by
 rw[wrap_u64];unfold unsN
 omega
theorem ZlE{s:ByteArray}(h:seq s ⟨#[]⟩=true):s.size=0:=by
 rw[Z8X]at h;rw[h]
 rfl
def bad1(v:V3):Bool:=(((decide (v.k<0)||decide (3<v.k))||((v.k != 3)&& !seq v.s ⟨#[]⟩))||((v.k==0)&&(v.n != 0)))||((v.k==3)&&(v.n != 0))
def bad2(v:V3):Bool:=((v.k==2)&&(v.n != 0))&&(v.n != 1)
theorem rok(v:V3):okV v=(if bad1 v then false else if bad2 v then false else decide ((v.s.size:Int)<=64)):=by
 unfold okV bad1 bad2;have hz:=@ZlE v.s
 generalize seq v.s ⟨#[]⟩=q at hz
 by_cases h0:v.k=0
 · rw[h0]
   cases q
   · simp
   · by_cases hn:v.n=0<;>simp[hn,hz]
 · by_cases h1:v.k=1
   · rw[h1]
     cases q
     · simp
     · simp[hz]
   · by_cases h2:v.k=2
     · rw[h2]
       cases q
       · simp
       · have hf:v.n.fdiv 2=v.n / 2:=Int.fdiv_eq_ediv_of_nonneg _ qM
         rw[hf]
         by_cases hn:v.n=0
         · simp[hn,hz]
         · by_cases hn1:v.n=1
           · simp[hn1,hz]
           · have:v.n / 2≠0:=by omega
             simp[hn,hn1,this]
     · by_cases h3:v.k=3
       · rw[h3]
         by_cases hn:v.n=0<;>simp[hn]
       · have:v.k<0\/3<v.k:=by omega
         rcases this with h|h<;>simp[h0,h1,h2,h3,h]
theorem ZgD(v:V3):CallTy Tryz.prog ZgC [.is (.agg #[.int .i64 v.k,.int .i64 v.n,.string v.s])] (.is (.bool (okV v))):=
 CallTy.of (fn:=Tryz.f96) Tryz.func96 (n:=58) rfl rfl rfl (fun _ _=>by kernel_rfl) fun E W=>by
 refine vQ ?_;refine JO.box rfl rfl fun b1=>(Ja rfl (vS [1] ?_));refine J.reg0 hmx qK qK ?_;refine yz (Z0 Z1U rfl) (yz (Z1 Zq rfl rfl) (yz (ZC rfl rfl) (yz (Z2 rfl) (yg rfl rfl rfl (fun hg=>Z0 Z1U (.inl rfl)) (yg rfl rfl rfl (fun hg=>Z1 Zq (qR rfl) rfl) ?_)))));refine yg rfl rfl rfl (fun hg=>Z13 (qR rfl) (.inl rfl)) ?_;refine yz (ZF rfl rfl rfl id) (yz (Z2 rfl) (yg rfl rfl rfl (fun hg=>Z0 Z1U (.inl rfl)) (yg rfl rfl rfl (fun hg=>Z1 Zq (qR rfl) rfl) ?_)));refine yg rfl rfl rfl (fun hg=>Z3e (qR rfl) (.inl rfl)) ?_;refine yg rfl rfl rfl (fun hg=>Z2 (qR rfl)) ?_;refine RT.gg rfl rfl rfl (fun hg=>(Z0 Z2w (.inl rfl))) ?_;refine RT.gg rfl rfl rfl (fun hg=>(Z1 Za (qR rfl) rfl)) ?_;refine RT.gg rfl rfl rfl (fun hg=>(Z4Z (qR rfl) (.inl rfl))) ?_;refine yg rfl rfl rfl (fun hg=>Zn (qR rfl) (.inl rfl) (.inl rfl) (fun h=>⟨hg,h⟩)) ?_;refine yz (ZF rfl rfl rfl id) (yz (Z2 rfl) (yg rfl rfl rfl (fun hg=>Z0 Z1U (.inl rfl)) (yg rfl rfl rfl (fun hg=>Z1 Zq (qR rfl) rfl) ?_)));refine yg rfl rfl rfl (fun hg=>Zu (qR rfl) (.inl rfl)) ?_;refine yg rfl rfl rfl (fun hg=>Z2 (qR rfl)) ?_;refine RT.gg rfl rfl rfl (fun hg=>(Z0 Z1x (.inl rfl))) ?_;refine RT.gg rfl rfl rfl (fun hg=>(Z1 Z2y (qR rfl) rfl)) ?_;refine RT.gg rfl rfl rfl (fun hg=>(Z3e (qR rfl) (.inl rfl))) ?_;refine yg rfl rfl rfl (fun hg=>Zn (qR rfl) (.inl rfl) (.inl rfl) (fun h=>⟨hg,h⟩)) ?_;refine yz (ZF rfl rfl rfl id) (yz (Z2 rfl) (yg rfl rfl rfl (fun hg=>Z0 Z1U (.inl rfl)) (yg rfl rfl rfl (fun hg=>Z1 Zq (qR rfl) rfl) ?_)));refine yg rfl rfl rfl (fun hg=>Zu (qR rfl) (.inl rfl)) ?_;refine yg rfl rfl rfl (fun hg=>Z2 (qR rfl)) ?_;refine RT.gg rfl rfl rfl (fun hg=>(Z0 Z1x (.inl rfl))) ?_;refine RT.gg rfl rfl rfl (fun hg=>(Z1 Z2y (qR rfl) rfl)) ?_;refine RT.gg rfl rfl rfl (fun hg=>(Z3e (qR rfl) (.inl rfl))) ?_;refine yg rfl rfl rfl (fun hg=>Zn (qR rfl) (.inl rfl) (.inl rfl) (fun h=>⟨hg,h⟩)) ?_;refine yz (ZF rfl rfl rfl id) ?_;apply yn;refine FinS.nil0 ?_;refine vS [1,40] ?_;refine yC rfl (fun ht40=>?_) (fun ht40=>?_)
 try simp only[yd,yf]at ht40
 refine vQ ?_;refine Ja rfl (vS [2] ?_);refine vR ?_;exact JX.ret1is rfl rfl (by rw[rok,if_pos (show bad1 v=true from ht40)])
 try simp only[yd,yf]at ht40
 apply yK;refine vN ?_;refine J.reg0 hmx qK qK ?_;refine yz (Z0 Z1U rfl) (yz (Z1 Zq rfl rfl) (yz (Zu rfl rfl) (yz (Z2 rfl) (yg rfl rfl rfl (fun hg=>Z0 Z1x (.inl rfl)) (yg rfl rfl rfl (fun hg=>Z1 Z2y (qR rfl) rfl) ?_)))));refine yg rfl rfl rfl (fun hg=>Z3e (qR rfl) (.inl rfl)) ?_;refine yz (Zn rfl rfl rfl id) (yz (Z2 rfl) (yg rfl rfl rfl (fun hg=>Z0 Z1x (.inl rfl)) (yg rfl rfl rfl (fun hg=>Z1 Z2y (qR rfl) rfl) ?_)));refine yg rfl rfl rfl (fun hg=>Z3e (qR rfl) (.inl rfl)) ?_;refine yz (Zn rfl rfl rfl id) ?_;apply yn;refine FinS.nil0 ?_;refine vS [1,53] ?_;refine yC rfl (fun ht53=>?_) (fun ht53=>?_)
 try simp only[yd,yf]at ht53
 refine vQ ?_;refine Ja rfl (vS [2] ?_);refine vR ?_;exact JX.ret1is rfl rfl (by rw[rok,if_neg (by rw[show bad1 v=false from ht40];simp),if_pos (show bad2 v=true from ht53)])
 try simp only[yd,yf]at ht53
 apply yK;refine vN ?_;apply yN;refine Jq (Z0 Z2w rfl) (Jq (Z1 Za rfl rfl) (Jq (Z1T Zd rfl) (Jq (Z3U rfl rfl) (Ja rfl (vS [2] ?_)))));refine vR ?_;exact JX.ret1is rfl rfl (by rw[rok,if_neg (by rw[show bad1 v=false from ht40];simp),if_neg (by rw[show bad2 v=false from ht53];simp)])
theorem Zek{s:ByteArray}{i:Nat}(h:i<s.size):dbl (s.data.toList.take (i+1))=dbl (s.data.toList.take i)++(if s.data.toList.getD i 0=39 then[39,39]else[s.data.toList.getD i 0]):=by
 have hl:i<s.data.toList.length:=by rw[Zc7];exact h
 rw[ZhI hl];show repL _ _ _=repL _ _ _++_;unfold repL;rw[List.flatMap_append]
 congr 1
 simp
theorem ZaV{s:ByteArray}{i:Nat}(h:i<s.size):(s.extract i (i+1)).data.toList=[s.data.toList.getD i 0]:=by
 have hl:i<s.data.toList.length:=by rw[Zc7];exact h
 have:(s.extract i (i+1)).data.toList=(s.data.toList.drop i).take 1:=by
   rw[ByteArray.data_extract,Array.toList_extract]
   simp[List.extract]
 rw[this,List.drop_eq_getElem_cons hl,List.getD_eq_getElem?_getD,List.getElem?_eq_getElem hl]
 rfl
def ShowI(U w:Nat)(ds:List UInt8):Prop:=(ds≠[]/\w=0/\ds=Lib.decDigits U)\/((w≠0\/ds=[])/\Lib.decDigits w++ds=Lib.decDigits U)
theorem Zdv{U w:Nat}{ds:List UInt8}(h:ShowI U w ds)(hc:ds=[]\/0<w):ShowI U (w / 10) (UInt8.ofNat (48+w % 10)::ds):=by
 rcases h with⟨h1,h2,h3⟩|⟨h1,h2⟩
 · rcases hc with hc|hc
   · exact absurd hc h1
   · omega
 · by_cases h10:w<10
   · rw[Lib.decDigits,dif_pos h10]at h2
     refine .inl ⟨by simp,by omega,?_⟩;rw[<-h2,show w % 10=w by omega]
     rfl
   · rw[Lib.decDigits,dif_neg h10]at h2
     refine .inr ⟨.inl qM,?_⟩;rw[<-h2,List.append_assoc]
     rfl
theorem Zfe{U w:Nat}{ds:List UInt8}(h:ShowI U w ds)(hc:ds≠[]/\w=0):ds=Lib.decDigits U:=by
 rcases h with⟨h1,h2,h3⟩|⟨h1,h2⟩
 · exact h3
 · rcases h1 with h1|h1
   · exact absurd hc.2 h1
   · exact absurd h1 hc.1
def muD(w:Nat)(ds:List UInt8):Nat:=if ds=[]then w+1 else w
theorem Zhj{w:Nat}{ds:List UInt8}{b:UInt8}(hc:ds=[]\/0<w):muD (w / 10) (b::ds)<muD w ds:=by
 unfold muD;rw[if_neg (by simp)]
 split<;>rename_i h
 · omega
 · have:=hc.resolve_left h
   omega
theorem Zkv{n:Int}(h:I64 n)(hn:n<0):IntKind.u64.wrap (0-((unsN n:Nat):Int))=((n.natAbs:Nat):Int):=by
 rw[wrap_u64];unfold I64 at h;unfold unsN
 omega
theorem ZbO{n:Int}(h:I64 n):n.natAbs<18446744073709551616:=by
 unfold I64 at h
 omega
theorem ZeH(n:Int):Lib.itoa n=if n<0 then 45::Lib.decDigits n.natAbs else Lib.decDigits n.natAbs:=by
 unfold Lib.itoa
 split
 · rfl
 · rw[show n.toNat=n.natAbs by omega]
theorem Zew(w:Nat):IntKind.u8.wrap (IntKind.u64.wrap (48+(w:Int).tmod 10))=((UInt8.ofNat (48+w % 10)).toNat:Int):=by
 rw[show(UInt8.ofNat (48+w % 10)).toNat=48+w % 10 from UInt8.toNat_ofNat_of_lt' (by show 48+w % 10<256;omega),Int.tmod_eq_emod_of_nonneg (Int.natCast_nonneg _),wrap_u64,wrap_u8]
 omega
theorem quo10{w:Nat}(h:w<18446744073709551616):IntKind.u64.wrap ((w:Int).tdiv 10)=((w / 10:Nat):Int):=by
 rw[Int.tdiv_eq_ediv_of_nonneg (Int.natCast_nonneg _),wrap_u64]
 omega
theorem Zcl(b:UInt8)(l:List UInt8):bl [b]++bl l=bl (b::l):=Z5X (by rw[Z3Y,Z1O,Z1O,Z1O];rfl)
theorem Zcf(l:List UInt8):seq (bl l) ⟨#[]⟩=true↔l=[]:=by
 rw[Z8X]
 constructor
 · intro h
   have:=congrArg (fun s:ByteArray=>s.data.toList) h
   simpa using this
 · rintro rfl;rfl
theorem Zjr{v:V3}(h:okV v=false):showV v=⟨#[]⟩:=by unfold showV;rw[h];rfl
theorem Zdp{v:V3}(h:okV v=true)(h1:(v.k==1)=true){r:ByteArray}(hr:r.data.toList=Lib.itoa v.n):showV v=r:=by
 unfold showV;rw[h,if_neg (by simp),if_pos h1];exact Z5X (by rw[hr])
theorem ZbW{v:V3}(h:okV v=true)(h1:(v.k==1)=false)(h2:(v.k==2)=true){b:Bool}(hb:(v.n==1)=b):showV v=if b then⟨#[84,82,85,69]⟩else⟨#[70,65,76,83,69]⟩:=by
 unfold showV;rw[h,if_neg (by simp),if_neg (by rw[h1];simp),if_pos h2,hb];cases b<;>decide+kernel
theorem ZgG{v:V3}(h:okV v=true)(h1:(v.k==1)=false)(h2:(v.k==2)=false)(h3:(v.k==3)=true){r:ByteArray}(hr:r.data.toList=39::(dbl v.s.data.toList++[39])):showV v=r:=by
 unfold showV;rw[h,if_neg (by simp),if_neg (by rw[h1];simp),if_neg (by rw[h2];simp),if_pos h3];refine Z5X ?_;show((qu1++bl _)++qu1).data.toList=_;rw[Z3Y,Z3Y,Z1O,hr]
 rfl
theorem ZgL{v:V3}(h:okV v=true)(h1:(v.k==1)=false)(h2:(v.k==2)=false)(h3:(v.k==3)=false):showV v=⟨#[78,85,76,76]⟩:=by
 unfold showV;rw[h,if_neg (by simp),if_neg (by rw[h1];simp),if_neg (by rw[h2];simp),if_neg (by rw[h3];simp)]
theorem Ze8{a b:Bool}(h:(a||b)=true):a=true\/b=true:=by simpa using h
theorem Zd5{w:Nat}{ds:List UInt8}(h:(seq (bl ds) ⟨#[]⟩||decide ((0:Int)<w))=false):ds≠[]/\w=0:=by
 rw[Bool.or_eq_false_iff,decide_eq_false_iff_not]at h;exact⟨fun e=>(by rw[(Zcf ds).2 e]at h;cases h.1),by omega⟩
def DigL(w:Nat)(ds:List UInt8):Prop:=w<10 ^ (20-ds.length)/\ds.length<=20
theorem Zhn{w:Nat}(h:w<18446744073709551616):DigL w []:=by
 have h10:(10:Nat) ^ 20=100000000000000000000:=by decide
 refine⟨?_,by simp⟩;show w<10 ^ 20
 omega
theorem ZcM{n:Int}(h:I64 n)(hn: ¬n<0):unsN n=n.natAbs:=by
 unfold I64 at h;unfold unsN
 omega
theorem ZcR{w:Nat}{ds:List UInt8}(h:DigL w ds):ds.length<=20:=h.2
theorem Zdg{w:Nat}{ds:List UInt8}{b:UInt8}(h:DigL w ds)(hc:ds=[]\/0<w):DigL (w / 10) (b::ds):=by
 obtain⟨h1,h2⟩:=h;have hlt:ds.length<20:=by
   rcases hc with rfl|hc
   · simp
   · rcases Nat.lt_or_ge ds.length 20 with h|h
     · exact h
     · rw[show 20-ds.length=0 by omega]at h1
       simp at h1
       omega
 obtain⟨m,hm⟩: ∃m,20-ds.length=m+1:=⟨19-ds.length,by omega⟩;rw[hm,Nat.pow_succ]at h1;refine⟨?_,by simp;omega⟩;rw[List.length_cons,show 20-(ds.length+1)=m by omega]
 omega
theorem ZmX{s:ByteArray}{i:Nat}(h:i<s.size)(hq:seq (s.extract i (i+1)) ⟨#[39]⟩=true):bl (39::dbl (s.data.toList.take i))++(⟨#[39,39]⟩:ByteArray)=bl (39::dbl (s.data.toList.take (i+1))):=by
 rw[Zdw,ZaV h,beq_iff_eq]at hq;have hq:s.data.toList.getD i 0=39:=by simpa using hq
 refine Z5X ?_;rw[Z3Y,Z1O,Z1O,Zek h,if_pos hq]
 rfl
theorem ZmG{s:ByteArray}{i:Nat}(h:i<s.size)(hq:seq (s.extract i (i+1)) ⟨#[39]⟩=false):bl (39::dbl (s.data.toList.take i))++s.extract i (i+1)=bl (39::dbl (s.data.toList.take (i+1))):=by
 rw[Zdw,ZaV h]at hq;have hq: ¬s.data.toList.getD i 0=39:=fun e=>by rw[e]at hq;revert hq;decide
 refine Z5X ?_;rw[Z3Y,Z1O,Z1O,Zek h,if_neg hq,ZaV h]
 rfl
theorem ZaB(v:V3)(hr:I64 v.n):CallTy Tryz.prog Zeg [.is (.agg #[.int .i64 v.k,.int .i64 v.n,.string v.s])] (.is (.string (showV v))):=
 CallTy.of (fn:=Tryz.f55) Tryz.func55 (n:=72) rfl rfl rfl (fun _ _=>by kernel_rfl) fun E W=>by
 refine vQ ?_;refine JO.box rfl rfl fun b1=>(Ja rfl (vP [1] ?_));refine Jq (ZR (cs:=[_,_,_]) Z4T rfl rfl rfl) (Jq (Zo rfl (ZgD v) qA) ?_);refine Jq (Z2e rfl) (vS [1,10] ?_);refine yC rfl (fun ht10=>?_) (fun ht10=>?_)
 try simp only[yd,yf]at ht10
 have hx:=Zjr (v:=v) (by simpa using ht10);refine vQ ?_;refine Ja rfl (vS [2] ?_);refine vR ?_;exact JX.ret1is rfl rfl (by rw[hx])
 try simp only[yd,yf]at ht10
 apply yK
 repeat first|apply yX|apply yB
 have hok:okV v=true:=by simpa using ht10
 have hs64:=ZmD hok;have hz:=Zc7 v.s;refine vQ ?_;refine Jq (Z0 Z1U rfl) (Jq (Z1 Zq rfl rfl) (vS [1,12] ?_));apply yk;refine vQ ?_;refine Jq (Zu rfl rfl) (Ja rfl (vS [1,12,13] ?_));refine yC rfl (fun ht13=>?_) (fun ht13=>?_)
 try simp only[yd,yf]at ht13
 refine vQ ?_;refine Ja rfl (vP [1,3] ?_);refine Jq (Z0 Z1x rfl) (Jq (Z1 Z2y rfl rfl) (Jq (Z70 ⟨_,Zbx⟩ Z6K rfl (ZiS v.n)) (Ja rfl (vP [1,3,4] ?_))));refine Jq (Z0 Z1x rfl) (Jq (Z1 Z2y rfl rfl) (Jq (ZC rfl rfl) (vS [1,3,4,20] ?_)));refine yC rfl (fun ht20=>?_) (fun ht20=>?_)
 try simp only[yd,yf]at ht20
 refine vQ ?_;refine Jm rfl (Jq (ZkK rfl (Zkv hr qM)) ?_);refine Ja rfl (vS [1,3,4] ?_);apply yk
 repeat apply yQ
 refine J.loopF (α:=Nat×List UInt8) (fun z=>[(1,_),(3,.is (.string (bl z.2))),(4,.is (.int .u64 (z.1:Nat)))]) (fun z=>ShowI v.n.natAbs z.1 z.2/\z.1<18446744073709551616/\DigL z.1 z.2) (fun z=>muD z.1 z.2) (v.n.natAbs,[]) [1,3,4] (.cons rfl (.cons rfl (.cons rfl .nil))) ⟨.inr ⟨.inr rfl,List.append_nil _⟩,ZbO hr,Zhn (ZbO hr)⟩ fun⟨w,ds⟩ ⟨hS,hw,hD⟩=>?_;try dsimp only at ds
 try dsimp only at hS
 try dsimp only at hw
 try dsimp only at hD
 repeat apply yQ
 refine J.reg0 hmx qK qK ?_;refine yz (Z2 rfl) (yz (Z1L rfl rfl) (yz (Z2 rfl) (yg rfl rfl rfl (fun hg=>Z2 (.inl rfl)) (yg rfl rfl rfl (fun hg=>Z13 (qR rfl) (.inl rfl)) ?_))));refine yz (ZF rfl rfl rfl id) ?_;apply yn;refine FinS.nil0 ?_;refine vS [1,3,4,28] ?_;refine yC rfl (fun ht28=>?_) (fun ht28=>?_)
 try simp only[yd,yf]at ht28
 apply yK;refine vN ?_;apply yk;have hcd:ds=[]\/0<w:=by
   rcases Ze8 ht28 with h|h
   · exact .inl ((Zcf ds).1 h)
   · simp at h;exact .inr qM
 have hdl:=ZcR hD;refine vQ ?_;refine Jm rfl (Jq (Zi1 rfl rfl qD) ?_);refine Jq (Z6F rfl rfl) (Jq (Z70 ⟨_,Z6K⟩ Z3m rfl (Zew w)) (Jq (Zx (cs:=[_]) Z3w qM qM (.cons rfl .nil) rfl rfl rfl) ?_));refine JO.openNew (s:=33) rfl (fun b33=>?_);refine JO.fact (RowG bC 1 [UInt8.ofNat (48+w % 10)] (some ⟨b33,0,none⟩) 1) (fun E w_ hF _=>fun w1 hk=>ZfW Z4J rfl rfl (hF _ List.mem_cons_self w1 hk)) (Jq (Zak Z2a Z3m Zd rfl qI) ?_);refine Jm rfl (Jq (Z7 (u:=bl (UInt8.ofNat (48+w % 10)::ds)) rfl rfl (by show(bl [_]).size+(bl ds).size<=_;rw[Z29,Z29];simp;omega) (Zcl _ _)) ?_);refine Ja rfl (vP [1,3,4] ?_);refine Jm rfl (Jq (Zg7 rfl rfl qD (quo10 hw)) ?_);refine Ja rfl ?_;apply yI
 repeat refine JX.normal_block ?_
 refine JX.roundS (w / 10,UInt8.ofNat (48+w % 10)::ds) ?_ ?_ [1,3,4] ?_ ?_ ?_
 · exact⟨Zdv hS hcd,by show w / 10<_;omega,Zdg hD hcd⟩
 · exact(Zhj hcd)
 · exact qS
 · repeat(first|exact .slnil|apply List.Sublist.cons_cons|apply List.Sublist.cons)
 · repeat(first|exact .slnil|apply List.Sublist.cons_cons|apply List.Sublist.cons)
 try simp only[yd,yf]at ht28
 repeat apply yQ
 refine J.exit ?_
 repeat first|refine yH ?_|refine yM rfl ?_|refine yE ?_
 repeat first|apply yX|apply yB
 have hde:=Zfe hS (Zd5 ht28);refine vQ ?_;refine Jq (Z0 Z1x rfl) (Jq (Z1 Z2y rfl rfl) (Jq (ZC rfl rfl) (vS [3,41] ?_)));refine yC rfl (fun ht41=>?_) (fun ht41=>?_)
 try simp only[yd,yf]at ht41
 refine vQ ?_;refine Jm rfl (Jq (Z7 (u:=bl (45::ds)) rfl rfl (by show(bl [_]).size+(bl ds).size<=_;rw[Z29,Z29];have:=ZcR hD;simp;omega) (Zcl _ _)) ?_);refine Ja rfl (vP [3] ?_);refine Jm rfl (Ja rfl (vS [2] ?_));refine vR ?_;exact JX.ret1is rfl rfl (by rw[Zdp hok ht13 (r:=bl (45::ds)) (by rw[Z1O,ZeH,if_pos qM,hde])])
 try simp only[yd,yf]at ht41
 exfalso
 omega
 try simp only[yd,yf]at ht20
 apply yK;refine vN ?_;apply yk
 repeat apply yQ
 refine J.loopF (α:=Nat×List UInt8) (fun z=>[(1,_),(3,.is (.string (bl z.2))),(4,.is (.int .u64 (z.1:Nat)))]) (fun z=>ShowI v.n.natAbs z.1 z.2/\z.1<18446744073709551616/\DigL z.1 z.2) (fun z=>muD z.1 z.2) (unsN v.n,[]) [1,3,4] (.cons rfl (.cons rfl (.cons rfl .nil))) ⟨by rw[ZcM hr qM];exact .inr ⟨.inr rfl,List.append_nil _⟩,by rw[ZcM hr qM];exact ZbO hr,by rw[ZcM hr qM];exact Zhn (ZbO hr)⟩ fun⟨w,ds⟩ ⟨hS,hw,hD⟩=>?_;try dsimp only at ds
 try dsimp only at hS
 try dsimp only at hw
 try dsimp only at hD
 repeat apply yQ
 refine J.reg0 hmx qK qK ?_;refine yz (Z2 rfl) (yz (Z1L rfl rfl) (yz (Z2 rfl) (yg rfl rfl rfl (fun hg=>Z2 (.inl rfl)) (yg rfl rfl rfl (fun hg=>Z13 (qR rfl) (.inl rfl)) ?_))));refine yz (ZF rfl rfl rfl id) ?_;apply yn;refine FinS.nil0 ?_;refine vS [1,3,4,28] ?_;refine yC rfl (fun ht28=>?_) (fun ht28=>?_)
 try simp only[yd,yf]at ht28
 apply yK;refine vN ?_;apply yk;have hcd:ds=[]\/0<w:=by
   rcases Ze8 ht28 with h|h
   · exact .inl ((Zcf ds).1 h)
   · simp at h;exact .inr qM
 have hdl:=ZcR hD;refine vQ ?_;refine Jm rfl (Jq (Zi1 rfl rfl qD) ?_);refine Jq (Z6F rfl rfl) (Jq (Z70 ⟨_,Z6K⟩ Z3m rfl (Zew w)) (Jq (Zx (cs:=[_]) Z3w qM qM (.cons rfl .nil) rfl rfl rfl) ?_));refine JO.openNew (s:=33) rfl (fun b33=>?_);refine JO.fact (RowG bC 1 [UInt8.ofNat (48+w % 10)] (some ⟨b33,0,none⟩) 1) (fun E w_ hF _=>fun w1 hk=>ZfW Z4J rfl rfl (hF _ List.mem_cons_self w1 hk)) (Jq (Zak Z2a Z3m Zd rfl qI) ?_);refine Jm rfl (Jq (Z7 (u:=bl (UInt8.ofNat (48+w % 10)::ds)) rfl rfl (by show(bl [_]).size+(bl ds).size<=_;rw[Z29,Z29];simp;omega) (Zcl _ _)) ?_);refine Ja rfl (vP [1,3,4] ?_);refine Jm rfl (Jq (Zg7 rfl rfl qD (quo10 hw)) ?_);refine Ja rfl ?_;apply yI
 repeat refine JX.normal_block ?_
 refine JX.roundS (w / 10,UInt8.ofNat (48+w % 10)::ds) ?_ ?_ [1,3,4] ?_ ?_ ?_
 · exact⟨Zdv hS hcd,by show w / 10<_;omega,Zdg hD hcd⟩
 · exact(Zhj hcd)
 · exact qS
 · repeat(first|exact .slnil|apply List.Sublist.cons_cons|apply List.Sublist.cons)
 · repeat(first|exact .slnil|apply List.Sublist.cons_cons|apply List.Sublist.cons)
 try simp only[yd,yf]at ht28
 repeat apply yQ
 refine J.exit ?_
 repeat first|refine yH ?_|refine yM rfl ?_|refine yE ?_
 repeat first|apply yX|apply yB
 have hde:=Zfe hS (Zd5 ht28);refine vQ ?_;refine Jq (Z0 Z1x rfl) (Jq (Z1 Z2y rfl rfl) (Jq (ZC rfl rfl) (vS [3,41] ?_)));refine yC rfl (fun ht41=>?_) (fun ht41=>?_)
 try simp only[yd,yf]at ht41
 exfalso
 omega
 try simp only[yd,yf]at ht41
 apply yK;refine vN ?_;apply yN;refine Jm rfl (Ja rfl (vS [2] ?_));refine vR ?_;exact JX.ret1is rfl rfl (by rw[Zdp hok ht13 (r:=bl ds) (by rw[Z1O,ZeH,if_neg qM,hde])])
 try simp only[yd,yf]at ht13
 refine vQ ?_;refine Jq (Zu rfl rfl) (Ja rfl (vS [1,12,45] ?_));refine yC rfl (fun ht45=>?_) (fun ht45=>?_)
 try simp only[yd,yf]at ht45
 refine vQ ?_;refine Jq (Z0 Z1x rfl) (Jq (Z1 Z2y rfl rfl) (Jq (Zu rfl rfl) (vS [49] ?_)));refine yC rfl (fun ht49=>?_) (fun ht49=>?_)
 try simp only[yd,yf]at ht49
 refine vQ ?_;refine Ja rfl (vS [2] ?_);refine vR ?_;exact JX.ret1is rfl rfl (by rw[ZbW hok ht13 ht45 ht49];rfl)
 try simp only[yd,yf]at ht49
 apply yK;refine vN ?_;apply yN;refine Ja rfl (vS [2] ?_);refine vR ?_;exact JX.ret1is rfl rfl (by rw[ZbW hok ht13 ht45 ht49];rfl)
 try simp only[yd,yf]at ht45
 refine vQ ?_;refine Jq (Zu rfl rfl) (Ja rfl (vS [1,50] ?_));refine yC rfl (fun ht50=>?_) (fun ht50=>?_)
 try simp only[yd,yf]at ht50
 refine vQ ?_;refine Ja rfl (vP [1,5] ?_);refine Ja rfl (vS [1,5,6] ?_);apply yk
 repeat apply yQ
 refine J.loopF (α:=Nat) (fun i=>[(1,_),(5,.is (.string (bl (39::dbl (v.s.data.toList.take i))))),(6,.is (.int .i64 (i:Nat)))]) (fun i=>i<=v.s.size) (fun i=>v.s.size-i) 0 [1,5,6] (.cons rfl (.cons rfl (.cons rfl .nil))) (Nat.zero_le _) fun i hi=>?_;refine vQ ?_;refine Jm rfl (Jq (Z0 Z2w rfl) (Jq (Z1 Za rfl rfl) (Jq (Z1T Zd rfl) (Jq (ZC rfl rfl) (vS [1,5,6,56] ?_)))));refine yC rfl (fun ht56=>?_) (fun ht56=>?_)
 try simp only[yd,yf]at ht56
 apply yK;refine vN ?_;apply yk;refine vQ ?_;refine Jq (Z0 Z2w rfl) (Jq (Z1 Za rfl rfl) (Jm rfl (Jm rfl (Jq (Zv (cc:=((i+1:Nat):Int)) rfl rfl qM qM qM) ?_))));refine Jq (Z4R Zd rfl rfl rfl qM qM qM) ?_;refine Ja rfl (vP [1,5,6,7] ?_);refine Jm rfl (Jq (Z1L rfl rfl) (vS [1,5,6,7,66] ?_));refine yC rfl (fun ht66=>?_) (fun ht66=>?_)
 try simp only[yd,yf]at ht66
 refine vQ ?_;refine Ja rfl (vS [1,5,6,7] ?_);have hdd:(dbl (v.s.data.toList.take i)).length<=_:=Z6d 39 (new:=[39,39]) qD (v.s.data.toList.take i);rw[List.length_take]at hdd;refine vQ ?_;refine Jm rfl (Jm rfl (Jq (Z7 (u:=bl (39::dbl (v.s.data.toList.take (i+1)))) rfl rfl (by show(bl _).size+(bl [39,39]).size<=_;rw[Z29,Z29];simp only[List.length_cons,List.length_nil];omega) (ZmX qM ht66)) ?_));refine Ja rfl (vP [1,5,6] ?_);refine Jm rfl (Jq (Zv (cc:=((i+1:Nat):Int)) rfl rfl qM qM qM) ?_);refine Ja rfl ?_;apply yI
 repeat refine JX.normal_block ?_
 refine JX.roundS (i+1) ?_ ?_ [1,5,6] ?_ ?_ ?_
 · exact qM
 · exact qM
 · exact qS
 · repeat(first|exact .slnil|apply List.Sublist.cons_cons|apply List.Sublist.cons)
 · repeat(first|exact .slnil|apply List.Sublist.cons_cons|apply List.Sublist.cons)
 try simp only[yd,yf]at ht66
 apply yK
 repeat first|apply yX|apply yB
 have hdd:(dbl (v.s.data.toList.take i)).length<=_:=Z6d 39 (new:=[39,39]) qD (v.s.data.toList.take i);rw[List.length_take]at hdd;refine vQ ?_;refine Jm rfl (Jm rfl (Jq (Z7 (u:=bl (39::dbl (v.s.data.toList.take (i+1)))) rfl rfl (by have e1:=congrArg List.length (ZaV (s:=v.s) (i:=i) qM);rw[Zc7]at e1;show(bl _).size+(v.s.extract i (i+1)).size<=_;rw[Z29,e1];simp only[List.length_cons,List.length_nil];omega) (ZmG qM ht66)) ?_));refine Ja rfl (vP [1,5,6] ?_);refine Jm rfl (Jq (Zv (cc:=((i+1:Nat):Int)) rfl rfl qM qM qM) ?_);refine Ja rfl ?_;apply yI
 repeat refine JX.normal_block ?_
 refine JX.roundS (i+1) ?_ ?_ [1,5,6] ?_ ?_ ?_
 · exact qM
 · exact qM
 · exact qS
 · repeat(first|exact .slnil|apply List.Sublist.cons_cons|apply List.Sublist.cons)
 · repeat(first|exact .slnil|apply List.Sublist.cons_cons|apply List.Sublist.cons)
 try simp only[yd,yf]at ht56
 repeat apply yQ
 refine J.exit ?_
 repeat first|refine yH ?_|refine yM rfl ?_|refine yE ?_
 repeat first|apply yX|apply yB
 have he:i=v.s.size:=by omega
 subst he;rw[List.take_of_length_le qM];have hdd:(dbl v.s.data.toList).length<=_:=Z6d 39 (new:=[39,39]) qD v.s.data.toList;refine vQ ?_;refine Jm rfl (Jq (Z7 (u:=bl (39::(dbl v.s.data.toList++[39]))) rfl rfl (by show(bl _).size+(bl [39]).size<=_;rw[Z29,Z29];simp only[List.length_cons,List.length_nil];omega) (Z5X (by rw[Z3Y,Z1O,Z1O];rfl))) ?_);refine Ja rfl (vS [2] ?_);refine vR ?_;exact JX.ret1is rfl rfl (by rw[ZgG hok ht13 ht45 ht50 (Z1O _)])
 try simp only[yd,yf]at ht50
 apply yK;refine vN ?_;apply yN;refine Ja rfl (vS [2] ?_);refine vR ?_;exact JX.ret1is rfl rfl (by rw[ZgL hok ht13 ht45 ht50])
end Go.Proofs.YtbedigkncjbggaaGreatDoor
