/- The document's printer: lists, expressions. No condition. -/
import Derived.Test.YtbedigkncjbggaaGreatDoorXQ12
import Derived.Test.YtbedigkncjbggaaGreatDoorXQ1
set_option maxRecDepth 20000
namespace Go.Proofs.YtbedigkncjbggaaGreatDoor
open Go Go.Vc
open Go.Pz
abbrev lsT(xs:List ByteArray)(i:Nat):List UInt8:=joinC ((xs.take i).map tx)
theorem ZgR{l:List (List UInt8)}(h:l≠[])(y:List UInt8):joinC (l++[y])=(joinC l++[44,32])++y:=by
 cases l with
 |nil=>exact absurd rfl h
 |cons x l=>
   show x++(l++[y]).flatMap (fun y=>44::32::y)=((x++l.flatMap (fun y=>44::32::y))++[44,32])++y;rw[List.flatMap_append]
   simp
theorem Zhl{xs:List ByteArray}{i:Nat}{s:ByteArray}(h:xs[i]? =some s):(xs.take (i+1)).map tx=(xs.take i).map tx++[tx s]:=by
 rw[List.take_add_one,h,Option.toList_some,List.map_append];rfl
theorem ZjO{xs:List ByteArray}{i:Nat}{s:ByteArray}(h:xs[i]? =some s)(hi:0<i):lsT xs (i+1)=(lsT xs i++[44,32])++tx s:=by
 unfold lsT;rw[Zhl h,ZgR];intro h0;have h1:=congrArg List.length h0;have h2:=(List.getElem?_eq_some_iff.1 h).1;rw[List.length_map,List.length_take]at h1
 simp at h1
 rcases h1 with h1|h1
 · omega
 · subst h1;simp at h2
theorem ZjV{xs:List ByteArray}{i:Nat}{s:ByteArray}(h:xs[i]? =some s)(hi: ¬0<i):lsT xs (i+1)=lsT xs i++tx s:=by
 have h0:i=0:=by omega
 subst h0;unfold lsT;rw[Zhl h]
 simp[joinC]
theorem ZkT{xs:List ByteArray}(hl: ∀x∈xs,(tx x).length<=400000000000){i:Nat}(hi:i<=64):(lsT xs i).length<=64*(400000000000+2):=by
 have h1:=Zeq (l:=(xs.take i).map tx) (m:=400000000000) (fun x hx=>by
  obtain⟨y,hy,rfl⟩:=List.mem_map.1 hx;exact hl y (List.mem_of_mem_take hy))
 rw[List.length_map,List.length_take]at h1;exact Nat.le_trans h1 (Nat.mul_le_mul_right _ qM)
def wT:Bool->Ex->List UInt8
 |true,x=>prO x
 |false,x=>prE x
abbrev RX(x:Ex):Prop:=∀w:Bool,CallTy Tryz.prog Z7q [.rep (ExR x),.is (.bool w)] (.is (.string (bl (wT w x))))
theorem ZmY{nk:ByteArray->Prop}{x:Ex}(h:Wf nk x):(x.K=1\/x.K=2)/\x.KS.length=0\/x.K=20/\x.KS.length=0\/(20<=x.K/\x.K<=23)/\x.KS.length=1\/(x.K=3\/x.K=4\/x.K=18\/x.K=19)/\x.KS.length=1\/(5<=x.K/\x.K<=17)/\x.KS.length=2:=by
 cases h with
 |num _ _|txt _|tru|fls|nul=>exact .inl ⟨.inl rfl,rfl⟩
 |col _|tcol _ _=>exact .inl ⟨.inr rfl,rfl⟩
 |neg _=>exact .inr (.inr (.inr (.inl ⟨.inl rfl,rfl⟩)))
 |not _=>exact .inr (.inr (.inr (.inl ⟨.inr (.inl rfl),rfl⟩)))
 |isn _=>exact .inr (.inr (.inr (.inl ⟨.inr (.inr (.inl rfl)),rfl⟩)))
 |iss _=>exact .inr (.inr (.inr (.inl ⟨.inr (.inr (.inr rfl)),rfl⟩)))
 |bin h5 h17 _ _=>exact .inr (.inr (.inr (.inr ⟨⟨h5,h17⟩,rfl⟩)))
 |cnt=>exact .inr (.inl ⟨rfl,rfl⟩)
 |agg h0 h1 _=>exact .inr (.inr (.inl ⟨⟨h0,h1⟩,rfl⟩))
theorem Z3I{x:Ex}{i:Nat}(h:i<x.KS.length):opK x i=prO (x.KS.getD i ex0):=by
 unfold opK;rw[List.getD_eq_getElem?_getD,List.getElem?_map,List.getElem?_eq_getElem h,List.getD_eq_getElem?_getD,List.getElem?_eq_getElem h];rfl
theorem ZmK{x:Ex}(h:(x.K==1)=true):prE x=litS x.VK x.VN x.VS:=by rw[Z4H,if_pos h]
theorem Zmf{x:Ex}(h:(x.K==2)=true)(ht:seq x.TB em=true):prE x=tx x.NM:=by rw[Z4H,show x.K=2 by simpa using h,if_neg qD,if_pos qD,if_pos (by rw[<-Z1G];exact ht)]
theorem Zmo{x:Ex}(h:(x.K==2)=true)(ht: ¬seq x.TB em=true):prE x=(tx x.TB++[46])++tx x.NM:=by rw[Z4H,show x.K=2 by simpa using h,if_neg qD,if_pos qD,if_neg (by rw[<-Z1G];exact ht)];simp
theorem ZmJ{x:Ex}(h:(x.K==3)=true)(h0:0<x.KS.length):prE x=[45]++prO (x.KS.getD 0 ex0):=by rw[Z4H,<-Z3I h0,show x.K=3 by simpa using h];rfl
theorem ZmQ{x:Ex}(h:(x.K==4)=true)(h0:0<x.KS.length):prE x=[78,79,84,32]++prO (x.KS.getD 0 ex0):=by rw[Z4H,<-Z3I h0,show x.K=4 by simpa using h];rfl
theorem Zmb{x:Ex}(h:(x.K==18)=true)(h0:0<x.KS.length):prE x=prO (x.KS.getD 0 ex0)++[32,73,83,32,78,85,76,76]:=by rw[Z4H,<-Z3I h0,show x.K=18 by simpa using h];rfl
theorem ZlC{x:Ex}(h:(x.K==19)=true)(h0:0<x.KS.length):prE x=prO (x.KS.getD 0 ex0)++[32,73,83,32,78,79,84,32,78,85,76,76]:=by rw[Z4H,<-Z3I h0,show x.K=19 by simpa using h];rfl
theorem ZmZ{x:Ex}(h5:5<=x.K)(h17:x.K<=17)(h0:x.KS.length=2):prE x=(((prO (x.KS.getD 0 ex0)++[32])++opS x.K)++[32])++prO (x.KS.getD 1 ex0):=by
 rw[Z4H,<-Z3I qM,<-Z3I qM,if_neg (by simp;omega),if_neg (by simp;omega),if_neg (by simp;omega),if_neg (by simp;omega),if_neg (by simp;omega),if_neg (by simp;omega),if_neg (by simp;omega),if_neg (by simp;omega)];simp
theorem ZlA{x:Ex}(h:x.K=20)(h0:x.KS.length=0):prE x=[67,79,85,78,84,40,42,41]:=by
 rw[Z4H,h,List.length_eq_zero_iff.1 h0];rfl
theorem ZlJ{x:Ex}(h20:20<=x.K)(h23:x.K<=23)(h0:0<x.KS.length):prE x=((tx (aggW x.K)++[40])++prE (x.KS.getD 0 ex0))++[41]:=by
 rw[Z4H,if_neg (by simp;omega),if_neg (by simp;omega),if_neg (by simp;omega),if_neg (by simp;omega),if_neg (by simp;omega),if_neg (by simp;omega),if_pos (by simp;omega)];cases hk:x.KS with
 |nil=>rw[hk]at h0;cases h0
 |cons y l=>simp
theorem wT_s{x:Ex}(h:big x=false)(w:Bool):wT w x=prE x:=by
 cases w with
 |false=>rfl
 |true=>show parS x (prE x)=_;unfold parS;rw[if_neg (by rw[h];simp)]
theorem wT_b{x:Ex}(h:big x=true){w:Bool}(hw:w=true):wT w x=([40]++prE x)++[41]:=by
 subst hw;show parS x (prE x)=_;unfold parS;rw[if_pos h];simp
theorem wT_f{x:Ex}{w:Bool}(hw:w=false):wT w x=prE x:=by subst hw;rfl
theorem Zc8{x:Ex}(h:x.KS.length=0\/20<=x.K):big x=false:=by unfold big;simp;omega
theorem ZmW{x:Ex}(h:0<x.KS.length)(h2:x.K<20):big x=true:=by unfold big;simp;omega
abbrev opV:Array Value:= #[.string ⟨#[43]⟩,.string ⟨#[45]⟩,.string ⟨#[42]⟩,.string ⟨#[47]⟩,.string ⟨#[37]⟩,.string ⟨#[61]⟩,.string ⟨#[60,62]⟩,.string ⟨#[60]⟩,.string ⟨#[60,61]⟩,.string ⟨#[62]⟩,.string ⟨#[62,61]⟩,.string ⟨#[65,78,68]⟩,.string ⟨#[79,82]⟩]
abbrev agV:Array Value:= #[.string ⟨#[67,79,85,78,84]⟩,.string ⟨#[83,85,77]⟩,.string ⟨#[77,73,78]⟩,.string ⟨#[77,65,88]⟩]
theorem Zly{q:Int}(h5:5<=q)(h17:q<=17):nth (Value.cells (.agg opV)).toList (0+(q-5).toNat*1)=some (.string (bl (opS q))):=by
 have:q=5\/q=6\/q=7\/q=8\/q=9\/q=10\/q=11\/q=12\/q=13\/q=14\/q=15\/q=16\/q=17:=by omega
 rcases this with rfl|rfl|rfl|rfl|rfl|rfl|rfl|rfl|rfl|rfl|rfl|rfl|rfl<;>rfl
theorem ZlB{q:Int}(h0:20<=q)(h1:q<=23):nth (Value.cells (.agg agV)).toList (0+(q-20).toNat*1)=some (.string (aggW q)):=by
 have:q=20\/q=21\/q=22\/q=23:=by omega
 rcases this with rfl|rfl|rfl|rfl<;>rfl
theorem ZlF{x:Ex}(hw:Wf nmOk x)(hx:ect x<=4096){i:Nat}(h:i<x.KS.length):(prE (x.KS.getD i ex0)).length<=20500000:=by
 have hm:=Z1l (xs:=x.KS) (i:=i) h;have:=Z3n hm;rw[Z2M]at hx;exact Z72 (Z76 hw _ hm) qM
theorem Z7m(xs:List ByteArray)(hn:xs.length<=64)(hl: ∀x∈xs,(tx x).length<=400000000000):CallTy Tryz.prog ZaA [.rep (SlE stE noS xs)] (.is (.string (bl (joinC (xs.map tx))))):=
 CallTy.of (fn:=Tryz.f49) Tryz.func49 (n:=22) rfl rfl rfl (fun _ _=>by kernel_rfl) fun E W=>by
 refine J.openE (s:=0) rfl (fun ps a len cap b o hps hlen hlc ha=>?_);refine J.pureF (F:=CelF stE ps) qI (fun pu=>?_);subst hlen;have hxl:xs.length=ps.length:=by rw[<-hps,List.length_map]
 refine vQ ?_;refine Ja rfl (vP [0] ?_);refine Ja rfl (vP [0,3] ?_);refine Ja rfl (vS [0,3,4] ?_);apply yk
 repeat apply yQ
 refine J.loopF (α:=Nat) (fun i=>[(0,.is (.slice a ps.length cap)),(3,.is (.string (bl (lsT xs i)))),(4,.is (.int .i64 (i:Nat)))]) (fun i=>i<=ps.length) (fun i=>ps.length-i) 0 [0,3,4] (.cons rfl (.cons rfl (.cons rfl .nil))) (Nat.zero_le _) fun i hi=>?_;refine vQ ?_;refine Jm rfl (Jm rfl (Jq (ZE ZD rfl) (Jq (ZC rfl rfl) (vS [0,3,4,8] ?_))));refine yC rfl (fun ht8=>?_) (fun ht8=>?_)
 try simp only[yd,yf]at ht8
 apply yK;refine vN ?_;apply yk;have hxi:xs[i]? =some (xs[i]'qM):=List.getElem?_eq_getElem _;have hli:=ZkT hl (i:=i) qM;have hx9:=hl _ (List.getElem_mem (by omega:i<xs.length));have hx8:(xs[i]'qM).data.toList.length<=400000000000:=hx9;refine vQ ?_;refine Jm rfl (Jq (Z13 rfl rfl) (vS [0,3,4,12] ?_));refine yC rfl (fun ht12=>?_) (fun ht12=>?_)
 try simp only[yd,yf]at ht12
 refine vQ ?_;refine Jm rfl (Jq (Z7 (u:=bl (lsT xs i++[44,32])) rfl rfl (sz3 qZ qZ) (Zf _ [44,32])) ?_);refine Ja rfl (vP [0,3,4] ?_);refine Jm rfl (Jm rfl (Jm rfl (Jq (Z9 Z1Y rfl (ha qM) rfl qM qM) ?_)));refine Jq (ZK (enc:=Cel.cs) (sz:=1) (i:=i) (j:=0) (y:=ps[i]'qM) (u:=.string (xs[i]'qM)) Za rfl qI (ha qM) (List.getElem?_eq_getElem _) qM (by rw[ZaN pu hps qM qM];rfl)) ?_;refine Jq (Z7 (u:=bl (lsT xs (i+1))) rfl rfl (sz3 qZ qZ) (by first|(rw[ZjO hxi qM];exact Zf _ (tx _))|(rw[ZjV hxi qM];exact Zf _ (tx _)))) ?_;refine Ja rfl (vP [0,3,4] ?_);refine Jm rfl (Jq (Zv (cc:=((i+1:Nat):Int)) rfl rfl qM qM qM) ?_);refine Ja rfl ?_;apply yI
 repeat refine JX.normal_block ?_
 refine JX.roundS (i+1) ?_ ?_ [0,3,4] ?_ ?_ ?_
 · exact qM
 · exact qM
 · exact qS
 · exact qB
 · exact qB
 try simp only[yd,yf]at ht12
 apply yK;refine vN ?_;apply yN;refine Jm rfl (Jm rfl (Jm rfl (Jq (Z9 Z1Y rfl (ha qM) rfl qM qM) ?_)));refine Jq (ZK (enc:=Cel.cs) (sz:=1) (i:=i) (j:=0) (y:=ps[i]'qM) (u:=.string (xs[i]'qM)) Za rfl qI (ha qM) (List.getElem?_eq_getElem _) qM (by rw[ZaN pu hps qM qM];rfl)) ?_;refine Jq (Z7 (u:=bl (lsT xs (i+1))) rfl rfl (sz3 qZ qZ) (by first|(rw[ZjO hxi qM];exact Zf _ (tx _))|(rw[ZjV hxi qM];exact Zf _ (tx _)))) ?_;refine Ja rfl (vP [0,3,4] ?_);refine Jm rfl (Jq (Zv (cc:=((i+1:Nat):Int)) rfl rfl qM qM qM) ?_);refine Ja rfl ?_;apply yI
 repeat refine JX.normal_block ?_
 refine JX.roundS (i+1) ?_ ?_ [0,3,4] ?_ ?_ ?_
 · exact qM
 · exact qM
 · exact qS
 · exact qB
 · exact qB
 try simp only[yd,yf]at ht8
 repeat apply yQ
 refine J.exit ?_
 repeat first|refine yH ?_|refine yM rfl ?_|refine yE ?_
 refine vN ?_;apply yN;refine Jm rfl (Ja rfl (vS [2] ?_));refine vR ?_;exact JX.ret1is rfl rfl (by rw[show lsT xs i=joinC (xs.map tx)from by unfold lsT;rw[List.take_of_length_le qM]])
set_option maxHeartbeats 2000000 in
theorem Zb0(x:Ex)(hw:Wf nmOk x)(hx:ect x<=4096)(ih: ∀y∈x.KS,RX y)(w:Bool):CallTy Tryz.prog Z7q [.rep (ExR x),.is (.bool w)] (.is (.string (bl (wT w x)))):=
 CallTy.of (fn:=Tryz.f23) Tryz.func23 (n:=129) rfl rfl rfl (fun _ _=>by kernel_rfl) fun E W=>by
 have hsh:=ZmY hw;have hpl:=Z72 hw hx;have hpk:=fun i hi=>ZlF hw hx (i:=i) hi;have hl0_:=ZaO hw hx 0;have hl1_:=ZaO hw hx 1;obtain⟨htb1,htb2⟩:=ZjL hw;have htb3:x.TB.data.toList.length<=2048:=htb1;have htb4:x.NM.data.toList.length<=2048:=htb2;have hvn:=ZjT hw;have hop:=Zf4 x.K;have hag:(aggW x.K).data.toList.length<=5:=Zfb x.K;have hag2:(tx (aggW x.K)).length<=5:=hag;refine J.openA (s:=0) rfl (fun a0 l0 q0 b0 o0 hl0 ha0=>?_);subst hl0;refine vQ ?_;refine JO.box rfl rfl fun b2=>(Ja rfl (vP [1,2] ?_));refine Ja rfl (vP [1,2] ?_);refine Jq (Zg (cs:=[_,_,_,_,_,_,_,_,_,_,_,_,_]) Z7p (.cons rfl (.cons rfl (.cons rfl (.cons rfl (.cons rfl (.cons rfl (.cons rfl (.cons rfl (.cons rfl (.cons rfl (.cons rfl (.cons rfl (.cons rfl .nil))))))))))))) rfl rfl) (JO.alloc Zav rfl fun b6=>(JO.m (Z4 rfl rfl qU qC qO Zax) (by rfl) ?_));refine vP [1,2,6] ?_;refine Jq (Zg (cs:=[_,_,_,_]) Z5l (.cons rfl (.cons rfl (.cons rfl (.cons rfl .nil)))) rfl rfl) (JO.alloc Zbj rfl fun b7=>(JO.m (Z4 rfl rfl qU qC qO Zbc) (by rfl) ?_));refine vS [1,2,6,7] ?_;refine J.cutZN (fun z:Unit=>[(1,.is (.bool w)),(5,.is (.string (bl (prE x))))]) (fun z:Unit=>[⟨b7,88,.is (.agg agV)⟩,⟨b6,89,.is (.agg opV)⟩,⟨b2,Zb,.is (.agg (exCells x.K x.VK x.VN x.VS x.TB x.NM x.SL a0 x.KS.length q0).toArray)⟩]) (fun z:Unit=>0<x.KS.length/\x.K<20) ?_ ?_
 · apply yk
   refine vQ ?_;refine Jq (Z0 Z1a rfl) (Jq (Z1 Zq rfl rfl) (Jq (Zu rfl rfl) (Ja rfl (vS [1,2,6,7,29] ?_))));refine yC rfl (fun ht29=>?_) (fun ht29=>?_)
   try simp only[yd,yf]at ht29
   refine vQ ?_;refine Jq (Z0 Z9U rfl) (Jq (ZR (cs:=[_,_,_]) Z4T rfl rfl rfl) (Jq (Zo rfl (ZaB ⟨x.VK,x.VN,x.VS⟩ ⟨hvn.1,by show x.VN<_;omega⟩) qA) ?_));refine Ja rfl (vS [4] ?_);refine vR ?_;exact JX.ret1is rfl rfl (by rw[wT_s (Zc8 (by simp at ht29;omega)),ZmK ht29];rfl)
   try simp only[yd,yf]at ht29
   repeat apply yQ
   refine J.reg0 hmx qK qK ?_;refine yz (Z0 Z1a rfl) (yz (Z1 Zq rfl rfl) (yz (Zu rfl rfl) (yz (Z2 rfl) (yg rfl rfl rfl (fun hg=>Z0 Z4q (.inl rfl)) (yg rfl rfl rfl (fun hg=>Z1 Za (qR rfl) rfl) ?_)))));refine yg rfl rfl rfl (fun hg=>Z1L (qR rfl) (.inl rfl)) ?_;refine yz (Zn rfl rfl rfl id) (yz (Z15 rfl) ?_);apply yn;refine FinS.nil0 ?_;refine vS [1,2,6,7,36] ?_;refine yC rfl (fun ht36=>?_) (fun ht36=>?_)
   try simp only[yd,yf]at ht36
   refine vQ ?_;refine Jq (Z0 Z3H rfl) (Jq (Z1 Za rfl rfl) (Ja rfl (vS [4] ?_)));refine vR ?_;exact JX.ret1is rfl rfl (by have h9:=ht36;simp at h9;rw[wT_s (Zc8 qM),Zmf (by simpa using h9.1) h9.2])
   try simp only[yd,yf]at ht36
   refine vQ ?_;refine Jq (Z0 Z1a rfl) (Jq (Z1 Zq rfl rfl) (Jq (Zu rfl rfl) (Ja rfl (vS [1,2,6,7,47] ?_))));refine yC rfl (fun ht47=>?_) (fun ht47=>?_)
   try simp only[yd,yf]at ht47
   refine vQ ?_;refine Jq (Z0 Z4q rfl) (Jq (Z1 Za rfl rfl) (Jq (Z7 (u:=bl (tx x.TB++[46])) rfl rfl (sz3 qZ qZ) (Zf (tx x.TB) [46])) ?_));refine Jq (Z0 Z3H rfl) (Jq (Z1 Za rfl rfl) (Jq (Z7 (u:=bl ((tx x.TB++[46])++tx x.NM)) rfl rfl (sz3 qZ qZ) (Zf _ (tx x.NM))) ?_));refine Ja rfl (vS [4] ?_);refine vR ?_;exact JX.ret1is rfl rfl (by have h9:=ht47;simp at h9;rw[wT_s (Zc8 qM),Zmo ht47 (fun h=>by rw[h]at ht36;simp at ht36;omega)])
   try simp only[yd,yf]at ht47
   repeat apply yQ
   refine J.reg0 hmx qK qK ?_;refine yz (Z0 Z1a rfl) (yz (Z1 Zq rfl rfl) (yz (Z2Z rfl rfl) (yz (Z2 rfl) (yg rfl rfl rfl (fun hg=>Z0 Z1p (.inl rfl)) (yg rfl rfl rfl (fun hg=>Z1 Zk (qR rfl) rfl) ?_)))));refine yg rfl rfl rfl (fun hg=>ZE Zy (qR rfl)) ?_;refine yg rfl rfl rfl (fun hg=>Zu (qR rfl) (.inl rfl)) ?_;refine yz (Zn rfl rfl rfl id) (yz (Z15 rfl) ?_);apply yn;refine FinS.nil0 ?_;refine vS [1,2,6,7,57] ?_;refine yC rfl (fun ht57=>?_) (fun ht57=>?_)
   try simp only[yd,yf]at ht57
   refine vQ ?_;refine Ja rfl (vS [4] ?_);refine vR ?_;exact JX.ret1is rfl rfl (by have h9:=ht57;simp only[Bool.and_eq_true,decide_eq_true_eq,beq_iff_eq]at h9;rw[wT_s (Zc8 qM),ZlA qM qM])
   try simp only[yd,yf]at ht57
   refine vQ ?_;refine Jq (Z0 Z1a rfl) (Jq (Z1 Zq rfl rfl) (Jq (Z2Z rfl rfl) (Ja rfl (vS [1,2,6,7,67] ?_))));refine yC rfl (fun ht67=>?_) (fun ht67=>?_)
   try simp only[yd,yf]at ht67
   have hn57:x.KS.length≠0:=fun h=>by rw[h]at ht57;simp at ht57;omega
   have hp0:=hpk 0 qM;have hp1:(wT false (x.KS.getD 0 ex0)).length<=20500000:=hp0
   repeat apply yQ
   refine J.reg0 hmx qK qK ?_;refine yz (Z0 Z1a rfl) (yz (Z1 Zq rfl rfl) (yz (Z63 (v:=x.K-20) rfl rfl (Z1H qM qM)) ?_));refine yz (Z3G (m:=4) (e:=Zs) (sz:=1) qK qK rfl rfl qM qM) ?_;refine yz (Z1 Za rfl (ZlB qM qM)) ?_;refine yz (Z7 (u:=bl (tx (aggW x.K)++[40])) rfl rfl (sz3 qZ qZ) (Zf (tx (aggW x.K)) [40])) ?_;refine yz (Z0 Z1p rfl) (yz (Z1 Zk rfl rfl) (yz (Z9 ZO rfl (ha0 qM) rfl qM qM) ?_));refine yz (Z1q (i:=0) (kid:=x.KS.getD 0 ex0) Z6 rfl qI (ha0 qM) (Z1B qM) qM) ?_;refine yz (Zo rfl (ih (x.KS.getD 0 ex0) (Z1l qM) false) qA) ?_;refine yz (Z7 (u:=bl ((tx (aggW x.K)++[40])++prE (x.KS.getD 0 ex0))) rfl rfl (sz3 qZ qZ) (Zf _ _)) ?_;refine yz (Z7 (u:=bl (prE x)) rfl rfl (sz3 qZ qZ) (by rw[ZlJ (x:=x) qM qM qM];exact Zf _ [41])) ?_;refine yz (Z15 rfl) ?_;apply yn;refine FinS.nil0 ?_;refine vS [4] ?_;refine vR ?_;exact JX.ret1is rfl rfl (by rw[wT_s (Zc8 qM)])
   try simp only[yd,yf]at ht67
   refine vQ ?_;refine Jq (Z0 Z1a rfl) (Jq (Z1 Zq rfl rfl) (Jq (Zu rfl rfl) (Ja rfl (vS [1,2,6,84] ?_))));refine yC rfl (fun ht84=>?_) (fun ht84=>?_)
   try simp only[yd,yf]at ht84
   have h9:=ht84;simp only[beq_iff_eq]at h9;have hk0:=Z3I (x:=x) (i:=0) qM;rw[hk0]at hl0_;have hw0:(wT true (x.KS.getD 0 ex0)).length<=20500000:=hl0_;refine vQ ?_;refine Jq (Z0 Z1p rfl) (Jq (Z1 Zk rfl rfl) (Jq (Z9 ZO rfl (ha0 qM) rfl qM qM) ?_));refine Jq (Z1q (i:=0) (kid:=x.KS.getD 0 ex0) Z6 rfl qI (ha0 qM) (Z1B qM) qM) ?_;refine Jq (Zo rfl (ih (x.KS.getD 0 ex0) (Z1l qM) true) qA) ?_;refine Jq (Z7 (u:=bl (prE x)) rfl rfl (sz3 qZ qZ) (by rw[ZmJ ht84 qM];exact Zf [45] _)) ?_;refine Ja rfl ?_;apply yI
   repeat refine JX.normal_block ?_
   refine JX.midZ (()) ?_ [1,5] ?_ ?_ ?_
   · exact⟨by omega,by omega⟩
   · exact qS
   · exact qH
   · exact qG
   try simp only[yd,yf]at ht84
   refine vQ ?_;refine Jq (Z0 Z1a rfl) (Jq (Z1 Zq rfl rfl) (Jq (Zu rfl rfl) (Ja rfl (vS [1,2,6,94] ?_))));refine yC rfl (fun ht94=>?_) (fun ht94=>?_)
   try simp only[yd,yf]at ht94
   have h9:=ht94;simp only[beq_iff_eq]at h9;have hk0:=Z3I (x:=x) (i:=0) qM;rw[hk0]at hl0_;have hw0:(wT true (x.KS.getD 0 ex0)).length<=20500000:=hl0_;refine vQ ?_;refine Jq (Z0 Z1p rfl) (Jq (Z1 Zk rfl rfl) (Jq (Z9 ZO rfl (ha0 qM) rfl qM qM) ?_));refine Jq (Z1q (i:=0) (kid:=x.KS.getD 0 ex0) Z6 rfl qI (ha0 qM) (Z1B qM) qM) ?_;refine Jq (Zo rfl (ih (x.KS.getD 0 ex0) (Z1l qM) true) qA) ?_;refine Jq (Z7 (u:=bl (prE x)) rfl rfl (sz3 qZ qZ) (by rw[ZmQ ht94 qM];exact Zf [78,79,84,32] _)) ?_;refine Ja rfl ?_;apply yI
   repeat refine JX.normal_block ?_
   refine JX.midZ (()) ?_ [1,5] ?_ ?_ ?_
   · exact⟨by omega,by omega⟩
   · exact qS
   · exact qH
   · exact qG
   try simp only[yd,yf]at ht94
   refine vQ ?_;refine Jq (Z0 Z1a rfl) (Jq (Z1 Zq rfl rfl) (Jq (Zu rfl rfl) (Ja rfl (vS [1,2,6,104] ?_))));refine yC rfl (fun ht104=>?_) (fun ht104=>?_)
   try simp only[yd,yf]at ht104
   have h9:=ht104;simp only[beq_iff_eq]at h9;have hk0:=Z3I (x:=x) (i:=0) qM;rw[hk0]at hl0_;have hw0:(wT true (x.KS.getD 0 ex0)).length<=20500000:=hl0_;refine vQ ?_;refine Jq (Z0 Z1p rfl) (Jq (Z1 Zk rfl rfl) (Jq (Z9 ZO rfl (ha0 qM) rfl qM qM) ?_));refine Jq (Z1q (i:=0) (kid:=x.KS.getD 0 ex0) Z6 rfl qI (ha0 qM) (Z1B qM) qM) ?_;refine Jq (Zo rfl (ih (x.KS.getD 0 ex0) (Z1l qM) true) qA) ?_;refine Jq (Z7 (u:=bl (prE x)) rfl rfl (sz3 qZ qZ) (by rw[Zmb ht104 qM];exact Zf _ [32,73,83,32,78,85,76,76])) ?_;refine Ja rfl ?_;apply yI
   repeat refine JX.normal_block ?_
   refine JX.midZ (()) ?_ [1,5] ?_ ?_ ?_
   · exact⟨by omega,by omega⟩
   · exact qS
   · exact qH
   · exact qG
   try simp only[yd,yf]at ht104
   refine vQ ?_;refine Jq (Z0 Z1a rfl) (Jq (Z1 Zq rfl rfl) (Jq (Zu rfl rfl) (Ja rfl (vS [1,2,6,114] ?_))));refine yC rfl (fun ht114=>?_) (fun ht114=>?_)
   try simp only[yd,yf]at ht114
   have h9:=ht114;simp only[beq_iff_eq]at h9;have hk0:=Z3I (x:=x) (i:=0) qM;rw[hk0]at hl0_;have hw0:(wT true (x.KS.getD 0 ex0)).length<=20500000:=hl0_;refine vQ ?_;refine Jq (Z0 Z1p rfl) (Jq (Z1 Zk rfl rfl) (Jq (Z9 ZO rfl (ha0 qM) rfl qM qM) ?_));refine Jq (Z1q (i:=0) (kid:=x.KS.getD 0 ex0) Z6 rfl qI (ha0 qM) (Z1B qM) qM) ?_;refine Jq (Zo rfl (ih (x.KS.getD 0 ex0) (Z1l qM) true) qA) ?_;refine Jq (Z7 (u:=bl (prE x)) rfl rfl (sz3 qZ qZ) (by rw[ZlC ht114 qM];exact Zf _ [32,73,83,32,78,79,84,32,78,85,76,76])) ?_;refine Ja rfl ?_;apply yI
   repeat refine JX.normal_block ?_
   refine JX.midZ (()) ?_ [1,5] ?_ ?_ ?_
   · exact⟨by omega,by omega⟩
   · exact qS
   · exact qH
   · exact qG
   try simp only[yd,yf]at ht114
   have n29:x.K≠1:=by intro h;rw[h]at ht29;simp at ht29
   have n47:x.K≠2:=by intro h;rw[h]at ht47;simp at ht47
   have n84:x.K≠3:=by intro h;rw[h]at ht84;simp at ht84
   have n94:x.K≠4:=by intro h;rw[h]at ht94;simp at ht94
   have n104:x.K≠18:=by intro h;rw[h]at ht104;simp at ht104
   have n114:x.K≠19:=by intro h;rw[h]at ht114;simp at ht114
   have hk1:=Z3I (x:=x) (i:=1) qM;rw[hk1]at hl1_;have hw1:(wT true (x.KS.getD 1 ex0)).length<=20500000:=hl1_;have hk0:=Z3I (x:=x) (i:=0) qM;rw[hk0]at hl0_;have hw0:(wT true (x.KS.getD 0 ex0)).length<=20500000:=hl0_
   repeat apply yQ
   refine J.reg0 hmx qK qK ?_;refine yz (Z0 Z1p rfl) (yz (Z1 Zk rfl rfl) (yz (Z9 ZO rfl (ha0 qM) rfl qM qM) ?_));refine yz (Z1q (i:=0) (kid:=x.KS.getD 0 ex0) Z6 rfl qI (ha0 qM) (Z1B qM) qM) ?_;refine yz (Zo rfl (ih (x.KS.getD 0 ex0) (Z1l qM) true) qA) ?_;refine yz (Z7 (u:=bl (prO (x.KS.getD 0 ex0)++[32])) rfl rfl (sz3 qZ qZ) (Zf _ [32])) ?_;refine yz (Z0 Z1a rfl) (yz (Z1 Zq rfl rfl) (yz (Z63 (v:=x.K-5) rfl rfl (Z1H qM qM)) ?_));refine yz (Z3G (m:=13) (e:=Zs) (sz:=1) qK qK rfl rfl qM qM) ?_;refine yz (Z1 Za rfl (Zly qM qM)) ?_;refine yz (Z7 (u:=bl ((prO (x.KS.getD 0 ex0)++[32])++opS x.K)) rfl rfl (sz3 qZ qZ) (Zf _ _)) ?_;refine yz (Z7 (u:=bl (((prO (x.KS.getD 0 ex0)++[32])++opS x.K)++[32])) rfl rfl (sz3 qZ qZ) (Zf _ [32])) ?_;refine yz (Z0 Z1p rfl) (yz (Z1 Zk rfl rfl) (yz (Z9 ZO rfl (ha0 qM) rfl qM qM) ?_));refine yz (Z1q (i:=1) (kid:=x.KS.getD 1 ex0) Z6 rfl qI (ha0 qM) (Z1B qM) qM) ?_;refine yz (Zo rfl (ih (x.KS.getD 1 ex0) (Z1l qM) true) qA) ?_;refine yz (Z7 (u:=bl (prE x)) rfl rfl (sz3 qZ qZ) (by rw[ZmZ (x:=x) qM qM qM];exact Zf _ _)) ?_;refine yz (Z15 rfl) ?_;apply yn;refine FinS.nil0 ?_
   repeat refine JX.normal_block ?_
   refine JX.midZ (()) ?_ [1,5] ?_ ?_ ?_
   · exact⟨by omega,by omega⟩
   · exact qS
   · exact qH
   · exact qG
 · intro z ⟨hb1,hb2⟩
   try dsimp only
   refine vQ ?_;refine Jm rfl (vS [5,124] ?_);refine yC rfl (fun ht124=>?_) (fun ht124=>?_)
   try simp only[yd,yf]at ht124
   refine vQ ?_;refine Jm rfl (Jq (Z7 (u:=bl ([40]++prE x)) rfl rfl (sz3 qZ qZ) (Zf [40] _)) ?_);refine Jq (Z7 (u:=bl (([40]++prE x)++[41])) rfl rfl (sz3 qZ qZ) (Zf _ [41])) ?_;refine Ja rfl (vP [5] ?_);refine Jm rfl (Ja rfl (vS [4] ?_));refine vR ?_;exact JX.ret1is rfl rfl (by rw[wT_b (ZmW hb1 hb2) ht124])
   try simp only[yd,yf]at ht124
   apply yK;refine vN ?_;apply yN;refine Jm rfl (Ja rfl (vS [4] ?_));refine vR ?_;exact JX.ret1is rfl rfl (by rw[wT_f ht124])
theorem ZaJ: ∀(n:Nat) (x:Ex),ect x<=n->Wf nmOk x->ect x<=4096->RX x
 |0,x,h,_,_=>absurd h (by have:=Z4y x;omega)
 |n+1,x,h,hw,hx=>Zb0 x hw hx fun y hy=>ZaJ n y (by have:=Z3n hy;rw[Z2M]at h;omega) (Z76 hw y hy) (by have:=Z3n hy;rw[Z2M]at hx;omega)
theorem c_RE{x:Ex}(h:GE x):CallTy Tryz.prog Z7q [.rep (ExR x),.is (.bool false)] (.is (.string (bl (prE x)))):=ZaJ 4096 x h.2 h.1 h.2 false
theorem c_RL{α:Type}(p:α->List UInt8)(xs:List α)(n:Nat)(h:n=xs.length)(hn:xs.length<=64)(hl: ∀x∈xs,(p x).length<=400000000000):CallTy Tryz.prog ZaA [.rep (SlE stE noS (jT p xs n))] (.is (.string (bl (joinC (xs.map p))))):=by
 have h0:=Z7m (jT p xs n) (by subst h;simp;omega) (fun s hs=>by
  obtain⟨x,hx,rfl⟩:=List.mem_map.1 hs;exact hl x (List.mem_of_mem_take hx))
 rw[show(jT p xs n).map tx=xs.map p from Z6B h]at h0;exact h0
theorem txWh{xs:List Ex}(h:xs.length=1):txCl kWH xs=[32,87,72,69,82,69,32]++prE (xs.getD 0 ex0):=by
 unfold txCl;cases xs with
 |nil=>cases h
 |cons y l=>
   cases l with
   |nil=>simp[joinC]
   |cons z l=>simp at h
def cZ(n:ByteArray)(t:Int):List UInt8:=(tx n++[32])++tx (typW t)
def cN(n:ByteArray)(t:Int)(nn:Bool):List UInt8:=if nn then cZ n t++[32,78,79,84,32,78,85,76,76]else cZ n t
def cU(n:ByteArray)(t:Int)(nn un:Bool):List UInt8:=if un then cN n t nn++[32,85,78,73,81,85,69]else cN n t nn
theorem ZmV{n:ByteArray}{t:Int}(h1:1<=t)(h3:t<=3)(nn un:Bool):cU n t nn un=txC ⟨n,t,nn,un⟩:=by
 unfold cU cN cZ txC;dsimp only;rw[Zah h1 h3];cases nn<;>cases un<;>simp
theorem ZhR{n:ByteArray}{t:Int}(h:nmOk n):(cZ n t).length<=2100:=by
 have:=Z1y h;have:=Ze9 t;unfold cZ;simp only[List.length_append,List.length_cons,List.length_nil]
 omega
theorem ZlM{n:ByteArray}{t:Int}(h:nmOk n)(nn:Bool):(cN n t nn).length<=2200:=by
 have:=ZhR (t:=t) h;unfold cN;cases nn<;>simp<;>omega
theorem Zlz{t:Int}(h1:1<=t)(h3:t<=3):([.string ⟨#[]⟩,.string ⟨#[73,78,84]⟩,.string ⟨#[66,79,79,76]⟩,.string ⟨#[84,69,88,84]⟩]:List Value).toArray[t.toNat]? =some (.string (typW t)):=by
 have:t=1\/t=2\/t=3:=by omega
 rcases this with rfl|rfl|rfl<;>rfl
set_option maxHeartbeats 1000000 in
theorem Za0(xs:List Ex)(hn:xs.length<=64)(hw: ∀x∈xs,GE x):CallTy Tryz.prog ZdI [.rep (ExsR xs)] (.is (.string (bl (joinC (xs.map prE))))):=
 CallTy.of (fn:=Tryz.f50) Tryz.func50 (n:=21) rfl rfl rfl (fun _ _=>by kernel_rfl) fun E W=>by
 refine J.openExs (s:=0) rfl (fun a len cap b o hlen ha=>?_);subst hlen;refine vQ ?_;refine Ja rfl (vP [0] ?_);refine Ja rfl (vP [0,3] ?_);refine Ja rfl (vS [0,3,4] ?_);apply yk
 repeat apply yQ
 refine J.loopG (α:=Nat×Option (Nat×List Value)×Nat) (fun z=>[(0,.is (.slice a xs.length cap)),(3,.is (sliceO z.2.1 (jT prE xs z.1).length z.2.2)),(4,.is (.int .i64 (z.1:Nat)))]) (fun z=>ownO z.2.1 Zs []) (fun z=>fun _=>True) (fun z=>z.1<=xs.length/\Grows strC 1 (jT prE (xs) z.1) z.2.1 z.2.2) (fun z=>xs.length-z.1) (0,none,0) [0,3,4] (.cons rfl (.cons rfl (.cons rfl .nil))) rfl (fun _=>trivial) ⟨by omega,rfl⟩ fun⟨i,st,cp⟩ ⟨hi,hG⟩=>?_;try dsimp only
 try dsimp only at st
 try dsimp only at cp
 try dsimp only at hi
 try dsimp only at hG
 refine vQ ?_;refine Jm rfl (Jm rfl (Jq (ZE Zy rfl) (Jq (ZC rfl rfl) (vS [0,3,4,8] ?_))));refine yC rfl (fun ht8=>?_) (fun ht8=>?_)
 try simp only[yd,yf]at ht8
 apply yK;refine vN ?_;apply yk;have hxi:xs[i]? =some (xs.getD i ex0):=Z1B qM;have hge:=hw _ (Z1l (xs:=xs) (i:=i) qM);refine vQ ?_;refine Jm rfl (Jm rfl (Jm rfl (Jq (Z9 ZO rfl (ha qM) rfl qM qM) ?_)));refine Jq (Z1q (kid:=xs.getD i ex0) Z6 rfl qI (ha qM) (Z1B qM) qM) ?_;refine Jq (Zo rfl (c_RE hge) qA) ?_;refine Jq (Zx (cs:=[_]) ZS qM qM (.cons rfl .nil) rfl rfl rfl) ?_;have hkl:(jT prE (xs) i).length=i:=by simp;omega
 refine JO.apO (ys:=[bl (prE (xs.getD i ex0))]) Z1i Z1j yV hG rfl rfl (fun L=>Z1M ZD rfl rfl) (by simp) (by rw[hkl];show(i+1)*16<=_;omega) (by rw[hkl];show i+1<=_;omega) rfl (fun st2 cp2 hG2=>?_);try dsimp only
 rw[<-Z1P hxi];refine Ja rfl (vP [0,3,4] ?_);refine Jm rfl (Jq (Zv (cc:=((i+1:Nat):Int)) rfl rfl qM qM qM) ?_);refine Ja rfl ?_;apply yI
 repeat refine JX.normal_block ?_
 refine JX.roundG (x:=(i,st,cp)) (i+1,st2,cp2) ?_ ?_ [0,3,4] ?_ ?_ ?_ ?_
 · exact⟨by show i+1<=_;omega,by show Grows strC 1 (jT prE (xs) (i+1)) _ _;rw[Z1P hxi];exact hG2⟩
 · exact(by show xs.length-(i+1)<xs.length-i;omega)
 · exact qS
 · exact qH
 · exact qG
 · exact fun _ _ _=>fun _ _=>trivial
 try simp only[yd,yf]at ht8
 repeat apply yQ
 refine J.exit ?_
 repeat first|refine yH ?_|refine yM rfl ?_|refine yE ?_
 repeat first|apply yX|apply yB
 have hix:i=xs.length:=by omega
 refine J.freezeO Z1j hG (e:=Zs) yV (fun _ h=>h) rfl rfl ?_;rw[hG.sl.1];refine vQ ?_;refine Jm rfl (Jq (Zo rfl (c_RL prE xs i hix hn (Zf7 hw)) (.sub rfl (Sub.strs qI hG.sl.2) .nil)) ?_);refine Ja rfl (vS [2] ?_);refine vR ?_;exact JX.ret1is rfl rfl (rfl)
theorem Z6T(xs:List Ex)(h1:xs.length<=1)(hw: ∀x∈xs,GE x):CallTy Tryz.prog Zdx [.rep (ExsR xs)] (.is (.string (bl (txCl kWH xs)))):=
 CallTy.of (fn:=Tryz.f52) Tryz.func52 (n:=11) rfl rfl rfl (fun _ _=>by kernel_rfl) fun E W=>by
 refine J.openExs (s:=0) rfl (fun a len cap b o hlen ha=>?_);subst hlen;refine vQ ?_;refine Ja rfl (vP [0] ?_);refine Jm rfl (Jq (ZE Zy rfl) (Jq (Zu rfl rfl) (vS [0,5] ?_)));refine yC rfl (fun ht5=>?_) (fun ht5=>?_)
 try simp only[yd,yf]at ht5
 refine vQ ?_;refine Ja rfl (vS [2] ?_);refine vR ?_;exact JX.ret1is rfl rfl (by have h9:=ht5;simp only[beq_iff_eq]at h9;have h0:xs=[]:=List.length_eq_zero_iff.1 qM;subst h0;rfl)
 try simp only[yd,yf]at ht5
 apply yK
 repeat first|apply yX|apply yB
 have hn0:xs.length≠0:=fun h=>by rw[h]at ht5;simp at ht5
 have hge:=hw _ (Z1l (xs:=xs) (i:=0) qM);have hpl:=hge.len;refine vQ ?_;refine Jm rfl (Jq (Z9 ZO rfl (ha qM) rfl qM qM) ?_);refine Jq (Z1q (i:=0) (kid:=xs.getD 0 ex0) Z6 rfl qI (ha qM) (Z1B qM) qM) ?_;refine Jq (Zo rfl (c_RE hge) qA) ?_;refine Jq (Z7 (u:=bl ([32,87,72,69,82,69,32]++prE (xs.getD 0 ex0))) rfl rfl (sz3 qZ qZ) (Zf [32,87,72,69,82,69,32] _)) ?_;refine Ja rfl (vS [2] ?_);refine vR ?_;exact JX.ret1is rfl rfl (by rw[txWh qM])
set_option maxHeartbeats 1000000 in
theorem ZeC(xs:List Col)(hn:xs.length<=64)(hw: ∀c∈xs,wfCol nmOk c):CallTy Tryz.prog Zeb [.rep (SlE coE noS xs)] (.is (.string (bl (joinC (xs.map txC))))):=
 CallTy.of (fn:=Tryz.f48) Tryz.func48 (n:=46) rfl rfl rfl (fun _ _=>by kernel_rfl) fun E W=>by
 refine J.openE (s:=0) rfl (fun ps a len cap b o hps hlen hlc ha=>?_);refine J.pureF (F:=CelF coE ps) qI (fun pu=>?_);subst hlen;have hxl:xs.length=ps.length:=by rw[<-hps,List.length_map]
 refine vQ ?_;refine Ja rfl (vP [0] ?_);refine Ja rfl (vP [0,3] ?_);refine Ja rfl (vS [0,3,4] ?_);apply yk
 repeat apply yQ
 refine J.loopG (α:=Nat×Option (Nat×List Value)×Nat) (fun z=>[(0,.is (.slice a ps.length cap)),(3,.is (sliceO z.2.1 (jT txC xs z.1).length z.2.2)),(4,.is (.int .i64 (z.1:Nat)))]) (fun z=>ownO z.2.1 Zs []) (fun z=>fun _=>True) (fun z=>z.1<=ps.length/\Grows strC 1 (jT txC (xs) z.1) z.2.1 z.2.2) (fun z=>ps.length-z.1) (0,none,0) [0,3,4] (.cons rfl (.cons rfl (.cons rfl .nil))) rfl (fun _=>trivial) ⟨by omega,rfl⟩ fun⟨i,st,cp⟩ ⟨hi,hG⟩=>?_;try dsimp only
 try dsimp only at st
 try dsimp only at cp
 try dsimp only at hi
 try dsimp only at hG
 refine vQ ?_;refine Jm rfl (Jm rfl (Jq (ZE Z3D rfl) (Jq (ZC rfl rfl) (vS [0,3,4,9] ?_))));refine yC rfl (fun ht9=>?_) (fun ht9=>?_)
 try simp only[yd,yf]at ht9
 apply yK;refine vN ?_;apply yk;obtain⟨⟨n,t,nn,un⟩,hc⟩: ∃c,xs[i]'qM=c:=⟨_,rfl⟩;have hcs:=Zkb pu hps (i:=i) qM qM;rw[hc]at hcs;have hxi:xs[i]? =some ⟨n,t,nn,un⟩:=by rw[List.getElem?_eq_getElem qM,hc]
 obtain⟨hn0,h1t,h3t⟩:=(show nmOk n/\1<=t/\t<=3 from hw _ (List.mem_of_getElem? hxi));have hnl:=Z1y hn0;have hnl2:n.data.toList.length<=2048:=hnl;have htl:=Ze9 t;have htl2:(typW t).data.toList.length<=4:=htl;have hzl:=ZhR (t:=t) hn0;have hNl:=ZlM (t:=t) hn0 nn
 repeat apply yQ
 refine J.reg0 hmx qK qK ?_;refine yz (Z2 rfl) (yz (Z2 rfl) (yz (Z9 Z3C rfl (ha qM) rfl qM qM) ?_));refine yz (Z0 Z8b rfl) ?_;refine yz (ZK (enc:=Cel.cs) (sz:=4) (i:=i) (j:=0) (y:=ps[i]'qM) (u:=.string n) Za rfl qI (ha qM) (List.getElem?_eq_getElem _) qM (by rw[hcs];rfl)) ?_;refine yz (Z7 (u:=bl (tx n++[32])) rfl rfl (sz3 qZ qZ) (Zf (tx n) [32])) ?_;refine yz (Zg (cs:=[_,_,_,_]) Z5l (.cons rfl (.cons rfl (.cons rfl (.cons rfl .nil)))) rfl rfl) (yz (Z2 rfl) (yz (Z2 rfl) (yz (Z9 Z3C rfl (ha qM) rfl qM qM) ?_)));refine yz (Z0 Z2U rfl) ?_;refine yz (ZK (enc:=Cel.cs) (sz:=4) (i:=i) (j:=1) (y:=ps[i]'qM) (u:=.int .i64 t) Zq rfl qI (ha qM) (List.getElem?_eq_getElem _) qM (by rw[hcs];rfl)) ?_;refine yz (Z4w (n:=4) (e:=9) qK Za qK rfl rfl qM qM (Zlz h1t h3t)) ?_;refine yz (Z7 (u:=bl (cZ n t)) rfl rfl (sz3 qZ qZ) (Zf _ (tx (typW t)))) ?_;refine yz (Z15 rfl) ?_;apply yn;refine FinS.nil0 ?_;refine vP [0,3,4,5] ?_;refine Jm rfl (Jm rfl (Jq (Z9 Z3C rfl (ha qM) rfl qM qM) ?_));refine Jq (Z0 Z4E rfl) ?_;refine Jq (ZK (enc:=Cel.cs) (sz:=4) (i:=i) (j:=2) (y:=ps[i]'qM) (u:=.bool nn) Z1E rfl qI (ha qM) (List.getElem?_eq_getElem _) qM (by rw[hcs];rfl)) ?_;refine vS [0,3,4,5,30] ?_;refine J.cutZN (fun z:Unit=>[(0,.is (.slice a ps.length cap)),(3,.is (sliceO st (jT txC xs i).length cp)),(4,.is (.int .i64 (i:Nat))),(5,.is (.string (bl (cN n t nn))))]) (fun z:Unit=>ownO st Zs []) (fun z:Unit=>True) ?_ ?_
 · refine yC rfl (fun ht30=>?_) (fun ht30=>?_)
   try simp only[yd,yf]at ht30
   refine vQ ?_;refine Jm rfl (Jq (Z7 (u:=bl (cN n t nn)) rfl rfl (sz3 qZ qZ) (by rw[cN,if_pos ht30];exact Zf _ [32,78,79,84,32,78,85,76,76])) ?_);refine Ja rfl ?_;apply yI;refine JX.midZ (()) ?_ [0,3,4,5] ?_ ?_ ?_
   · exact trivial
   · exact qS
   · exact qH
   · exact qG
   try simp only[yd,yf]at ht30
   apply yK;subst ht30;refine JX.midZ (()) ?_ [0,3,4,5] ?_ ?_ ?_
   · exact trivial
   · exact qS
   · exact qH
   · exact qG
 · intro z hz
   try dsimp only
   refine vQ ?_;refine Jm rfl (Jm rfl (Jq (Z9 Z3C rfl (ha qM) rfl qM qM) ?_));refine Jq (Z0 Z3M rfl) ?_;refine Jq (ZK (enc:=Cel.cs) (sz:=4) (i:=i) (j:=3) (y:=ps[i]'qM) (u:=.bool un) Z1E rfl qI (ha qM) (List.getElem?_eq_getElem _) qM (by rw[hcs];rfl)) ?_;refine vS [0,3,4,5,37] ?_;refine J.cutZN (fun z:Unit=>[(0,.is (.slice a ps.length cap)),(3,.is (sliceO st (jT txC xs i).length cp)),(4,.is (.int .i64 (i:Nat))),(5,.is (.string (bl (cU n t nn un))))]) (fun z:Unit=>ownO st Zs []) (fun z:Unit=>True) ?_ ?_
   · refine yC rfl (fun ht37=>?_) (fun ht37=>?_)
     try simp only[yd,yf]at ht37
     refine vQ ?_;refine Jm rfl (Jq (Z7 (u:=bl (cU n t nn un)) rfl rfl (sz3 qZ qZ) (by rw[cU,if_pos ht37];exact Zf _ [32,85,78,73,81,85,69])) ?_);refine Ja rfl ?_;apply yI;refine JX.midZ (()) ?_ [0,3,4,5] ?_ ?_ ?_
     · exact trivial
     · exact qS
     · exact qH
     · exact qG
     try simp only[yd,yf]at ht37
     apply yK;subst ht37;refine JX.midZ (()) ?_ [0,3,4,5] ?_ ?_ ?_
     · exact trivial
     · exact qS
     · exact qH
     · exact qG
   · intro y hy
     try dsimp only
     refine vQ ?_;refine Jm rfl (Jm rfl (Jq (Zx (cs:=[_]) ZS qM qM (.cons rfl .nil) rfl rfl rfl) ?_));have hkl:(jT txC (xs) i).length=i:=by simp;omega
     refine JO.apO (ys:=[bl (cU n t nn un)]) Z1i Z1j yV hG rfl rfl (fun L=>Z1M ZD rfl rfl) (by simp) (by rw[hkl];show(i+1)*16<=_;omega) (by rw[hkl];show i+1<=_;omega) rfl (fun st2 cp2 hG2=>?_);try dsimp only
     rw[ZmV h1t h3t]at hG2 ⊢;rw[<-Z1P hxi];refine Ja rfl (vP [0,3,4] ?_);refine Jm rfl (Jq (Zv (cc:=((i+1:Nat):Int)) rfl rfl qM qM qM) ?_);refine Ja rfl ?_;apply yI
     repeat refine JX.normal_block ?_
     refine JX.roundG (x:=(i,st,cp)) (i+1,st2,cp2) ?_ ?_ [0,3,4] ?_ ?_ ?_ ?_
     · exact⟨by show i+1<=_;omega,by show Grows strC 1 (jT txC (xs) (i+1)) _ _;rw[Z1P hxi];exact hG2⟩
     · exact(by show ps.length-(i+1)<ps.length-i;omega)
     · exact qS
     · exact qH
     · exact qG
     · exact fun _ _ _=>fun _ _=>trivial
 try simp only[yd,yf]at ht9
 repeat apply yQ
 refine J.exit ?_
 repeat first|refine yH ?_|refine yM rfl ?_|refine yE ?_
 repeat first|apply yX|apply yB
 have hix:i=xs.length:=by omega
 refine J.freezeO Z1j hG (e:=Zs) yV (fun _ h=>h) rfl rfl ?_;rw[hG.sl.1];refine vQ ?_;refine Jm rfl (Jq (Zo rfl (c_RL txC xs i hix hn (fun c hc=>Nat.le_trans (Z6f (hw c hc)) qD)) (.sub rfl (Sub.strs qI hG.sl.2) .nil)) ?_);refine Ja rfl (vS [2] ?_);refine vR ?_;exact JX.ret1is rfl rfl (rfl)
structure ShS (s:Pz.St):Prop where
 wh:s.where_.length<=1
 fr: ∀(i:Nat) (x:Pz.Src),s.from_[i]? =some x->(i=0->x.on=[])/\(0<i->x.on.length=1)
theorem wh1{nk:ByteArray->Prop}{l:List Ex}(h:wfWh nk l):l.length<=1:=by
 rcases h with rfl|⟨x,rfl,_⟩
 · exact Nat.zero_le _
 · exact Nat.le_refl _
theorem sh_s{nk:ByteArray->Prop}{s:Pz.St}(h:WfS nk s):ShS s:=by
 cases h with
 |tab _ _|idx _ _ _|ins _ _ _|pl _=>exact⟨Nat.zero_le _,fun i x hx=>by cases hx⟩
 |upd _ _ hw=>exact⟨wh1 hw,fun i x hx=>by cases hx⟩
 |del _ hw=>exact⟨wh1 hw,fun i x hx=>by cases hx⟩
 | @sel items s js wh gr od lim hi hs hs0 hj hj3 hw hg ho hl=>
   refine⟨wh1 hw,fun i x hx=>?_⟩;have hx:(s::js)[i]? =some x:=hx;cases i with
   |zero=>cases hx;exact⟨fun _=>hs0,fun h=>by omega⟩
   |succ i=>
     obtain⟨_,y,hy,_⟩:=hj x (List.mem_of_getElem? (show js[i]? =some x from hx));exact⟨fun h=>by omega,fun _=>by rw[hy];rfl⟩
def fqJ(s:Pz.St)(i:Nat):List UInt8:=if 0<i then qT s i++[32,74,79,73,78,32]else qT s i
theorem ZlR{s:Pz.St}(h:GoodS s){i:Nat}(hi:i<=64):(fqJ s i).length<=200000000010:=by
 have:=ZbP h hi;unfold fqJ
 split
 · rw[List.length_append];show _+6<=_;omega
 · omega
theorem ZmF{s:Pz.St}{i:Nat}{x:Pz.Src}(h:s.from_[i]? =some x)(h0:0<i)(h1:x.on.length=1):qT s (i+1)=((fqJ s i++txSrc x)++[32,79,78,32])++prE (x.on.getD 0 ex0):=by
 rw[Z73 h,fqJ,if_pos h0,if_pos h0];unfold txCl;cases hx:x.on with
 |nil=>rw[hx]at h1;cases h1
 |cons y l=>
   cases l with
   |nil=>simp[joinC]
   |cons z l=>rw[hx]at h1;simp at h1
theorem ZjI{s:Pz.St}{i:Nat}{x:Pz.Src}(h:s.from_[i]? =some x)(h0: ¬0<i)(h1:x.on=[]):fqJ s i++txSrc x=qT s (i+1):=by
 rw[Z73 h,fqJ,if_neg h0,if_neg h0,h1]
 simp[txCl]
def fqW(s:Pz.St):List UInt8:=qT s s.from_.length++txCl kWH s.where_
def fqG(s:Pz.St):List UInt8:=fqW s++txCl kGB s.group
def fqO(s:Pz.St):List UInt8:=fqG s++txOr s.order
theorem Zhx(s:Pz.St):txQ s=fqO s++txLim s.limit:=by
 unfold fqO fqG fqW;rw[ZaE rfl];unfold txQ
 simp
theorem ZhE{l:List Ky}(h:l.length≠0):txOr l=[32,79,82,68,69,82,32,66,89,32]++joinC (l.map txKy):=by
 unfold txOr;rw[if_neg (fun h9=>by rw[List.isEmpty_iff.1 h9]at h;exact h rfl)];simp
theorem ZiD{l:List Ky}(h:l.length=0):txOr l=[]:=by unfold txOr;rw[if_pos (List.isEmpty_iff.2 (List.length_eq_zero_iff.1 h))]
theorem Zm8{s:Pz.St}(h:GoodS s):(fqW s).length<=400000000000/\(fqG s).length<=600000000000/\(fqO s).length<=800000000000:=by
 have h1:=ZbP h h.nfrom;have h2:=Z2S (w:=kWH) qD h.nwhere h.where_;have h3:=Z2S (w:=kGB) qD h.ngroup h.group;have h4:=jl (p:=txKy) h.norder fun x hx=>Z4K (h.order x hx);have e1:(fqW s).length=(qT s s.from_.length).length+(txCl kWH s.where_).length:=List.length_append;have e2:(fqG s).length=(fqW s).length+(txCl kGB s.group).length:=List.length_append;have e3:(fqO s).length=(fqG s).length+(txOr s.order).length:=List.length_append;have e4:(txOr s.order).length<=100000000000:=by
   by_cases h0:s.order.length=0
   · rw[ZiD h0];exact Nat.zero_le _
   · rw[ZhE h0,List.length_append];show 10+_<=_;omega
 omega
theorem ZlI{w:List UInt8}{l:List Ex}(h:l.length≠0):txCl w l=(32::(w++[32]))++joinC (l.map prE):=by
 unfold txCl;rw[if_neg (fun h9=>by rw[List.isEmpty_iff.1 h9]at h;exact h rfl)];simp
theorem Zlq{w:List UInt8}{l:List Ex}(h:l.length=0):txCl w l=[]:=by unfold txCl;rw[if_pos (List.isEmpty_iff.2 (List.length_eq_zero_iff.1 h))]
theorem ZeY(n:Int):showV ⟨1,n,em⟩=bl (Lib.itoa n):=by
 unfold showV okV;rw[if_neg (by simp[seq]),if_pos (show((1:Int)==1)=true by decide)]
set_option maxHeartbeats 4000000 in
theorem ZdL(N:Nat)(s:Pz.St)(hg:GoodS s)(hsh:ShS s):CallTy Tryz.prog ZdD [.rep (StR N s)] (.is (.string (bl (txQ s)))):=
 CallTy.of (fn:=Tryz.f51) Tryz.func51 (n:=155) rfl rfl rfl (fun _ _=>by kernel_rfl) fun E W=>by
 have htb:=hg.tb;have htb2:(tx s.tb).length<=2048:=htb;have hnm:=hg.nm;have hnm2:(tx s.nm).length<=2048:=hnm;have hjn:=jl (p:=tx) hg.nnames fun x hx=>Z1y (hg.names x hx);have hjc:=jl (p:=txC) hg.ncols fun x hx=>Z6f (hg.cols x hx);have hjr:=jl (p:=txR) hg.nrows fun x hx=>Z5D (hg.rows x hx);have hji:=jl (p:=txItm) hg.nitems fun x hx=>Z4b (hg.items x hx);have hjk:=jl (p:=txKy) hg.norder fun x hx=>Z4K (hg.order x hx);have hcw:=Z2S (w:=kWH) qD hg.nwhere hg.where_;have hcg:=Z2S (w:=kGB) qD hg.ngroup hg.group;have hlm:=hg.lim;have hit:0<=s.limit->(Lib.itoa s.limit).length<=19:=fun h=>Zbo h hlm.2;have hqT:=fun i hi=>ZbP hg (i:=i) hi;have hfqJ:=fun i hi=>ZlR hg (i:=i) hi;obtain⟨hfqW,hfqG,hfqO⟩:=Zm8 hg;refine J.openSt (s:=0) rfl (fun vc vn vr vi vf vw vg vo vs=>?_);refine vQ ?_;refine JO.box rfl rfl fun b1=>(Ja rfl (vP [1] ?_));refine Ja rfl (vS [1,3] ?_);refine J.shapeE (xs:=s.items) (v:=vi) qI (fun pi ai li ci bi oi_ hpi hvi hli hai=>?_);subst hvi;refine J.pureF (F:=CelF itE pi) qI (fun pui=>?_);refine J.shapeE (xs:=s.from_) (v:=vf) qI (fun pf af lf cf bf of_ hpf hvf hlf haf=>?_);subst hvf;refine J.pureF (F:=CelF srE pf) qI (fun puf=>?_);refine J.shapeE (xs:=s.order) (v:=vo) qI (fun po ao lo co bo oo_ hpo hvo hlo hao=>?_);subst hvo;refine J.pureF (F:=CelF kyE po) qI (fun puo=>?_);refine J.shapeK (xs:=s.group) (v:=vg) qI (fun ag lg cg bg og_ hvg hlg hag=>?_);subst hvg;have ni:li=s.items.length:=by rw[<-hli,<-hpi,List.length_map]
 have nf:lf=s.from_.length:=by rw[<-hlf,<-hpf,List.length_map]
 have no:lo=s.order.length:=by rw[<-hlo,<-hpo,List.length_map]
 have ni64:=hg.nitems;have nf64:=hg.nfrom;have no64:=hg.norder;refine vQ ?_;refine Ja rfl (vS [1,3,4] ?_);apply yk
 repeat apply yQ
 refine J.loopG (α:=Nat×Option (Nat×List Value)×Nat) (fun z=>[(1,.is (.pointer (some ⟨b1,0,none⟩))),(3,.is (sliceO z.2.1 (jT txItm s.items z.1).length z.2.2)),(4,.is (.int .i64 (z.1:Nat)))]) (fun z=>ownO z.2.1 Zs [⟨b1,Z3,.is (stV s vc vn vr (.slice ai li ci) (.slice af lf cf) vw (.slice ag lg cg) (.slice ao lo co) vs)⟩]) (fun z=>fun _=>True) (fun z=>z.1<=li/\Grows strC 1 (jT txItm (s.items) z.1) z.2.1 z.2.2) (fun z=>li-z.1) (0,none,0) [1,3,4] (.cons rfl (.cons rfl (.cons rfl .nil))) rfl (fun _=>trivial) ⟨by omega,rfl⟩ fun⟨i,st,cp⟩ ⟨hi,hG⟩=>?_;try dsimp only
 try dsimp only at st
 try dsimp only at cp
 try dsimp only at hi
 try dsimp only at hG
 refine vQ ?_;refine Jm rfl (Jq (Z0 Z2h rfl) (Jq (Z1 Z2v rfl rfl) (Jq (ZE Z36 rfl) (Jq (ZC rfl rfl) (vS [1,3,4,14] ?_)))));refine yC rfl (fun ht14=>?_) (fun ht14=>?_)
 try simp only[yd,yf]at ht14
 apply yK;refine vN ?_;apply yk;obtain⟨im,him⟩: ∃c,s.items[i]'qM=c:=⟨_,rfl⟩;have hxi:s.items[i]? =some im:=by rw[List.getElem?_eq_getElem qM,him]
 have hm9:=hg.items _ (List.mem_of_getElem? hxi);have hb9:=ZkB pui hpi (i:=i) qM qM;rw[him]at hb9;have hpx:(pi[i]'qM).x=im:=by have h0:=congrArg (fun l=>l[i]?) hpi;simp only[List.getElem?_map]at h0;rw[List.getElem?_eq_getElem qM,hxi]at h0;simpa using h0
 refine vQ ?_;refine Jq (Z0 Z2h rfl) (Jq (Z1 Z2v rfl rfl) (Jm rfl (Jq (Z9 Z45 rfl (hai qM) rfl qM qM) ?_)));refine Jq (Z0 Za1 rfl) ?_;refine Jq (ZK (enc:=Cel.cs) (sz:=9) (i:=i) (j:=0) (y:=pi[i]'qM) (u:=.bool im.all) Z1E rfl qI (hai qM) (List.getElem?_eq_getElem _) qM hb9) ?_;refine vS [1,3,4,22] ?_;refine yC rfl (fun ht22=>?_) (fun ht22=>?_)
 try simp only[yd,yf]at ht22
 refine vQ ?_;refine Jm rfl (Jq (Zx (cs:=[_]) ZS qM qM (.cons rfl .nil) rfl rfl rfl) ?_);have e9:txItm im=[42]:=by unfold txItm;rw[if_pos ht22]
 have hkl:(jT txItm (s.items) i).length=i:=by simp;omega
 refine JO.apO (ys:=[bl [42]]) Z1i Z1j yV hG rfl rfl (fun L=>Z1M ZD rfl rfl) (by simp) (by rw[hkl];show(i+1)*16<=_;omega) (by rw[hkl];show i+1<=_;omega) rfl (fun st2 cp2 hG2=>?_);try dsimp only
 rw[<-e9]at hG2 ⊢;rw[<-Z1P hxi];refine Ja rfl (vP [1,3,4] ?_);refine Jm rfl (Jq (Zv (cc:=((i+1:Nat):Int)) rfl rfl qM qM qM) ?_);refine Ja rfl ?_;apply yI
 repeat refine JX.normal_block ?_
 refine JX.roundG (x:=(i,st,cp)) (i+1,st2,cp2) ?_ ?_ [1,3,4] ?_ ?_ ?_ ?_
 · exact⟨by show i+1<=_;omega,by show Grows strC 1 (jT txItm (s.items) (i+1)) _ _;rw[Z1P hxi];exact hG2⟩
 · exact(by show li-(i+1)<li-i;omega)
 · exact qS
 · exact qH
 · exact qG
 · exact fun _ _ _=>fun _ _=>trivial
 try simp only[yd,yf]at ht22
 obtain⟨q,hq1,hq2,hq3⟩:=Zg0 (pi[i]'qM) (pui.imp fun w h=>h _ (List.getElem_mem _));rw[hpx]at hq1 hq2;refine J.fact (CelR q) (fun X w hF _ w' hk=>hq3 w' (hF (CelF itE pi) qI w' hk _ (List.getElem_mem _))) ?_;have hgi:=(hm9.resolve_left (by rw[ht22];decide)).2;refine vQ ?_;refine Jm rfl (Jq (Z0 Z2h rfl) (Jq (Z1 Z2v rfl rfl) (Jm rfl (Jq (Z9 Z45 rfl (hai qM) rfl qM qM) ?_))));refine Jq (Z0 Z5q rfl) ?_;refine Jq (Z82 (enc:=Cel.cs) (sz:=9) (i:=i) (j:=1) (n:=8) (y:=pi[i]'qM) (cs:=q.cs) (by rw[q.h];exact Z6) rfl qI (hai qM) (List.getElem?_eq_getElem _) qM (by rw[hq1];show q.cs.take 8=_;exact List.take_of_length_le (by rw[q.h];exact Nat.le_refl _))) ?_;refine Jq (Zo rfl (c_RE hgi) (.sub rfl (Sub.celX qI hq2) qA)) ?_;refine Jq (Zx (cs:=[_]) ZS qM qM (.cons rfl .nil) rfl rfl rfl) ?_;have e9:txItm im=prE im.ex:=by unfold txItm;rw[if_neg (by rw[ht22];decide)]
 have hkl:(jT txItm (s.items) i).length=i:=by simp;omega
 refine JO.apO (ys:=[bl (prE im.ex)]) Z1i Z1j yV hG rfl rfl (fun L=>Z1M ZD rfl rfl) (by simp) (by rw[hkl];show(i+1)*16<=_;omega) (by rw[hkl];show i+1<=_;omega) rfl (fun st2 cp2 hG2=>?_);try dsimp only
 rw[<-e9]at hG2 ⊢;rw[<-Z1P hxi];refine Ja rfl (vP [1,3,4] ?_);refine Jm rfl (Jq (Zv (cc:=((i+1:Nat):Int)) rfl rfl qM qM qM) ?_);refine Ja rfl ?_;apply yI
 repeat refine JX.normal_block ?_
 refine JX.roundG (x:=(i,st,cp)) (i+1,st2,cp2) ?_ ?_ [1,3,4] ?_ ?_ ?_ ?_
 · exact⟨by show i+1<=_;omega,by show Grows strC 1 (jT txItm (s.items) (i+1)) _ _;rw[Z1P hxi];exact hG2⟩
 · exact(by show li-(i+1)<li-i;omega)
 · exact qS
 · exact qH
 · exact qG
 · exact fun _ _ _=>fun _ _=>trivial
 try simp only[yd,yf]at ht14
 repeat apply yQ
 refine J.exit ?_
 repeat first|refine yH ?_|refine yM rfl ?_|refine yE ?_
 repeat first|apply yX|apply yB
 have hix:i=s.items.length:=by omega
 refine J.freezeO Z1j hG (e:=Zs) yV (fun _ h=>h) rfl rfl ?_;rw[hG.sl.1];refine vQ ?_;refine Jm rfl (Jq (Zo rfl (c_RL txItm s.items i hix hg.nitems (fun x hx=>Nat.le_trans (Z4b (hg.items x hx)) qD)) (.sub rfl (Sub.strs qI hG.sl.2) .nil)) ?_);refine Jq (Z7 (u:=bl ([83,69,76,69,67,84,32]++joinC (s.items.map txItm))) rfl rfl (sz3 qZ qZ) (Zf [83,69,76,69,67,84,32] _)) ?_;refine Jq (Z7 (u:=bl (qT s 0)) rfl rfl (sz3 qZ qZ) (by rw[qT_0];exact(Zf _ [32,70,82,79,77,32]).trans (congrArg bl (by simp)))) ?_;refine Ja rfl (vP [1,5] ?_);refine Ja rfl (vS [1,5,6] ?_);apply yk
 repeat apply yQ
 refine J.loopG (α:=Nat) (fun i=>[(1,.is (.pointer (some ⟨b1,0,none⟩))),(5,.is (.string (bl (qT s i)))),(6,.is (.int .i64 (i:Nat)))]) (fun i=>[⟨b1,Z3,.is (stV s vc vn vr (.slice ai li ci) (.slice af lf cf) vw (.slice ag lg cg) (.slice ao lo co) vs)⟩]) (fun i=>fun _=>True) (fun i=>i<=lf) (fun i=>lf-i) 0 [1,5,6] (.cons rfl (.cons rfl (.cons rfl .nil))) rfl (fun _=>trivial) (Nat.zero_le _) fun i hi=>?_;try dsimp only
 try dsimp only at hi
 refine vQ ?_;refine Jm rfl (Jq (Z0 Z19 rfl) (Jq (Z1 Z1b rfl rfl) (Jq (ZE Z2g rfl) (Jq (ZC rfl rfl) (vS [1,5,6,44] ?_)))));refine yC rfl (fun ht44=>?_) (fun ht44=>?_)
 try simp only[yd,yf]at ht44
 apply yK;refine vN ?_;apply yk;obtain⟨a9,c9,hs9⟩:=Zgr (i:=i) puf hpf qM qM;obtain⟨x,hx⟩: ∃c,s.from_[i]'qM=c:=⟨_,rfl⟩;rw[hx]at hs9;have hxi:s.from_[i]? =some x:=by rw[List.getElem?_eq_getElem qM,hx]
 obtain⟨hsh0,hsh1⟩:=hsh.fr i x hxi;have hm9:=hg.from_ _ (List.mem_of_getElem? hxi);have hq9:=hqT i qM;have hJ9:=hfqJ i qM;have ht9:=Z1y hm9.1.1;have ht9':x.tb.data.toList.length<=2048:=ht9;have hn9:=Z1y hm9.1.2;have hn9':x.nm.data.toList.length<=2048:=hn9;have hsr9:(txSrc x).length<=4200:=by unfold txSrc;split<;>simp only[List.length_append,List.length_cons,List.length_nil]<;>omega
 have hpx:(pf[i]'qM).x=x:=by have h0:=congrArg (fun l=>l[i]?) hpf;simp only[List.getElem?_map]at h0;rw[List.getElem?_eq_getElem qM,hxi]at h0;simpa using h0
 refine J.fact (ExsR x.on (.slice a9 x.on.length c9)) (fun X w hF _ w' hk=>by rw[<-hpx];exact ZfT (List.getElem_mem _) (hF (CelF srE pf) qI w' hk) (by rw[hs9,hpx])) ?_;refine vQ ?_;refine Jm rfl (Jq (Z13 rfl rfl) (vS [1,5,6,48] ?_));refine J.cutZN (fun z:Unit=>[(1,.is (.pointer (some ⟨b1,0,none⟩))),(5,.is (.string (bl (fqJ s i)))),(6,.is (.int .i64 (i:Nat)))]) (fun z:Unit=>[⟨b1,Z3,.is (stV s vc vn vr (.slice ai li ci) (.slice af lf cf) vw (.slice ag lg cg) (.slice ao lo co) vs)⟩]) (fun z:Unit=>True) ?_ ?_
 · refine yC rfl (fun ht48=>?_) (fun ht48=>?_)
   try simp only[yd,yf]at ht48
   refine vQ ?_;refine Jm rfl (Jq (Z7 (u:=bl (fqJ s i)) rfl rfl (sz3 qZ qZ) (by rw[fqJ,if_pos qM];exact Zf _ [32,74,79,73,78,32])) ?_);refine Ja rfl ?_;apply yI;refine JX.midZ (()) ?_ [1,5,6] ?_ ?_ ?_
   · exact trivial
   · exact qS
   · exact qH
   · exact qG
   try simp only[yd,yf]at ht48
   apply yK;rw[show qT s i=fqJ s i from by rw[fqJ,if_neg qM]];refine JX.midZ (()) ?_ [1,5,6] ?_ ?_ ?_
   · exact trivial
   · exact qS
   · exact qH
   · exact qG
 · intro z9 hz9
   try dsimp only
   refine vQ ?_;refine Jm rfl (Jq (Z0 Z19 rfl) (Jq (Z1 Z1b rfl rfl) (Jm rfl (Jq (Z9 Z2o rfl (haf qM) rfl qM qM) ?_))));refine Jq (Z0 Z3i rfl) ?_;refine Jq (ZK (enc:=Cel.cs) (sz:=3) (i:=i) (j:=0) (y:=pf[i]'qM) (u:=.string x.tb) Za rfl qI (haf qM) (List.getElem?_eq_getElem _) qM (by rw[hs9];rfl)) ?_;refine Jq (Z7 (u:=bl (fqJ s i++tx x.tb)) rfl rfl (sz3 qZ qZ) (Zf _ (tx x.tb))) ?_;refine Ja rfl (vS [1,5,6] ?_);refine J.reg0 hmx qK qK ?_;refine yz (Z0 Z19 rfl) (yz (Z1 Z1b rfl rfl) (yz (Z2 rfl) (yz (Z9 Z2o rfl (haf qM) rfl qM qM) ?_)));refine yz (Z0 Z2A rfl) ?_;refine yz (ZK (enc:=Cel.cs) (sz:=3) (i:=i) (j:=1) (y:=pf[i]'qM) (u:=.string x.nm) Za rfl qI (haf qM) (List.getElem?_eq_getElem _) qM (by rw[hs9];rfl)) ?_;refine yz (Z0 Z19 rfl) (yz (Z1 Z1b rfl rfl) (yz (Z2 rfl) (yz (Z9 Z2o rfl (haf qM) rfl qM qM) ?_)));refine yz (Z0 Z3i rfl) ?_;refine yz (ZK (enc:=Cel.cs) (sz:=3) (i:=i) (j:=0) (y:=pf[i]'qM) (u:=.string x.tb) Za rfl qI (haf qM) (List.getElem?_eq_getElem _) qM (by rw[hs9];rfl)) ?_;refine yz (Z4Z rfl rfl) ?_;apply yn;refine FinS.nil0 ?_;refine vS [1,5,6,71] ?_;refine J.cutZN (fun z:Unit=>[(1,.is (.pointer (some ⟨b1,0,none⟩))),(5,.is (.string (bl (fqJ s i++txSrc x)))),(6,.is (.int .i64 (i:Nat)))]) (fun z:Unit=>[⟨b1,Z3,.is (stV s vc vn vr (.slice ai li ci) (.slice af lf cf) vw (.slice ag lg cg) (.slice ao lo co) vs)⟩]) (fun z:Unit=>True) ?_ ?_
   · refine yC rfl (fun ht71=>?_) (fun ht71=>?_)
     try simp only[yd,yf]at ht71
     refine vQ ?_;refine Jm rfl (Jq (Z7 (u:=bl ((fqJ s i++tx x.tb)++[32,65,83,32])) rfl rfl (sz3 qZ qZ) (Zf _ [32,65,83,32])) ?_);refine Jq (Z0 Z19 rfl) (Jq (Z1 Z1b rfl rfl) (Jm rfl (Jq (Z9 Z2o rfl (haf qM) rfl qM qM) ?_)));refine Jq (Z0 Z2A rfl) ?_;refine Jq (ZK (enc:=Cel.cs) (sz:=3) (i:=i) (j:=1) (y:=pf[i]'qM) (u:=.string x.nm) Za rfl qI (haf qM) (List.getElem?_eq_getElem _) qM (by rw[hs9];rfl)) ?_;refine Jq (Z7 (u:=bl (fqJ s i++txSrc x)) rfl rfl (sz3 qZ qZ) (by refine(Zf _ (tx x.nm)).trans (congrArg bl ?_);unfold txSrc;rw[if_neg (by rw[<-Z1G];simpa using ht71)];simp)) ?_;refine Ja rfl ?_;apply yI;refine JX.midZ (()) ?_ [1,5,6] ?_ ?_ ?_
     · exact trivial
     · exact qS
     · exact qH
     · exact qG
     try simp only[yd,yf]at ht71
     apply yK;rw[show fqJ s i++tx x.tb=fqJ s i++txSrc x from by unfold txSrc;rw[if_pos (by rw[<-Z1G];simpa using ht71)];simp];refine JX.midZ (()) ?_ [1,5,6] ?_ ?_ ?_
     · exact trivial
     · exact qS
     · exact qH
     · exact qG
   · intro z9 hz9
     try dsimp only
     refine vQ ?_;refine Jm rfl (Jq (Z13 rfl rfl) (vS [1,5,6,82] ?_));refine yC rfl (fun ht82=>?_) (fun ht82=>?_)
     try simp only[yd,yf]at ht82
     have hon1:=hsh1 qM;have hgo:=hm9.2.2 _ (Z1l (xs:=x.on) (i:=0) qM);have hgl:=hgo.len;refine J.shapeK (xs:=x.on) (v:=.slice a9 x.on.length c9) qI (fun ax lx cx bx ox_ hvx hlx hax=>?_);injection hvx with e1 e2 e3
     subst e1 e3;refine vQ ?_;refine Jm rfl (Jq (Z7 (u:=bl ((fqJ s i++txSrc x)++[32,79,78,32])) rfl rfl (sz3 qZ qZ) (Zf _ [32,79,78,32])) ?_);refine Jq (Z0 Z19 rfl) (Jq (Z1 Z1b rfl rfl) (Jm rfl (Jq (Z9 Z2o rfl (haf qM) rfl qM qM) ?_)));refine Jq (Z0 Z2n rfl) ?_;refine Jq (ZK (enc:=Cel.cs) (sz:=3) (i:=i) (j:=2) (y:=pf[i]'qM) (u:=.slice a9 x.on.length c9) Zk rfl qI (haf qM) (List.getElem?_eq_getElem _) qM (by rw[hs9];rfl)) ?_;refine Jq (Z9 ZO rfl (hax qM) rfl qM qM) ?_;refine Jq (Z1q (i:=0) (kid:=x.on.getD 0 ex0) Z6 rfl qI (hax qM) (Z1B qM) qM) ?_;refine Jq (Zo rfl (c_RE hgo) qA) ?_;refine Jq (Z7 (u:=bl (qT s (i+1))) rfl rfl (sz3 qZ qZ) (by rw[ZmF hxi qM hon1];exact Zf _ _)) ?_;refine Ja rfl (vS [1,5,6] ?_)
     try rw[ZjI hxi qM (hsh0 qM)]
     refine vQ ?_;refine Jm rfl (Jq (Zv (cc:=((i+1:Nat):Int)) rfl rfl qM qM qM) ?_);refine Ja rfl ?_;apply yI
     repeat refine JX.normal_block ?_
     refine JX.roundG (x:=i) (i+1) ?_ ?_ [1,5,6] ?_ ?_ ?_ ?_
     · exact qM
     · exact qM
     · exact qS
     · exact qH
     · exact qG
     · exact fun _ _ _=>fun _ _=>trivial
     try simp only[yd,yf]at ht82
     apply yK
     repeat first|apply yX|apply yB
     try rw[ZjI hxi qM (hsh0 qM)]
     refine vQ ?_;refine Jm rfl (Jq (Zv (cc:=((i+1:Nat):Int)) rfl rfl qM qM qM) ?_);refine Ja rfl ?_;apply yI
     repeat refine JX.normal_block ?_
     refine JX.roundG (x:=i) (i+1) ?_ ?_ [1,5,6] ?_ ?_ ?_ ?_
     · exact qM
     · exact qM
     · exact qS
     · exact qH
     · exact qG
     · exact fun _ _ _=>fun _ _=>trivial
 try simp only[yd,yf]at ht44
 repeat apply yQ
 refine J.exit ?_
 repeat first|refine yH ?_|refine yM rfl ?_|refine yE ?_
 repeat first|apply yX|apply yB
 have hif:i=s.from_.length:=by omega
 subst hif;have hq9:=hqT s.from_.length nf64;refine vQ ?_;refine Jm rfl (Jq (Z0 Z26 rfl) (Jq (Z1 Zk rfl rfl) (Jq (Zo rfl (Z6T s.where_ hsh.wh hg.where_) (.sub rfl (Sub.exsG (xs:=s.where_) (G:=FX N) qI) .nil)) ?_)));refine Jq (Z7 (u:=bl (fqW s)) rfl rfl (sz3 qZ qZ) (Zf _ _)) ?_;refine Ja rfl (vP [1,5] ?_);refine Jq (Z0 Z3p rfl) (Jq (Z1 Zk rfl rfl) (Jq (ZE Zy rfl) (Jq (Z13 rfl rfl) (vS [1,5,103] ?_))));refine J.cutZN (fun z:Unit=>[(1,.is (.pointer (some ⟨b1,0,none⟩))),(5,.is (.string (bl (fqG s))))]) (fun z:Unit=>[⟨b1,Z3,.is (stV s vc vn vr (.slice ai li ci) (.slice af lf cf) vw (.slice ag lg cg) (.slice ao lo co) vs)⟩]) (fun z:Unit=>True) ?_ ?_
 · refine yC rfl (fun ht103=>?_) (fun ht103=>?_)
   try simp only[yd,yf]at ht103
   have hg0:s.group.length≠0:=by omega
   have hgj:=jl (p:=prE) hg.ngroup fun x hx=>(hg.group x hx).len;refine vQ ?_;refine Jm rfl (Jq (Z7 (u:=bl (fqW s++[32,71,82,79,85,80,32,66,89,32])) rfl rfl (sz3 qZ qZ) (Zf _ [32,71,82,79,85,80,32,66,89,32])) ?_);refine Jq (Z0 Z3p rfl) (Jq (Z1 Zk rfl rfl) (Jq (Zo rfl (Za0 s.group hg.ngroup hg.group) (.sub rfl (Sub.exsV (xs:=s.group) qI) .nil)) ?_));refine Jq (Z7 (u:=bl (fqG s)) rfl rfl (sz3 qZ qZ) (by rw[fqG,ZlI hg0];refine(Zf _ _).trans (congrArg bl ?_);simp)) ?_;refine Ja rfl ?_;apply yI;refine JX.midZ (()) ?_ [1,5] ?_ ?_ ?_
   · exact trivial
   · exact qS
   · exact qH
   · exact qG
   try simp only[yd,yf]at ht103
   apply yK;rw[show fqW s=fqG s from by rw[fqG,Zlq qM,List.append_nil]];refine JX.midZ (()) ?_ [1,5] ?_ ?_ ?_
   · exact trivial
   · exact qS
   · exact qH
   · exact qG
 · intro z9 hz9
   try dsimp only
   refine vQ ?_;refine Ja rfl (vP [1,5,7] ?_);refine Ja rfl (vS [1,5,7,8] ?_);apply yk
   repeat apply yQ
   refine J.loopG (α:=Nat×Option (Nat×List Value)×Nat) (fun z=>[(1,.is (.pointer (some ⟨b1,0,none⟩))),(5,.is (.string (bl (fqG s)))),(7,.is (sliceO z.2.1 (jT txKy s.order z.1).length z.2.2)),(8,.is (.int .i64 (z.1:Nat)))]) (fun z=>ownO z.2.1 Zs [⟨b1,Z3,.is (stV s vc vn vr (.slice ai li ci) (.slice af lf cf) vw (.slice ag lg cg) (.slice ao lo co) vs)⟩]) (fun z=>fun _=>True) (fun z=>z.1<=lo/\Grows strC 1 (jT txKy (s.order) z.1) z.2.1 z.2.2) (fun z=>lo-z.1) (0,none,0) [1,5,7,8] (.cons rfl (.cons rfl (.cons rfl (.cons rfl .nil)))) rfl (fun _=>trivial) ⟨by omega,rfl⟩ fun⟨i,st,cp⟩ ⟨hi,hG⟩=>?_;try dsimp only
   try dsimp only at st
   try dsimp only at cp
   try dsimp only at hi
   try dsimp only at hG
   refine vQ ?_;refine Jm rfl (Jq (Z0 Z1W rfl) (Jq (Z1 Z2q rfl rfl) (Jq (ZE Z2X rfl) (Jq (ZC rfl rfl) (vS [1,5,7,8,114] ?_)))));refine yC rfl (fun ht114=>?_) (fun ht114=>?_)
   try simp only[yd,yf]at ht114
   apply yK;refine vN ?_;apply yk;obtain⟨ky,hky⟩: ∃c,s.order[i]'qM=c:=⟨_,rfl⟩;have hxi:s.order[i]? =some ky:=by rw[List.getElem?_eq_getElem qM,hky]
   have hgk:=hg.order _ (List.mem_of_getElem? hxi);have hgl:=hgk.len;have hb9:=Zku puo hpo (i:=i) qM qM;rw[hky]at hb9;have hpx:(po[i]'qM).x=ky:=by have h0:=congrArg (fun l=>l[i]?) hpo;simp only[List.getElem?_map]at h0;rw[List.getElem?_eq_getElem qM,hxi]at h0;simpa using h0
   obtain⟨q,hq1,hq2,hq3⟩:=ZfY (po[i]'qM) (puo.imp fun w h=>h _ (List.getElem_mem _));rw[hpx]at hq1 hq2;refine J.fact (CelR q) (fun X w hF _ w' hk=>hq3 w' (hF (CelF kyE po) qI w' hk _ (List.getElem_mem _))) ?_;refine vQ ?_;refine Jq (Z0 Z1W rfl) (Jq (Z1 Z2q rfl rfl) (Jm rfl (Jq (Z9 Z4r rfl (hao qM) rfl qM qM) ?_)));refine Jq (Z0 Z4M rfl) ?_;refine Jq (Z82 (enc:=Cel.cs) (sz:=9) (i:=i) (j:=0) (n:=8) (y:=po[i]'qM) (cs:=q.cs) (by rw[q.h];exact Z6) rfl qI (hao qM) (List.getElem?_eq_getElem _) qM (by rw[hq1];show(q.cs++_).take 8=_;exact List.take_left' q.h)) ?_;refine Jq (Zo rfl (c_RE hgk) (.sub rfl (Sub.celX qI hq2) qA)) ?_;refine Ja rfl (vP [1,5,7,8,9] ?_);refine Jq (Z0 Z1W rfl) (Jq (Z1 Z2q rfl rfl) (Jm rfl (Jq (Z9 Z4r rfl (hao qM) rfl qM qM) ?_)));refine Jq (Z0 Z5T rfl) ?_;refine Jq (ZK (enc:=Cel.cs) (sz:=9) (i:=i) (j:=8) (y:=po[i]'qM) (u:=.bool ky.desc) Z1E rfl qI (hao qM) (List.getElem?_eq_getElem _) qM hb9) ?_;refine vS [1,5,7,8,9,129] ?_;refine J.cutZN (fun z:Unit=>[(1,.is (.pointer (some ⟨b1,0,none⟩))),(5,.is (.string (bl (fqG s)))),(7,.is (sliceO st (jT txKy s.order i).length cp)),(8,.is (.int .i64 (i:Nat))),(9,.is (.string (bl (txKy ky))))]) (fun z:Unit=>ownO st Zs [⟨b1,Z3,.is (stV s vc vn vr (.slice ai li ci) (.slice af lf cf) vw (.slice ag lg cg) (.slice ao lo co) vs)⟩]) (fun z:Unit=>True) ?_ ?_
   · refine yC rfl (fun ht129=>?_) (fun ht129=>?_)
     try simp only[yd,yf]at ht129
     refine vQ ?_;refine Jm rfl (Jq (Z7 (u:=bl (txKy ky)) rfl rfl (sz3 qZ qZ) (by unfold txKy;rw[if_pos ht129];exact Zf _ [32,68,69,83,67])) ?_);refine Ja rfl ?_;apply yI;refine JX.midZ (()) ?_ [1,5,7,8,9] ?_ ?_ ?_
     · exact trivial
     · exact qS
     · exact qH
     · exact qG
     try simp only[yd,yf]at ht129
     apply yK;rw[show prE ky.ex=txKy ky from by unfold txKy;rw[if_neg (by rw[ht129];decide),List.append_nil]];refine JX.midZ (()) ?_ [1,5,7,8,9] ?_ ?_ ?_
     · exact trivial
     · exact qS
     · exact qH
     · exact qG
   · intro z9 hz9
     try dsimp only
     refine vQ ?_;refine Jm rfl (Jm rfl (Jq (Zx (cs:=[_]) ZS qM qM (.cons rfl .nil) rfl rfl rfl) ?_));have hkl:(jT txKy (s.order) i).length=i:=by simp;omega
     refine JO.apO (ys:=[bl (txKy ky)]) Z1i Z1j yV hG rfl rfl (fun L=>Z1M ZD rfl rfl) (by simp) (by rw[hkl];show(i+1)*16<=_;omega) (by rw[hkl];show i+1<=_;omega) rfl (fun st2 cp2 hG2=>?_);try dsimp only
     rw[<-Z1P hxi];refine Ja rfl (vP [1,5,7,8] ?_);refine Jm rfl (Jq (Zv (cc:=((i+1:Nat):Int)) rfl rfl qM qM qM) ?_);refine Ja rfl ?_;apply yI
     repeat refine JX.normal_block ?_
     refine JX.roundG (x:=(i,st,cp)) (i+1,st2,cp2) ?_ ?_ [1,5,7,8] ?_ ?_ ?_ ?_
     · exact⟨by show i+1<=_;omega,by show Grows strC 1 (jT txKy (s.order) (i+1)) _ _;rw[Z1P hxi];exact hG2⟩
     · exact(by show lo-(i+1)<lo-i;omega)
     · exact qS
     · exact qH
     · exact qG
     · exact fun _ _ _=>fun _ _=>trivial
   try simp only[yd,yf]at ht114
   repeat apply yQ
   refine J.exit ?_
   repeat first|refine yH ?_|refine yM rfl ?_|refine yE ?_
   repeat first|apply yX|apply yB
   have hix:i=s.order.length:=by omega
   have hnp:(jT txKy s.order i).length=i:=by simp;omega
   refine J.freezeO Z1j hG (e:=Zs) yV (fun _ h=>h) rfl rfl ?_;rw[hG.sl.1];refine vQ ?_;refine Jm rfl (Jq (ZE ZD rfl) (Jq (Z13 rfl rfl) (vS [1,5,7,138] ?_)));refine J.cutZN (fun z:Unit=>[(1,.is (.pointer (some ⟨b1,0,none⟩))),(5,.is (.string (bl (fqO s))))]) (fun z:Unit=>[⟨b1,Z3,.is (stV s vc vn vr (.slice ai li ci) (.slice af lf cf) vw (.slice ag lg cg) (.slice ao lo co) vs)⟩]) (fun z:Unit=>True) ?_ ?_
   · refine yC rfl (fun ht138=>?_) (fun ht138=>?_)
     try simp only[yd,yf]at ht138
     refine vQ ?_;refine Jm rfl (Jq (Z7 (u:=bl (fqG s++[32,79,82,68,69,82,32,66,89,32])) rfl rfl (sz3 qZ qZ) (Zf _ [32,79,82,68,69,82,32,66,89,32])) ?_);refine Jm rfl (Jq (Zo rfl (c_RL txKy s.order i hix hg.norder (fun x hx=>Nat.le_trans (Z4K (hg.order x hx)) qD)) (.sub rfl (Sub.strs qI hG.sl.2) .nil)) ?_);refine Jq (Z7 (u:=bl (fqO s)) rfl rfl (sz3 qZ qZ) (by rw[fqO,ZhE qM];refine(Zf _ _).trans (congrArg bl ?_);simp)) ?_;refine Ja rfl ?_;apply yI;refine JX.midZ (()) ?_ [1,5] ?_ ?_ ?_
     · exact trivial
     · exact qS
     · exact qH
     · exact qG
     try simp only[yd,yf]at ht138
     apply yK;rw[show fqG s=fqO s from by rw[fqO,ZiD qM,List.append_nil]];refine JX.midZ (()) ?_ [1,5] ?_ ?_ ?_
     · exact trivial
     · exact qS
     · exact qH
     · exact qG
   · intro z9 hz9
     try dsimp only
     refine vQ ?_;refine Jq (Z0 Z2O rfl) (Jq (Z1 Zq rfl rfl) (Jq (Z2Z rfl rfl) (vS [1,5,146] ?_)));refine yC rfl (fun ht146=>?_) (fun ht146=>?_)
     try simp only[yd,yf]at ht146
     refine vQ ?_;refine Jm rfl (Jq (Z7 (u:=bl (fqO s++[32,76,73,77,73,84,32])) rfl rfl (sz3 qZ qZ) (Zf _ [32,76,73,77,73,84,32])) ?_);refine Jq (Z0 Z2O rfl) (Jq (Z1 Zq rfl rfl) (Jq (Zg (cs:=[_,_,_]) Z2G (.cons rfl (.cons rfl .nil)) rfl rfl) (Jq (Zo rfl (ZaB ⟨1,s.limit,em⟩ ⟨by show _<=s.limit;omega,by show s.limit<_;omega⟩) (.one rfl .nil)) ?_)));refine Jq (Z7 (u:=bl (txQ s)) rfl rfl (sz3 qZ (by rw[ZeY];exact qZ)) (by rw[ZeY,Zhx];refine(Zf _ _).trans (congrArg bl ?_);unfold txLim;rw[if_pos (by simpa using ht146)];simp)) ?_;refine Ja rfl (vP [5] ?_);refine Jm rfl (Ja rfl (vS [2] ?_));refine vR ?_;exact JX.ret1is rfl rfl (rfl)
     try simp only[yd,yf]at ht146
     apply yK;refine vN ?_;apply yN;refine Jm rfl (Ja rfl (vS [2] ?_));refine vR ?_;exact JX.ret1is rfl rfl (by rw[Zhx];unfold txLim;rw[if_neg (by simpa using ht146),List.append_nil])
end Go.Proofs.YtbedigkncjbggaaGreatDoor
