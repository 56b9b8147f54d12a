/- print: lists with commas between their parts. No condition. -/
import Derived.Test.YtbedigkncjbggaaGreatDoorXQ9
import Derived.Test.YtbedigkncjbggaaGreatDoorXQ6
import Derived.Test.YtbedigkncjbggaaGreatDoorXQ8
import Derived.Test.YtbedigkncjbggaaGreatDoorXQ1
set_option maxRecDepth 20000
namespace Go.Proofs.YtbedigkncjbggaaGreatDoor
open Go Go.Vc
open Go.Pz
theorem ZaD: ∀(n:Nat) (x:Ex),ect x<=n->Wf nmOk x->ect x<=4096->PX x
 |0,x,h,_,_=>absurd h (by have:=Z4y x;omega)
 |n+1,x,h,hw,hx=>Zb3 x hw hx fun y hy=>ZaD n y (by have:=Z3n hy;rw[Z2M]at h;omega) (Z76 hw y hy) (by have:=Z3n hy;rw[Z2M]at hx;omega)
theorem c_PE{x:Ex}(hw:Wf nmOk x)(hx:ect x<=4096):PX x:=ZaD 4096 x hx hw hx
theorem Z50(l:List (List UInt8)):Lib.join l [44,32]=joinC l:=by
 cases l with
 |nil=>rfl
 |cons x xs=>rw[Lib.join_cons];show x++(xs.map ([44,32]++ ·)).flatten=x++xs.flatMap (fun y=>44::32::y);rw[List.flatMap_def];rfl
theorem Zeq{l:List (List UInt8)}{m:Nat}(h: ∀x∈l,x.length<=m):(joinC l).length<=l.length*(m+2):=by
 cases l with
 |nil=>exact Nat.zero_le _
 |cons x xs=>
   have h2: ∀xs:List (List UInt8),(∀x∈xs,x.length<=m)->(xs.flatMap fun y=>44::32::y).length<=xs.length*(m+2):=fun xs=>by
     induction xs with
     |nil=>exact fun _=>Nat.zero_le _
     |cons y ys ih=>
       intro h;have h3:=h y List.mem_cons_self;have h4:=ih fun z hz=>h z (List.mem_cons_of_mem _ hz);rw[List.flatMap_cons,List.length_append,List.length_cons,List.length_cons,List.length_cons,Nat.add_mul]
       omega
   have h5:=h x List.mem_cons_self;have h6:=h2 xs fun z hz=>h z (List.mem_cons_of_mem _ hz);show(x++_).length<=_;rw[List.length_append,List.length_cons,Nat.add_mul]
   omega
theorem Sub.elT{α:Type}{En:Enc α}{L:List Own}{Φ:List (World->Prop)}{ps:List (Cel En)}{p:Cel En}{V:Value}(hF:CelF En ps∈Φ)(hp:p∈ps)(hv:V=En.v p.cs):Sub L Φ (.is V) (.rep (En.T p.x)):=fun X v w hf e=>by
 rw[show v=_ from e,hv];exact fun w' hk=>⟨p.cs,rfl,hf.2 _ hF w' hk p hp⟩
def ceS(s:ByteArray):Cel stE:=⟨s,[.string s],rfl,by intro u hu;rw[List.mem_singleton.1 hu];rfl⟩
theorem Sub.strs{L:List Own}{Φ:List (World->Prop)}{xs:List ByteArray}{a:Option Addr}{len cap:Nat}(h:RowG strC 1 xs a len∈Φ)(hc:len<=cap):Sub L Φ (.is (.slice a len cap)) (.rep (SlE stE noS xs)):=fun X v w hf e=>by
 rw[show v=_ from e];refine fun w' hk=>⟨xs.map ceS,a,len,cap,by rw[List.map_map];exact List.map_id xs,rfl,hc,?_,fun p hp=>?_,trivial⟩
 · obtain⟨h1,h2⟩:=hf.2 _ h w' hk
   refine⟨by rw[List.length_map];exact h1,fun hn=>?_⟩;obtain⟨b,o,ha,hr⟩:=h2 hn;refine⟨b,o,ha,fun i q hq=>?_⟩;rw[List.getElem?_map]at hq;obtain⟨s,hs,rfl⟩:=Option.map_eq_some_iff.1 hq;exact hr i s hs
 · obtain⟨s,_,rfl⟩:=List.mem_map.1 hp
   exact rfl
theorem Sub.noS{α:Type}{En:Enc α}{L:List Own}{Φ:List (World->Prop)}{G:GoS}{xs:List α}{v:Value}(h:SlE En G xs v∈Φ):Sub L Φ (.is v) (.rep (SlE En noS xs)):=fun X u w hf e=>by
 rw[show u=_ from e];exact fun w' hk=>(hf.2 _ h w' hk).weak fun _ _ _ _=>trivial
theorem Sub.exsV{L:List Own}{Φ:List (World->Prop)}{xs:List Ex}{v:Value}(h:ExsR xs v∈Φ):Sub L Φ (.is v) (.rep (ExsR xs)):=fun X u w hf e=>by
 rw[show u=_ from e];exact fun w' hk=>hf.2 _ h w' hk
theorem Sub.exsG{L:List Own}{Φ:List (World->Prop)}{G:GoS}{xs:List Ex}{v:Value}(h:SlE exE G xs v∈Φ):Sub L Φ (.is v) (.rep (ExsR xs)):=fun X u w hf e=>by
 rw[show u=_ from e];exact fun w' hk=>SlE.exs (hf.2 _ h w' hk)
abbrev jT{α:Type}(p:α->List UInt8)(xs:List α)(i:Nat):List ByteArray:=(xs.take i).map fun x=>bl (p x)
theorem Z1P{α:Type}{p:α->List UInt8}{xs:List α}{i:Nat}{x:α}(h:xs[i]? =some x):jT p xs (i+1)=jT p xs i++[bl (p x)]:=by
 show((xs.take (i+1)).map _)=_;rw[List.take_add_one,h,Option.toList_some,List.map_append]
 rfl
theorem Z6B{α:Type}{p:α->List UInt8}{xs:List α}{n:Nat}(h:n=xs.length):(jT p xs n).map (·.data.toList)=xs.map p:=by
 subst h;show((xs.take xs.length).map _).map _=_;rw[List.take_length,List.map_map]
 rfl
theorem ZaQ{α:Type}{p:α->List UInt8}{xs:List α}{n:Nat}(h:n=xs.length)(hn:xs.length<=64)(hl: ∀x∈xs,(p x).length<=400000000000):(Lib.join ((jT p xs n).map (·.data.toList)) [44,32]).length<=140737488355328:=by
 rw[Z6B h,Z50];have:=Zeq (l:=xs.map p) (m:=400000000000) fun x hx=>by obtain⟨y,hy,rfl⟩:=List.mem_map.1 hx;exact hl y hy
 rw[List.length_map]at this;refine Nat.le_trans this (Nat.le_trans (Nat.mul_le_mul_right _ hn) qD)
set_option maxHeartbeats 1000000 in
theorem Z5A(xs:List Ex)(p:Ex->List UInt8)(fp:FuncId)(hp: ∀x∈xs,CallF Tryz.prog fp [GF,TF] [.rep (ExR x)] (.is (.string (bl (p x)))))(hn:xs.length<=64)(hl: ∀x∈xs,(p x).length<=400000000000):CallF Tryz.prog Z8U [GF,TF] [.rep (ExsR xs),.is (fv fp)] (.is (.string (bl (joinC (xs.map p))))):=
CallF.of (fn:=Tryz.f85) Tryz.func85 (n:=23) rfl rfl rfl (fun _ _=>by kernel_rfl) fun E W=>by
 refine J.openExs (s:=0) rfl (fun a len cap b o hlen ha=>?_);subst hlen;refine vQ ?_;refine Ja rfl (vP [0,1] ?_);refine Ja rfl (vP [0,1,5] ?_);refine Jm rfl (Jq (ZE Zy rfl) (Jm rfl (vS [1,5,8,9,10] ?_)));apply yk
 repeat apply yQ
 refine J.loopG (α:=Nat×Option (Nat×List Value)×Nat) (fun z=>[(1,.is (fv fp)),(5,.is (sliceO z.2.1 (jT p (xs) z.1).length z.2.2)),(8,.is (.slice a xs.length cap)),(9,.is (.int .i64 (xs.length:Nat))),(10,.is (.int .i64 (z.1:Nat)))]) (fun z=>ownO z.2.1 Zs []) (fun z=>fun _=>True) (fun z=>z.1<=xs.length/\Grows strC 1 (jT p (xs) z.1) z.2.1 z.2.2) (fun z=>xs.length-z.1) (0,none,0) [1,5,8,9,10] (.cons rfl (.cons rfl (.cons rfl (.cons rfl (.cons rfl .nil))))) rfl (fun _=>trivial) ⟨by omega,rfl⟩ fun⟨i,st,cp⟩ ⟨hi,hG⟩=>?_;try dsimp only
 try dsimp only at st
 try dsimp only at cp
 try dsimp only at hi
 try dsimp only at hG
 refine vQ ?_;refine Jq (ZC rfl rfl) (vS [1,5,8,9,10,11] ?_);refine yC rfl (fun ht11=>?_) (fun ht11=>?_)
 try simp only[yd,yf]at ht11
 apply yK;refine vN ?_;apply yk;have hi64:xs.length<=64:=by first|exact hn|(rw[List.length_map]at hn;exact hn)
 have hxi:xs[i]? =some (xs.getD i ex0):=Z1B qM;refine vQ ?_;refine Jq (Z9 ZO rfl (ha qM) rfl qM qM) ?_;refine Jq (Z1q (kid:=xs.getD i ex0) Z6 rfl qI (ha qM) (Z1B qM) qM) ?_;refine JO.alloc ZT rfl fun b7=>(JO.m (Z4 rfl rfl qU qC qO Zc) (by rfl) ?_);refine vP [1,5,7,8,9,10] ?_;refine Jm rfl (Jm rfl (Jq (Z1J Z6 rfl) (Jq (Z6w rfl (hp _ (Z1l qM)) qF (.one rfl .nil)) ?_)));refine Jq (Zx (cs:=[_]) ZS qM qM (.cons rfl .nil) rfl rfl rfl) ?_;have hkl:(jT p (xs) i).length=i:=by simp;omega
 refine JO.apO (ys:=[bl (p (xs.getD i ex0))]) Z1i Z1j yV hG rfl rfl (fun L=>Z1M ZD rfl rfl) (by simp) (by rw[hkl];show(i+1)*16<=_;omega) (by rw[hkl];show i+1<=_;omega) rfl (fun st2 cp2 hG2=>?_);try dsimp only
 rw[<-Z1P hxi];refine Ja rfl (vP [1,5,8,9,10] ?_);refine Jq (Zv (cc:=((i+1:Nat):Int)) rfl rfl qM qM qM) ?_;refine Jm rfl ?_;apply yI
 repeat refine JX.normal_block ?_
 refine JX.roundG (x:=(i,st,cp)) (i+1,st2,cp2) ?_ ?_ [1,5,8,9,10] ?_ ?_ ?_ ?_
 · exact⟨by show i+1<=_;omega,by show Grows strC 1 (jT p (xs) (i+1)) _ _;rw[Z1P hxi];exact hG2⟩
 · exact(by show xs.length-(i+1)<xs.length-i;omega)
 · exact qS
 · exact qH
 · exact qG
 · exact fun _ _ _=>fun _ _=>trivial
 try simp only[yd,yf]at ht11
 repeat apply yQ
 refine J.exit ?_
 repeat first|refine yH ?_|refine yM rfl ?_|refine yE ?_
 repeat first|apply yX|apply yB
 have hi64:xs.length<=64:=by first|exact hn|(rw[List.length_map]at hn;exact hn)
 have hix:i=(xs).length:=by first|omega|(rw[List.length_map];omega)
 refine J.freezeO Z1j hG (e:=Zs) yV (fun _ h=>h) rfl rfl ?_;rw[hG.sl.1];refine vQ ?_;refine Jm rfl (Jq (Zo rfl (Z33 (jT p (xs) i) ⟨#[44,32]⟩ (by simp;omega) (ZaQ hix hn hl)) (.sub rfl (Sub.strs qI hG.sl.2) qA)) ?_);refine Ja rfl (vS [4] ?_);refine vR ?_;exact JX.ret1is rfl rfl (by show Value.string (bl (Lib.join ((jT p (xs) i).map (·.data.toList)) [44,32]))=_;rw[Z6B hix,Z50])
theorem ZmP{cs:List Value}(h:cs.length=1):cs[0]? =some (hdv cs):=by
 cases cs with
 |nil=>cases h
 |cons v l=>rfl
set_option maxHeartbeats 1000000 in
theorem Z7D{α:Type}(En:Enc α)(hs:En.sz=4)(hv: ∀cs,En.v cs= .agg cs.toArray)(xs:List α)(p:α->List UInt8)(fp:FuncId)(hp: ∀x∈xs,CallF Tryz.prog fp [GF,TF] [.rep (En.T x)] (.is (.string (bl (p x)))))(hn:xs.length<=64)(hl: ∀x∈xs,(p x).length<=400000000000):CallF Tryz.prog Z7E [GF,TF] [.rep (SlE En noS xs),.is (fv fp)] (.is (.string (bl (joinC (xs.map p))))):=
CallF.of (fn:=Tryz.f42) Tryz.func42 (n:=23) rfl rfl rfl (fun _ _=>by kernel_rfl) fun E W=>by
 refine J.openE (s:=0) rfl (fun ps a len cap b o hps hlen hlc ha=>?_);subst hps hlen;refine vQ ?_;refine Ja rfl (vP [0,1] ?_);refine Ja rfl (vP [0,1,5] ?_);refine Jm rfl (Jq (ZE Z3D rfl) (Jm rfl (vS [1,5,8,9,10] ?_)));apply yk
 repeat apply yQ
 refine J.loopG (α:=Nat×Option (Nat×List Value)×Nat) (fun z=>[(1,.is (fv fp)),(5,.is (sliceO z.2.1 (jT p (ps.map Cel.x) z.1).length z.2.2)),(8,.is (.slice a ps.length cap)),(9,.is (.int .i64 (ps.length:Nat))),(10,.is (.int .i64 (z.1:Nat)))]) (fun z=>ownO z.2.1 Zs []) (fun z=>fun _=>True) (fun z=>z.1<=ps.length/\Grows strC 1 (jT p (ps.map Cel.x) z.1) z.2.1 z.2.2) (fun z=>ps.length-z.1) (0,none,0) [1,5,8,9,10] (.cons rfl (.cons rfl (.cons rfl (.cons rfl (.cons rfl .nil))))) rfl (fun _=>trivial) ⟨by omega,rfl⟩ fun⟨i,st,cp⟩ ⟨hi,hG⟩=>?_;try dsimp only
 try dsimp only at st
 try dsimp only at cp
 try dsimp only at hi
 try dsimp only at hG
 refine vQ ?_;refine Jq (ZC rfl rfl) (vS [1,5,8,9,10,11] ?_);refine yC rfl (fun ht11=>?_) (fun ht11=>?_)
 try simp only[yd,yf]at ht11
 apply yK;refine vN ?_;apply yk;have hi64:ps.length<=64:=by first|exact hn|(rw[List.length_map]at hn;exact hn)
 have hxi:(ps.map Cel.x)[i]? =some (ps[i]'qM).x:=by rw[List.getElem?_map,List.getElem?_eq_getElem qM];rfl
 have hmx:(ps[i]'qM).x∈ps.map Cel.x:=List.mem_of_getElem? hxi;have hci:(ps[i]'qM).cs.length=4:=by rw[(ps[i]'qM).h,hs]
 refine vQ ?_;refine Jq (Z9 Z3C rfl (ha qM) rfl qM qM) ?_;refine Jq (Z3W (enc:=Cel.cs) (sz:=En.sz) (i:=i) (y:=ps[i]'qM) (cs:=(ps[i]'qM).cs) (by rw[hci];exact Z5o) rfl qI (ha qM) (List.getElem?_eq_getElem _) (by rw[hs];omega) rfl) ?_;refine JO.alloc Z6S rfl fun b7=>(JO.m (Z4 rfl rfl qU (by exact Zh rfl rfl) (by exact Zh (show(ps[i]'qM).cs.toArray.size=4 by rw[List.size_toArray];exact hci) (List.all_eq_true.2 fun u hu=>(ps[i]'qM).o u hu)) Z6P) (by rfl) ?_);refine vP [1,5,7,8,9,10] ?_;refine Jm rfl (Jm rfl (Jq (ZR (cs:=(ps[i]'qM).cs) Z5o rfl (by show((ps[i]'qM).cs.toArray.toList.drop 0).take 4=_;rw[List.drop_zero,List.toList_toArray,List.take_of_length_le qM]) hci) ?_));refine Jq (Z6w rfl (hp _ hmx) qF (.sub rfl (Sub.elT (ps:=ps) qI (List.getElem_mem _) (hv _).symm) .nil)) ?_;refine Jq (Zx (cs:=[_]) ZS qM qM (.cons rfl .nil) rfl rfl rfl) ?_;have hkl:(jT p (ps.map Cel.x) i).length=i:=by simp;omega
 refine JO.apO (ys:=[bl (p (ps[i]'qM).x)]) Z1i Z1j yV hG rfl rfl (fun L=>Z1M ZD rfl rfl) (by simp) (by rw[hkl];show(i+1)*16<=_;omega) (by rw[hkl];show i+1<=_;omega) rfl (fun st2 cp2 hG2=>?_);try dsimp only
 rw[<-Z1P hxi];refine Ja rfl (vP [1,5,8,9,10] ?_);refine Jq (Zv (cc:=((i+1:Nat):Int)) rfl rfl qM qM qM) ?_;refine Jm rfl ?_;apply yI
 repeat refine JX.normal_block ?_
 refine JX.roundG (x:=(i,st,cp)) (i+1,st2,cp2) ?_ ?_ [1,5,8,9,10] ?_ ?_ ?_ ?_
 · exact⟨by show i+1<=_;omega,by show Grows strC 1 (jT p (ps.map Cel.x) (i+1)) _ _;rw[Z1P hxi];exact hG2⟩
 · exact(by show ps.length-(i+1)<ps.length-i;omega)
 · exact qS
 · exact qH
 · exact qG
 · exact fun _ _ _=>fun _ _=>trivial
 try simp only[yd,yf]at ht11
 repeat apply yQ
 refine J.exit ?_
 repeat first|refine yH ?_|refine yM rfl ?_|refine yE ?_
 repeat first|apply yX|apply yB
 have hi64:ps.length<=64:=by first|exact hn|(rw[List.length_map]at hn;exact hn)
 have hix:i=(ps.map Cel.x).length:=by first|omega|(rw[List.length_map];omega)
 refine J.freezeO Z1j hG (e:=Zs) yV (fun _ h=>h) rfl rfl ?_;rw[hG.sl.1];refine vQ ?_;refine Jm rfl (Jq (Zo rfl (Z33 (jT p (ps.map Cel.x) i) ⟨#[44,32]⟩ (by simp;omega) (ZaQ hix hn hl)) (.sub rfl (Sub.strs qI hG.sl.2) qA)) ?_);refine Ja rfl (vS [4] ?_);refine vR ?_;exact JX.ret1is rfl rfl (by show Value.string (bl (Lib.join ((jT p (ps.map Cel.x) i).map (·.data.toList)) [44,32]))=_;rw[Z6B hix,Z50])
set_option maxHeartbeats 1000000 in
theorem Z8S{α:Type}(En:Enc α)(hs:En.sz=9)(hv: ∀cs,En.v cs= .agg cs.toArray)(xs:List α)(p:α->List UInt8)(fp:FuncId)(hp: ∀x∈xs,CallF Tryz.prog fp [GF,TF] [.rep (En.T x)] (.is (.string (bl (p x)))))(hn:xs.length<=64)(hl: ∀x∈xs,(p x).length<=400000000000):CallF Tryz.prog Z9b [GF,TF] [.rep (SlE En noS xs),.is (fv fp)] (.is (.string (bl (joinC (xs.map p))))):=
CallF.of (fn:=Tryz.f86) Tryz.func86 (n:=23) rfl rfl rfl (fun _ _=>by kernel_rfl) fun E W=>by
 refine J.openE (s:=0) rfl (fun ps a len cap b o hps hlen hlc ha=>?_);subst hps hlen;refine vQ ?_;refine Ja rfl (vP [0,1] ?_);refine Ja rfl (vP [0,1,5] ?_);refine Jm rfl (Jq (ZE Z36 rfl) (Jm rfl (vS [1,5,8,9,10] ?_)));apply yk
 repeat apply yQ
 refine J.loopG (α:=Nat×Option (Nat×List Value)×Nat) (fun z=>[(1,.is (fv fp)),(5,.is (sliceO z.2.1 (jT p (ps.map Cel.x) z.1).length z.2.2)),(8,.is (.slice a ps.length cap)),(9,.is (.int .i64 (ps.length:Nat))),(10,.is (.int .i64 (z.1:Nat)))]) (fun z=>ownO z.2.1 Zs []) (fun z=>fun _=>True) (fun z=>z.1<=ps.length/\Grows strC 1 (jT p (ps.map Cel.x) z.1) z.2.1 z.2.2) (fun z=>ps.length-z.1) (0,none,0) [1,5,8,9,10] (.cons rfl (.cons rfl (.cons rfl (.cons rfl (.cons rfl .nil))))) rfl (fun _=>trivial) ⟨by omega,rfl⟩ fun⟨i,st,cp⟩ ⟨hi,hG⟩=>?_;try dsimp only
 try dsimp only at st
 try dsimp only at cp
 try dsimp only at hi
 try dsimp only at hG
 refine vQ ?_;refine Jq (ZC rfl rfl) (vS [1,5,8,9,10,11] ?_);refine yC rfl (fun ht11=>?_) (fun ht11=>?_)
 try simp only[yd,yf]at ht11
 apply yK;refine vN ?_;apply yk;have hi64:ps.length<=64:=by first|exact hn|(rw[List.length_map]at hn;exact hn)
 have hxi:(ps.map Cel.x)[i]? =some (ps[i]'qM).x:=by rw[List.getElem?_map,List.getElem?_eq_getElem qM];rfl
 have hmx:(ps[i]'qM).x∈ps.map Cel.x:=List.mem_of_getElem? hxi;have hci:(ps[i]'qM).cs.length=9:=by rw[(ps[i]'qM).h,hs]
 refine vQ ?_;refine Jq (Z9 Z45 rfl (ha qM) rfl qM qM) ?_;refine Jq (Z3W (enc:=Cel.cs) (sz:=En.sz) (i:=i) (y:=ps[i]'qM) (cs:=(ps[i]'qM).cs) (by rw[hci];exact Z3V) rfl qI (ha qM) (List.getElem?_eq_getElem _) (by rw[hs];omega) rfl) ?_;refine JO.alloc Z6p rfl fun b7=>(JO.m (Z4 rfl rfl qU (by exact Zh rfl rfl) (by exact Zh (show(ps[i]'qM).cs.toArray.size=9 by rw[List.size_toArray];exact hci) (List.all_eq_true.2 fun u hu=>(ps[i]'qM).o u hu)) Z4z) (by rfl) ?_);refine vP [1,5,7,8,9,10] ?_;refine Jm rfl (Jm rfl (Jq (ZR (cs:=(ps[i]'qM).cs) Z3V rfl (by show((ps[i]'qM).cs.toArray.toList.drop 0).take 9=_;rw[List.drop_zero,List.toList_toArray,List.take_of_length_le qM]) hci) ?_));refine Jq (Z6w rfl (hp _ hmx) qF (.sub rfl (Sub.elT (ps:=ps) qI (List.getElem_mem _) (hv _).symm) .nil)) ?_;refine Jq (Zx (cs:=[_]) ZS qM qM (.cons rfl .nil) rfl rfl rfl) ?_;have hkl:(jT p (ps.map Cel.x) i).length=i:=by simp;omega
 refine JO.apO (ys:=[bl (p (ps[i]'qM).x)]) Z1i Z1j yV hG rfl rfl (fun L=>Z1M ZD rfl rfl) (by simp) (by rw[hkl];show(i+1)*16<=_;omega) (by rw[hkl];show i+1<=_;omega) rfl (fun st2 cp2 hG2=>?_);try dsimp only
 rw[<-Z1P hxi];refine Ja rfl (vP [1,5,8,9,10] ?_);refine Jq (Zv (cc:=((i+1:Nat):Int)) rfl rfl qM qM qM) ?_;refine Jm rfl ?_;apply yI
 repeat refine JX.normal_block ?_
 refine JX.roundG (x:=(i,st,cp)) (i+1,st2,cp2) ?_ ?_ [1,5,8,9,10] ?_ ?_ ?_ ?_
 · exact⟨by show i+1<=_;omega,by show Grows strC 1 (jT p (ps.map Cel.x) (i+1)) _ _;rw[Z1P hxi];exact hG2⟩
 · exact(by show ps.length-(i+1)<ps.length-i;omega)
 · exact qS
 · exact qH
 · exact qG
 · exact fun _ _ _=>fun _ _=>trivial
 try simp only[yd,yf]at ht11
 repeat apply yQ
 refine J.exit ?_
 repeat first|refine yH ?_|refine yM rfl ?_|refine yE ?_
 repeat first|apply yX|apply yB
 have hi64:ps.length<=64:=by first|exact hn|(rw[List.length_map]at hn;exact hn)
 have hix:i=(ps.map Cel.x).length:=by first|omega|(rw[List.length_map];omega)
 refine J.freezeO Z1j hG (e:=Zs) yV (fun _ h=>h) rfl rfl ?_;rw[hG.sl.1];refine vQ ?_;refine Jm rfl (Jq (Zo rfl (Z33 (jT p (ps.map Cel.x) i) ⟨#[44,32]⟩ (by simp;omega) (ZaQ hix hn hl)) (.sub rfl (Sub.strs qI hG.sl.2) qA)) ?_);refine Ja rfl (vS [4] ?_);refine vR ?_;exact JX.ret1is rfl rfl (by show Value.string (bl (Lib.join ((jT p (ps.map Cel.x) i).map (·.data.toList)) [44,32]))=_;rw[Z6B hix,Z50])
set_option maxHeartbeats 1000000 in
theorem Z9v{α:Type}(En:Enc α)(hs:En.sz=9)(hv: ∀cs,En.v cs= .agg cs.toArray)(xs:List α)(p:α->List UInt8)(fp:FuncId)(hp: ∀x∈xs,CallF Tryz.prog fp [GF,TF] [.rep (En.T x)] (.is (.string (bl (p x)))))(hn:xs.length<=64)(hl: ∀x∈xs,(p x).length<=400000000000):CallF Tryz.prog Z9H [GF,TF] [.rep (SlE En noS xs),.is (fv fp)] (.is (.string (bl (joinC (xs.map p))))):=
CallF.of (fn:=Tryz.f88) Tryz.func88 (n:=23) rfl rfl rfl (fun _ _=>by kernel_rfl) fun E W=>by
 refine J.openE (s:=0) rfl (fun ps a len cap b o hps hlen hlc ha=>?_);subst hps hlen;refine vQ ?_;refine Ja rfl (vP [0,1] ?_);refine Ja rfl (vP [0,1,5] ?_);refine Jm rfl (Jq (ZE Z2X rfl) (Jm rfl (vS [1,5,8,9,10] ?_)));apply yk
 repeat apply yQ
 refine J.loopG (α:=Nat×Option (Nat×List Value)×Nat) (fun z=>[(1,.is (fv fp)),(5,.is (sliceO z.2.1 (jT p (ps.map Cel.x) z.1).length z.2.2)),(8,.is (.slice a ps.length cap)),(9,.is (.int .i64 (ps.length:Nat))),(10,.is (.int .i64 (z.1:Nat)))]) (fun z=>ownO z.2.1 Zs []) (fun z=>fun _=>True) (fun z=>z.1<=ps.length/\Grows strC 1 (jT p (ps.map Cel.x) z.1) z.2.1 z.2.2) (fun z=>ps.length-z.1) (0,none,0) [1,5,8,9,10] (.cons rfl (.cons rfl (.cons rfl (.cons rfl (.cons rfl .nil))))) rfl (fun _=>trivial) ⟨by omega,rfl⟩ fun⟨i,st,cp⟩ ⟨hi,hG⟩=>?_;try dsimp only
 try dsimp only at st
 try dsimp only at cp
 try dsimp only at hi
 try dsimp only at hG
 refine vQ ?_;refine Jq (ZC rfl rfl) (vS [1,5,8,9,10,11] ?_);refine yC rfl (fun ht11=>?_) (fun ht11=>?_)
 try simp only[yd,yf]at ht11
 apply yK;refine vN ?_;apply yk;have hi64:ps.length<=64:=by first|exact hn|(rw[List.length_map]at hn;exact hn)
 have hxi:(ps.map Cel.x)[i]? =some (ps[i]'qM).x:=by rw[List.getElem?_map,List.getElem?_eq_getElem qM];rfl
 have hmx:(ps[i]'qM).x∈ps.map Cel.x:=List.mem_of_getElem? hxi;have hci:(ps[i]'qM).cs.length=9:=by rw[(ps[i]'qM).h,hs]
 refine vQ ?_;refine Jq (Z9 Z4r rfl (ha qM) rfl qM qM) ?_;refine Jq (Z3W (enc:=Cel.cs) (sz:=En.sz) (i:=i) (y:=ps[i]'qM) (cs:=(ps[i]'qM).cs) (by rw[hci];exact Z2V) rfl qI (ha qM) (List.getElem?_eq_getElem _) (by rw[hs];omega) rfl) ?_;refine JO.alloc Z4Y rfl fun b7=>(JO.m (Z4 rfl rfl qU (by exact Zh rfl rfl) (by exact Zh (show(ps[i]'qM).cs.toArray.size=9 by rw[List.size_toArray];exact hci) (List.all_eq_true.2 fun u hu=>(ps[i]'qM).o u hu)) Z3Q) (by rfl) ?_);refine vP [1,5,7,8,9,10] ?_;refine Jm rfl (Jm rfl (Jq (ZR (cs:=(ps[i]'qM).cs) Z2V rfl (by show((ps[i]'qM).cs.toArray.toList.drop 0).take 9=_;rw[List.drop_zero,List.toList_toArray,List.take_of_length_le qM]) hci) ?_));refine Jq (Z6w rfl (hp _ hmx) qF (.sub rfl (Sub.elT (ps:=ps) qI (List.getElem_mem _) (hv _).symm) .nil)) ?_;refine Jq (Zx (cs:=[_]) ZS qM qM (.cons rfl .nil) rfl rfl rfl) ?_;have hkl:(jT p (ps.map Cel.x) i).length=i:=by simp;omega
 refine JO.apO (ys:=[bl (p (ps[i]'qM).x)]) Z1i Z1j yV hG rfl rfl (fun L=>Z1M ZD rfl rfl) (by simp) (by rw[hkl];show(i+1)*16<=_;omega) (by rw[hkl];show i+1<=_;omega) rfl (fun st2 cp2 hG2=>?_);try dsimp only
 rw[<-Z1P hxi];refine Ja rfl (vP [1,5,8,9,10] ?_);refine Jq (Zv (cc:=((i+1:Nat):Int)) rfl rfl qM qM qM) ?_;refine Jm rfl ?_;apply yI
 repeat refine JX.normal_block ?_
 refine JX.roundG (x:=(i,st,cp)) (i+1,st2,cp2) ?_ ?_ [1,5,8,9,10] ?_ ?_ ?_ ?_
 · exact⟨by show i+1<=_;omega,by show Grows strC 1 (jT p (ps.map Cel.x) (i+1)) _ _;rw[Z1P hxi];exact hG2⟩
 · exact(by show ps.length-(i+1)<ps.length-i;omega)
 · exact qS
 · exact qH
 · exact qG
 · exact fun _ _ _=>fun _ _=>trivial
 try simp only[yd,yf]at ht11
 repeat apply yQ
 refine J.exit ?_
 repeat first|refine yH ?_|refine yM rfl ?_|refine yE ?_
 repeat first|apply yX|apply yB
 have hi64:ps.length<=64:=by first|exact hn|(rw[List.length_map]at hn;exact hn)
 have hix:i=(ps.map Cel.x).length:=by first|omega|(rw[List.length_map];omega)
 refine J.freezeO Z1j hG (e:=Zs) yV (fun _ h=>h) rfl rfl ?_;rw[hG.sl.1];refine vQ ?_;refine Jm rfl (Jq (Zo rfl (Z33 (jT p (ps.map Cel.x) i) ⟨#[44,32]⟩ (by simp;omega) (ZaQ hix hn hl)) (.sub rfl (Sub.strs qI hG.sl.2) qA)) ?_);refine Ja rfl (vS [4] ?_);refine vR ?_;exact JX.ret1is rfl rfl (by show Value.string (bl (Lib.join ((jT p (ps.map Cel.x) i).map (·.data.toList)) [44,32]))=_;rw[Z6B hix,Z50])
set_option maxHeartbeats 1000000 in
theorem Z4P{α:Type}(En:Enc α)(hs:En.sz=1)(hv: ∀cs,En.v cs=hdv cs)(xs:List α)(p:α->List UInt8)(fp:FuncId)(hp: ∀x∈xs,CallF Tryz.prog fp [GF,TF] [.rep (En.T x)] (.is (.string (bl (p x)))))(hn:xs.length<=64)(hl: ∀x∈xs,(p x).length<=400000000000):CallF Tryz.prog Z7o [GF,TF] [.rep (SlE En noS xs),.is (fv fp)] (.is (.string (bl (joinC (xs.map p))))):=
CallF.of (fn:=Tryz.f83) Tryz.func83 (n:=23) rfl rfl rfl (fun _ _=>by kernel_rfl) fun E W=>by
 refine J.openE (s:=0) rfl (fun ps a len cap b o hps hlen hlc ha=>?_);subst hps hlen;refine vQ ?_;refine Ja rfl (vP [0,1] ?_);refine Ja rfl (vP [0,1,5] ?_);refine Jm rfl (Jq (ZE Z2l rfl) (Jm rfl (vS [1,5,8,9,10] ?_)));apply yk
 repeat apply yQ
 refine J.loopG (α:=Nat×Option (Nat×List Value)×Nat) (fun z=>[(1,.is (fv fp)),(5,.is (sliceO z.2.1 (jT p (ps.map Cel.x) z.1).length z.2.2)),(8,.is (.slice a ps.length cap)),(9,.is (.int .i64 (ps.length:Nat))),(10,.is (.int .i64 (z.1:Nat)))]) (fun z=>ownO z.2.1 Zs []) (fun z=>fun _=>True) (fun z=>z.1<=ps.length/\Grows strC 1 (jT p (ps.map Cel.x) z.1) z.2.1 z.2.2) (fun z=>ps.length-z.1) (0,none,0) [1,5,8,9,10] (.cons rfl (.cons rfl (.cons rfl (.cons rfl (.cons rfl .nil))))) rfl (fun _=>trivial) ⟨by omega,rfl⟩ fun⟨i,st,cp⟩ ⟨hi,hG⟩=>?_;try dsimp only
 try dsimp only at st
 try dsimp only at cp
 try dsimp only at hi
 try dsimp only at hG
 refine vQ ?_;refine Jq (ZC rfl rfl) (vS [1,5,8,9,10,11] ?_);refine yC rfl (fun ht11=>?_) (fun ht11=>?_)
 try simp only[yd,yf]at ht11
 apply yK;refine vN ?_;apply yk;have hi64:ps.length<=64:=by first|exact hn|(rw[List.length_map]at hn;exact hn)
 have hxi:(ps.map Cel.x)[i]? =some (ps[i]'qM).x:=by rw[List.getElem?_map,List.getElem?_eq_getElem qM];rfl
 have hmx:(ps[i]'qM).x∈ps.map Cel.x:=List.mem_of_getElem? hxi;have hci:(ps[i]'qM).cs.length=1:=by rw[(ps[i]'qM).h,hs]
 refine vQ ?_;refine Jq (Z9 Z3t rfl (ha qM) rfl qM qM) ?_;refine Jq (ZK (enc:=Cel.cs) (sz:=En.sz) (i:=i) (j:=0) (y:=ps[i]'qM) (u:=hdv (ps[i]'qM).cs) Zk rfl qI (ha qM) (List.getElem?_eq_getElem _) (by rw[hs];omega) (ZmP hci)) ?_;refine Ja rfl (vP [1,5,7,8,9,10] ?_);refine Jm rfl (Jm rfl (Jm rfl (Jq (Z6w rfl (hp _ hmx) qF (.sub rfl (Sub.elT (ps:=ps) qI (List.getElem_mem _) (hv _).symm) .nil)) ?_)));refine Jq (Zx (cs:=[_]) ZS qM qM (.cons rfl .nil) rfl rfl rfl) ?_;have hkl:(jT p (ps.map Cel.x) i).length=i:=by simp;omega
 refine JO.apO (ys:=[bl (p (ps[i]'qM).x)]) Z1i Z1j yV hG rfl rfl (fun L=>Z1M ZD rfl rfl) (by simp) (by rw[hkl];show(i+1)*16<=_;omega) (by rw[hkl];show i+1<=_;omega) rfl (fun st2 cp2 hG2=>?_);try dsimp only
 rw[<-Z1P hxi];refine Ja rfl (vP [1,5,8,9,10] ?_);refine Jq (Zv (cc:=((i+1:Nat):Int)) rfl rfl qM qM qM) ?_;refine Jm rfl ?_;apply yI
 repeat refine JX.normal_block ?_
 refine JX.roundG (x:=(i,st,cp)) (i+1,st2,cp2) ?_ ?_ [1,5,8,9,10] ?_ ?_ ?_ ?_
 · exact⟨by show i+1<=_;omega,by show Grows strC 1 (jT p (ps.map Cel.x) (i+1)) _ _;rw[Z1P hxi];exact hG2⟩
 · exact(by show ps.length-(i+1)<ps.length-i;omega)
 · exact qS
 · exact qH
 · exact qG
 · exact fun _ _ _=>fun _ _=>trivial
 try simp only[yd,yf]at ht11
 repeat apply yQ
 refine J.exit ?_
 repeat first|refine yH ?_|refine yM rfl ?_|refine yE ?_
 repeat first|apply yX|apply yB
 have hi64:ps.length<=64:=by first|exact hn|(rw[List.length_map]at hn;exact hn)
 have hix:i=(ps.map Cel.x).length:=by first|omega|(rw[List.length_map];omega)
 refine J.freezeO Z1j hG (e:=Zs) yV (fun _ h=>h) rfl rfl ?_;rw[hG.sl.1];refine vQ ?_;refine Jm rfl (Jq (Zo rfl (Z33 (jT p (ps.map Cel.x) i) ⟨#[44,32]⟩ (by simp;omega) (ZaQ hix hn hl)) (.sub rfl (Sub.strs qI hG.sl.2) qA)) ?_);refine Ja rfl (vS [4] ?_);refine vR ?_;exact JX.ret1is rfl rfl (by show Value.string (bl (Lib.join ((jT p (ps.map Cel.x) i).map (·.data.toList)) [44,32]))=_;rw[Z6B hix,Z50])
end Go.Proofs.YtbedigkncjbggaaGreatDoor
set_option maxRecDepth 20000
namespace Go.Proofs.YtbedigkncjbggaaGreatDoor
open Go Go.Vc Go.Pz
def GE(x:Ex):Prop:=Wf nmOk x/\ect x<=4096
theorem GE.len{x:Ex}(h:GE x):(prE x).length<=20500000:=Z72 h.1 h.2
structure GoodS (s:Pz.St):Prop where
 tb:s.tb.data.toList.length<=2048
 nm:s.nm.data.toList.length<=2048
 cols: ∀c∈s.cols,wfCol nmOk c
 ncols:s.cols.length<=64
 names: ∀n∈s.names,nmOk n
 nnames:s.names.length<=64
 rows: ∀r∈s.rows,r.length<=64/\ ∀x∈r,GE x
 nrows:s.rows.length<=64
 items: ∀i∈s.items,i.all=true\/(i.all=false/\GE i.ex)
 nitems:s.items.length<=64
 from_: ∀j∈s.from_,wfSrc nmOk j/\j.on.length<=64/\ ∀x∈j.on,GE x
 nfrom:s.from_.length<=64
 where_: ∀x∈s.where_,GE x
 nwhere:s.where_.length<=64
 group: ∀x∈s.group,GE x
 ngroup:s.group.length<=64
 order: ∀k∈s.order,GE k.ex
 norder:s.order.length<=64
 sets: ∀x∈s.sets,GE x
 nsets:s.sets.length=s.names.length\/s.kind≠5
 nset:s.sets.length<=64
 lim: -1<=s.limit/\s.limit<=9223372036854775807
theorem Z6H{α:Type}{m:Nat}{W:α->Prop}{l:List α}(h:l=[]\/wfL m W l)(hm:m<=64):l.length<=64/\ ∀x∈l,W x:=by
 rcases h with rfl|h
 · exact⟨Nat.zero_le _,fun x hx=>by cases hx⟩
 · exact⟨Nat.le_trans h.2.1 hm,h.2.2⟩
theorem Zcx{l:List Ex}(h:wfWh nmOk l):l.length<=64/\ ∀x∈l,Wf nmOk x:=by
 rcases h with rfl|⟨x,rfl,hx⟩
 · exact⟨Nat.zero_le _,fun x hx=>by cases hx⟩
 · exact⟨by simp,fun y hy=>by rw[List.mem_singleton.1 hy];exact hx⟩
theorem ZlS{s:Pz.St}(h:WfS nmOk s)(he: ∀x∈exsOf s,ect x<=4096):GoodS s:=by
 have nd: ∀{α:Type} {Q:α->Prop},∀x∈([]:List α),Q x:=fun x hx=>by cases hx
 have z0:(em:ByteArray).data.toList.length<=2048:=by decide
 cases h with
 | @tab tb cols h hc=>
   obtain⟨c1,c2⟩:=Z6H (.inr hc) qD;exact⟨Z1y h,z0,c2,c1,nd,Nat.zero_le _,nd,Nat.zero_le _,nd,Nat.zero_le _,nd,Nat.zero_le _,nd,Nat.zero_le _,nd,Nat.zero_le _,nd,Nat.zero_le _,nd,.inl rfl,Nat.zero_le _,by show-1<=(-1:Int)/\(-1:Int)<=_;decide⟩
 | @idx nm tb m hash h1 h2 h3=>
   exact⟨Z1y h2,Z1y h1,nd,Nat.zero_le _,fun n hn=>by rw[List.mem_singleton.1 hn];exact h3,(by show 1<=64;decide),nd,Nat.zero_le _,nd,Nat.zero_le _,nd,Nat.zero_le _,nd,Nat.zero_le _,nd,Nat.zero_le _,nd,Nat.zero_le _,nd,.inr (by show(2:Int)≠5;decide),Nat.zero_le _,by show-1<=(-1:Int)/\(-1:Int)<=_;decide⟩
 | @ins tb names rows h hn hr=>
   obtain⟨c1,c2⟩:=Z6H hn qD;obtain⟨r1,r2⟩:=Z6H (.inr hr) qD;refine⟨Z1y h,z0,nd,Nat.zero_le _,c2,c1,fun r hr'=>?_,r1,nd,Nat.zero_le _,nd,Nat.zero_le _,nd,Nat.zero_le _,nd,Nat.zero_le _,nd,Nat.zero_le _,nd,.inr (by show(3:Int)≠5;decide),Nat.zero_le _,by show-1<=(-1:Int)/\(-1:Int)<=_;decide⟩;have h3:=Z6H (.inr (r2 r hr')) qD;refine⟨h3.1,fun x hx=>⟨h3.2 x hx,he x ?_⟩⟩;simp only[exsOf,List.mem_append,List.mem_flatten];exact .inl (.inl (.inl (.inl (.inl (.inl ⟨r,hr',hx⟩)))))
 | @sel items s js wh gr od lim hi hs hs0 hj hj3 hw hg ho hl=>
   obtain⟨i1,i2⟩:=Z6H (.inr hi) qD;obtain⟨w1,w2⟩:=Zcx hw;obtain⟨g1,g2⟩:=Z6H hg qD;obtain⟨o1,o2⟩:=Z6H ho qD;have hmem: ∀x,((∃i∈items,i.ex=x)\/(∃j∈s::js,x∈j.on)\/(∃k∈od,k.ex=x)\/x∈wh\/x∈gr)->ect x<=4096:=fun x hx=>he x (by
     simp only[exsOf,List.mem_append,List.mem_flatten,List.mem_map];rcases hx with hx|⟨j,hj,hx⟩|hx|hx|hx
     · exact .inl (.inl (.inl (.inl (.inl (.inr hx)))))
     · exact .inl (.inl (.inl (.inl (.inr ⟨j.on,⟨j,hj,rfl⟩,hx⟩))))
     · exact .inl (.inl (.inl (.inr hx)))
     · exact .inl (.inl (.inr hx))
     · exact .inl (.inr hx))
   refine⟨z0,z0,nd,Nat.zero_le _,nd,Nat.zero_le _,nd,Nat.zero_le _,fun i hi'=>?_,i1,fun j hj'=>?_,(by show js.length+1<=64;omega),fun x hx=>⟨w2 x hx,hmem x (.inr (.inr (.inr (.inl hx))))⟩,w1,fun x hx=>⟨g2 x hx,hmem x (.inr (.inr (.inr (.inr hx))))⟩,g1,fun k hk=>⟨o2 k hk,hmem _ (.inr (.inr (.inl ⟨k,hk,rfl⟩)))⟩,o1,nd,.inr (by show(4:Int)≠5;decide),Nat.zero_le _,?_⟩
   · rcases i2 i hi' with h|h
     · exact .inl h.1
     · exact .inr ⟨h.1,h.2,hmem _ (.inl ⟨i,hi',rfl⟩)⟩
   · rcases List.mem_cons.1 hj' with rfl|hj2
     · exact⟨hs,by rw[hs0];exact Nat.zero_le _,by rw[hs0];exact nd⟩
     · obtain⟨h1,x,h2,hx⟩:=hj j hj2
       refine⟨h1,by rw[h2];show 1<=64;decide,fun y hy=>⟨?_,hmem y (.inr (.inl ⟨j,hj',hy⟩))⟩⟩;rw[h2]at hy;rw[List.mem_singleton.1 hy];exact hx
   · show-1<=lim/\lim<=_
     omega
 | @upd tb l wh h hl hw=>
   obtain⟨l1,l2⟩:=Z6H (.inr hl) qD;obtain⟨w1,w2⟩:=Zcx hw;refine⟨Z1y h,z0,nd,Nat.zero_le _,fun n hn=>?_,(by show(l.map (·.1)).length<=64;rw[List.length_map];exact l1),nd,Nat.zero_le _,nd,Nat.zero_le _,nd,Nat.zero_le _,fun x hx=>⟨w2 x hx,he x ?_⟩,w1,nd,Nat.zero_le _,nd,Nat.zero_le _,fun x hx=>⟨?_,he x ?_⟩,.inl (by show(l.map (·.2)).length=(l.map (·.1)).length;simp),(by show(l.map (·.2)).length<=64;rw[List.length_map];exact l1),by show-1<=(-1:Int)/\(-1:Int)<=_;decide⟩
   · obtain⟨p,hp,rfl⟩:=List.mem_map.1 hn;exact(l2 p hp).1
   · simp only[exsOf,List.mem_append];exact .inl (.inl (.inr hx))
   · obtain⟨p,hp,rfl⟩:=List.mem_map.1 hx;exact(l2 p hp).2
   · simp only[exsOf,List.mem_append];exact .inr hx
 | @del tb wh h hw=>
   obtain⟨w1,w2⟩:=Zcx hw;refine⟨Z1y h,z0,nd,Nat.zero_le _,nd,Nat.zero_le _,nd,Nat.zero_le _,nd,Nat.zero_le _,nd,Nat.zero_le _,fun x hx=>⟨w2 x hx,he x ?_⟩,w1,nd,Nat.zero_le _,nd,Nat.zero_le _,nd,.inl rfl,Nat.zero_le _,by show-1<=(-1:Int)/\(-1:Int)<=_;decide⟩;simp only[exsOf,List.mem_append];exact .inl (.inl (.inr hx))
 | @pl k h=>
   exact⟨z0,z0,nd,Nat.zero_le _,nd,Nat.zero_le _,nd,Nat.zero_le _,nd,Nat.zero_le _,nd,Nat.zero_le _,nd,Nat.zero_le _,nd,Nat.zero_le _,nd,Nat.zero_le _,nd,.inl rfl,Nat.zero_le _,by show-1<=(-1:Int)/\(-1:Int)<=_;decide⟩
theorem jl{α:Type}{p:α->List UInt8}{l:List α}{m:Nat}(hn:l.length<=64)(h: ∀x∈l,(p x).length<=m):(joinC (l.map p)).length<=64*(m+2):=by
 have h2: ∀xs:List (List UInt8),(∀x∈xs,x.length<=m)->(xs.flatMap fun y=>44::32::y).length<=xs.length*(m+2):=fun xs=>by
   induction xs with
   |nil=>exact fun _=>Nat.zero_le _
   |cons y ys ih=>
     intro h;have h3:=h y List.mem_cons_self;have h4:=ih fun z hz=>h z (List.mem_cons_of_mem _ hz);rw[List.flatMap_cons,List.length_append,List.length_cons,List.length_cons,List.length_cons,Nat.add_mul]
     omega
 cases l with
 |nil=>exact Nat.zero_le _
 |cons x xs=>
   have h5:=h x List.mem_cons_self;have h6:=h2 (xs.map p) fun z hz=>by obtain⟨y,hy,rfl⟩:=List.mem_map.1 hz;exact h y (List.mem_cons_of_mem _ hy)
   rw[List.length_map]at h6;have h7:xs.length+1<=64:=hn;have h8:(xs.length+1)*(m+2)<=64*(m+2):=Nat.mul_le_mul_right _ h7;rw[Nat.add_mul]at h8;show(p x++_).length<=_;rw[List.length_append]
   omega
theorem Z6f{c:Col}(h:wfCol nmOk c):(txC c).length<=5000:=by
 have h1:=Z1y h.1;have h2:(txTy c.ty).length<=10:=by
   unfold txTy typW
   repeat' split
   all_goals decide
 unfold txC;rw[List.length_append,List.length_append,List.length_append];have h3:(if c.nn then 32::kNN else[]).length<=10:=by split<;>decide
 have h4:(if c.un then 32::kUN else[]).length<=10:=by split<;>decide
 omega
theorem Z4b{i:Itm}(h:i.all=true\/(i.all=false/\GE i.ex)):(txItm i).length<=20500000:=by
 unfold txItm;rcases h with h|⟨h,h2⟩
 · rw[if_pos h];decide
 · rw[if_neg (by rw[h];simp)];exact h2.len
theorem Z4K{k:Ky}(h:GE k.ex):(txKy k).length<=20500010:=by
 unfold txKy;rw[List.length_append];have h1:=h.len;have h2:(if k.desc then 32::kDE else[]).length<=10:=by split<;>decide
 omega
theorem Z5D{r:List Ex}(h:r.length<=64/\ ∀x∈r,GE x):(txR r).length<=1400000000:=by
 have:=jl (p:=prE) h.1 fun x hx=>(h.2 x hx).len;unfold txR;rw[List.length_cons,List.length_append,List.length_singleton]
 omega
theorem Z84{p:ByteArray×Ex}(h:nmOk p.1)(h2:GE p.2):(txSet p).length<=20510000:=by
 have h3:=Z1y h;have h4:=h2.len;unfold txSet;simp only[List.length_append,List.length_cons,List.length_nil]
 omega
theorem Z2S{w:List UInt8}{l:List Ex}(hw:w.length<=10)(hn:l.length<=64)(h: ∀x∈l,GE x):(txCl w l).length<=1400000000:=by
 have:=jl (p:=prE) hn fun x hx=>(h x hx).len;unfold txCl
 split
 · exact Nat.zero_le _
 · simp only[List.length_append,List.length_cons];omega
theorem Zi8{j:Pz.Src}(h:wfSrc nmOk j):(txSrc j).length<=5000:=by
 have h1:=Z1y h.1;have h2:=Z1y h.2;unfold txSrc
 split
 · rw[List.length_append,List.length_nil];omega
 · simp only[List.length_append,List.length_cons,List.length_nil];omega
def frI(l:List Pz.Src)(i:Nat):List UInt8:=txFr (l.take i)
theorem Zgb{l:List Pz.Src}{i:Nat}{x:Pz.Src}(h:l[i]? =some x):frI l (i+1)=frI l i++((if 0<i then 32::(kJO++[32])else[])++(txSrc x++txCl kON x.on)):=by
 unfold frI;rw[List.take_add_one,h,Option.toList_some];cases l with
 |nil=>cases h
 |cons s js=>
   cases i with
   |zero=>
     injection h with h;subst h
     show txFr [s]=_
     simp[txFr]
   |succ i=>
     rw[List.take_succ_cons];show(txSrc s++txCl kON s.on)++(js.take i++[x]).flatMap txJ=((txSrc s++txCl kON s.on)++(js.take i).flatMap txJ)++_;rw[if_pos (Nat.succ_pos i),List.flatMap_append]
     simp[txJ]
theorem Zl0{l:List Pz.Src}(h: ∀j∈l,wfSrc nmOk j/\j.on.length<=64/\ ∀x∈j.on,GE x)(M:Nat)(hM:1500000000<=M)(i:Nat):(frI l i).length<=i*M:=by
 induction i with
 |zero=>show(txFr (l.take 0)).length<=_;rw[List.take_zero];exact Nat.zero_le _
 |succ i ih=>
   rw[Nat.add_mul,Nat.one_mul]
   generalize i*M=q at ih
   cases hx:l[i]? with
   |none=>
     have:frI l (i+1)=frI l i:=by unfold frI;rw[List.take_add_one,hx,Option.toList_none,List.append_nil]
     rw[this];omega
   |some x=>
     have hm:=h x (List.mem_of_getElem? hx);have h1:=Zi8 hm.1;have h2:=Z2S (w:=kON) qD hm.2.1 hm.2.2;have h3:(if 0<i then 32::(kJO++[32])else[]).length<=10:=by split<;>decide
     rw[Zgb hx,List.length_append,List.length_append,List.length_append]
     omega
theorem Zmi{l:List Pz.Src}(h: ∀j∈l,wfSrc nmOk j/\j.on.length<=64/\ ∀x∈j.on,GE x){i:Nat}(hi:i<=64):(frI l i).length<=100000000000:=by
 have h1:=Zl0 h 1500000000 (Nat.le_refl _) i;have h2:i*1500000000<=64*1500000000:=Nat.mul_le_mul_right _ hi
 omega
end Go.Proofs.YtbedigkncjbggaaGreatDoor
namespace Go.Pz
open Go Go.Vc
def SmS(s:St):Prop:=s.rows.length<=32/\(∀r∈s.rows,r.length<=16)/\s.items.length<=16/\s.from_.length<=4/\(∀f∈s.from_,f.on.length<=1)/\s.order.length<=16/\s.where_.length<=1/\s.group.length<=16/\s.sets.length<=16/\s.cols.length<=16/\s.names.length<=16
theorem Z5z{α:Type}{most:Nat}{p:Ps α}{ts:List T3}{z:List α×List T3}(h:listP most p ts=some z):z.1.length<=most:=by
 obtain⟨w,h1,h2⟩:=bnd h;obtain⟨y,h3,h4⟩:=bnd h2
 split at h4
 · injection h4 with h4;subst h4;simpa using ‹_›
 · cases h4
theorem Zir{α:Type}{F:α->Prop}{most:Nat}{p:Ps α}(hp: ∀ts z,p ts=some z->F z.1){ts:List T3}{z:List α×List T3}(h:listP most p ts=some z): ∀x∈z.1,F x:=by
 have key: ∀n ts z,listG p n ts=some z->∀x∈z.1,F x:=by
   intro n
   induction n with
   |zero=>intro ts z h;rw[listG]at h;injection h with h;subst h;intro x hx;cases hx
   |succ n ih=>
     intro ts z h;rw[listG]at h
     split at h
     · obtain⟨w,h1,h2⟩:=bnd h
       obtain⟨y,h3,rfl⟩:=mpd h2;intro x hx;rcases List.mem_cons.1 hx with rfl|hx
       · exact hp _ _ h1
       · exact ih _ _ h3 x hx
     · injection h with h;subst h;intro x hx;cases hx
 obtain⟨w,h1,h2⟩:=bnd h;obtain⟨y,h3,h4⟩:=bnd h2
 split at h4
 · injection h4 with h4;subst h4
   intro x hx;rcases List.mem_cons.1 hx with rfl|hx
   · exact hp _ _ h1
   · exact key _ _ _ h3 x hx
 · cases h4
theorem Z8f{α:Type}{p:Ps α}{ts:List T3}{z:List α×List T3}(h:withinP p ts=some z):z.1.length<=16:=by
 obtain⟨a,h1,h2⟩:=bnd h;obtain⟨l,h3,h4⟩:=bnd h2;obtain⟨v,h5,rfl⟩:=mpd h4;exact Z5z (z:=l) h3
theorem Z9t{e:Ps Ex}{ts:List T3}{z:List Ex×List T3}(h:whereP e ts=some z):z.1.length<=1:=by
 unfold whereP at h
 split at h
 · obtain⟨v,h5,rfl⟩:=mpd h;exact Nat.le_refl _
 · injection h with h;subst h;exact Nat.zero_le _
theorem Zhy{e:Ps Ex}: ∀n ts z,joinsG e n ts=some z->∀s∈z.1,s.on.length<=1:=by
 intro n
 induction n with
 |zero=>intro ts z h;rw[joinsG]at h;injection h with h;subst h;intro x hx;cases hx
 |succ n ih=>
   intro ts z h;rw[joinsG]at h
   split at h
   · obtain⟨w,h1,h2⟩:=bnd h
     obtain⟨y,h3,rfl⟩:=mpd h2;intro v hv;rcases List.mem_cons.1 hv with rfl|hv
     · obtain⟨a,g1,g2⟩:=bnd h1
       obtain⟨s,g3,g4⟩:=bnd g2;obtain⟨b,g5,g6⟩:=bnd g4;obtain⟨x,g7,g8⟩:=mpd g6;subst g8;exact Nat.le_refl _
     · exact ih _ _ h3 v hv
   · injection h with h;subst h;intro x hx;cases hx
theorem Zei(k:Int):SmS (stK k):=by
 refine⟨Nat.zero_le _,?_,Nat.zero_le _,Nat.zero_le _,?_,Nat.zero_le _,Nat.zero_le _,Nat.zero_le _,Nat.zero_le _,Nat.zero_le _,Nat.zero_le _⟩<;>intro x hx<;>cases hx
theorem Zbv{e:Ps Ex}{ts:List T3}{z:St×List T3}(h:stmtP e ts=some z):SmS z.1:=by
 have n0: ∀{α:Type} {p:α->Prop},∀x∈([]:List α),p x:=fun x hx=>by cases hx
 unfold stmtP at h;obtain⟨w,h1,h⟩:=bnd h
 split at h
 · unfold createP at h
   split at h
   · obtain⟨n,_,h⟩:=bnd h
     obtain⟨c,hc,rfl⟩:=mpd h;have:=Z8f hc;exact⟨Nat.zero_le _,n0,Nat.zero_le _,Nat.zero_le _,n0,Nat.zero_le _,Nat.zero_le _,Nat.zero_le _,Nat.zero_le _,this,Nat.zero_le _⟩
   · obtain⟨_,_,h⟩:=bnd h
     obtain⟨_,_,h⟩:=bnd h;obtain⟨_,_,h⟩:=bnd h;obtain⟨_,_,h⟩:=bnd h;obtain⟨_,_,h⟩:=bnd h;obtain⟨_,_,h⟩:=bnd h;obtain⟨_,_,h⟩:=bnd h;have one: ∀x:ByteArray,[x].length<=16:=fun x=>by show 1<=16;omega
     split at h
     · obtain⟨v,_,rfl⟩:=mpd h
       exact⟨Nat.zero_le _,n0,Nat.zero_le _,Nat.zero_le _,n0,Nat.zero_le _,Nat.zero_le _,Nat.zero_le _,Nat.zero_le _,Nat.zero_le _,one _⟩
     · injection h with h;subst h
       exact⟨Nat.zero_le _,n0,Nat.zero_le _,Nat.zero_le _,n0,Nat.zero_le _,Nat.zero_le _,Nat.zero_le _,Nat.zero_le _,Nat.zero_le _,one _⟩
 split at h
 · obtain⟨a,g1,h⟩:=bnd h
   obtain⟨n,g2,h⟩:=bnd h;have rows: ∀tb ns us z,ns.length<=16->insRows e tb ns us=some z->SmS z.1:=fun tb ns us z hn h=>by
     obtain⟨a,k1,h⟩:=bnd h;obtain⟨r,k2,rfl⟩:=mpd h;exact⟨Z5z k2,Zir (F:=fun r=>r.length<=16) (fun _ _ h=>Z8f h) k2,Nat.zero_le _,Nat.zero_le _,n0,Nat.zero_le _,Nat.zero_le _,Nat.zero_le _,Nat.zero_le _,Nat.zero_le _,hn⟩
   split at h
   · obtain⟨l,g3,h⟩:=bnd h
     exact rows _ _ _ _ (Z8f g3) h
   · exact rows _ _ _ _ (Nat.zero_le _) h
 split at h
 · obtain⟨i,g1,h⟩:=bnd h
   obtain⟨a,g2,h⟩:=bnd h;obtain⟨s,g3,h⟩:=bnd h;obtain⟨j,g4,h⟩:=bnd h
   split at h
   · rename_i hj
     obtain⟨w2,k1,h⟩:=bnd h;obtain⟨g,k2,h⟩:=bnd h;obtain⟨o,k3,h⟩:=bnd h;obtain⟨l,k4,rfl⟩:=mpd h;refine⟨Nat.zero_le _,n0,Z5z g1,?_,?_,?_,Z9t k1,?_,Nat.zero_le _,Nat.zero_le _,Nat.zero_le _⟩
     · show(s.1::j.1).length<=4
       rw[List.length_cons];exact hj
     · intro f hf
       rcases List.mem_cons.1 hf with rfl|hf
       · rw[Zdr g3];exact Nat.zero_le _
       · exact Zhy _ _ _ g4 f hf
     · unfold orderP at k3
       split at k3
       · obtain⟨a,q1,q2⟩:=bnd k3
         exact Z5z q2
       · injection k3 with k3;subst k3;exact Nat.zero_le _
     · unfold groupP at k2
       split at k2
       · obtain⟨a,q1,q2⟩:=bnd k2
         exact Z5z q2
       · injection k2 with k2;subst k2;exact Nat.zero_le _
   · cases h
 split at h
 · obtain⟨n,g1,h⟩:=bnd h
   obtain⟨a,g2,h⟩:=bnd h;obtain⟨l,g3,h⟩:=bnd h;obtain⟨w2,g4,rfl⟩:=mpd h;have hl:=Z5z g3;refine⟨Nat.zero_le _,n0,Nat.zero_le _,Nat.zero_le _,n0,Nat.zero_le _,Z9t g4,Nat.zero_le _,?_,Nat.zero_le _,?_⟩
   · show(l.1.map (·.2)).length<=16
     rw[List.length_map];exact hl
   · show(l.1.map (·.1)).length<=16
     rw[List.length_map];exact hl
 split at h
 · obtain⟨a,g1,h⟩:=bnd h
   obtain⟨n,g2,h⟩:=bnd h;obtain⟨w2,g3,rfl⟩:=mpd h;exact⟨Nat.zero_le _,n0,Nat.zero_le _,Nat.zero_le _,n0,Nat.zero_le _,Z9t g3,Nat.zero_le _,Nat.zero_le _,Nat.zero_le _,Nat.zero_le _⟩
 split at h
 · injection h with h;subst h;exact Zei 7
 split at h
 · injection h with h;subst h;exact Zei 8
 split at h
 · injection h with h;subst h;exact Zei 9
 · cases h
theorem Zhw{e:Ps Ex}(hd:Dn e): ∀n us z,joinsG e n us=some z->z.2<:+us:=fun n=>by
 induction n with
 |zero=>intro us z h;rw[joinsG]at h;injection h with h;subst h;exact List.suffix_refl us
 |succ n ih=>
   intro us z h;rw[joinsG]at h
   split at h
   · obtain⟨w,h1,h2⟩:=bnd h
     obtain⟨y,h3,rfl⟩:=mpd h2;exact(ih _ _ h3).trans ((Z4O hd _ _ h1).1.trans (Z2p _ _ _))
   · injection h with h;subst h;exact List.suffix_refl us
theorem Zje{e:Ps Ex}(hd:Dn e){ts:List T3}{z:St×List T3}(h:stmtP e ts=some z):z.2<:+ts:=by
 unfold stmtP at h;obtain⟨w,h1,h⟩:=bnd h;have hw:=(Z1N 1 _ _ h1).1;refine List.IsSuffix.trans ?_ hw
 clear h1 hw
 generalize hg:w.2=us at h ⊢
 clear hg
 split at h
 · unfold createP at h
   split at h
   · rename_i ht
     obtain⟨n,g1,h⟩:=bnd h;obtain⟨c,hc,rfl⟩:=mpd h;exact(Z3T ZcE.le _ _ hc).1.trans ((Z14 _ _ g1).1.trans (ZG ht).1)
   · obtain⟨_,g1,h⟩:=bnd h
     obtain⟨_,g2,h⟩:=bnd h;obtain⟨_,g3,h⟩:=bnd h;obtain⟨_,g4,h⟩:=bnd h;obtain⟨_,g5,h⟩:=bnd h;obtain⟨_,g6,h⟩:=bnd h;obtain⟨_,g7,h⟩:=bnd h;have hs:=(Zi _ _ _ _ g7).1.trans ((Z14 _ _ g6).1.trans ((Zi _ _ _ _ g5).1.trans ((Z14 _ _ g4).1.trans ((Zi _ _ _ _ g3).1.trans ((Z14 _ _ g2).1.trans (Zi _ _ _ _ g1).1)))))
     split at h
     · rename_i ht
       obtain⟨v,g8,rfl⟩:=mpd h;exact(Zi _ _ _ _ g8).1.trans ((ZG ht).1.trans hs)
     · injection h with h;subst h;exact hs
 split at h
 · obtain⟨a,g1,h⟩:=bnd h
   obtain⟨n,g2,h⟩:=bnd h;have hs:=(Z14 _ _ g2).1.trans (Zi _ _ _ _ g1).1;have rows: ∀tb ns us z,insRows e tb ns us=some z->z.2<:+us:=fun tb ns us z h=>by
     obtain⟨a,k1,h⟩:=bnd h;obtain⟨r,k2,rfl⟩:=mpd h;exact(Z3N (Z3T hd.le).le _ _ _ k2).trans (Zi _ _ _ _ k1).1
   split at h
   · obtain⟨l,g3,h⟩:=bnd h
     exact(rows _ _ _ _ h).trans ((Z3T Z14.le _ _ g3).1.trans hs)
   · exact(rows _ _ _ _ h).trans hs
 split at h
 · obtain⟨i,g1,h⟩:=bnd h
   obtain⟨a,g2,h⟩:=bnd h;obtain⟨s,g3,h⟩:=bnd h;obtain⟨j,g4,h⟩:=bnd h;have hs:=(Zhw hd _ _ _ g4).trans ((Z3P _ _ g3).1.trans ((Zi _ _ _ _ g2).1.trans (Z3N (Z4I hd).le _ _ _ g1)))
   split at h
   · obtain⟨w2,k1,h⟩:=bnd h
     obtain⟨g,k2,h⟩:=bnd h;obtain⟨o,k3,h⟩:=bnd h;obtain⟨l,k4,rfl⟩:=mpd h;have m1:=(Z80 hd k1).trans hs;have m2:g.2<:+w2.2:=by
       unfold groupP at k2
       split at k2
       · rename_i ht
         obtain⟨a,q1,q2⟩:=bnd k2;exact(Z3N hd.le _ _ _ q2).trans ((Zi _ _ _ _ q1).1.trans (ZG ht).1)
       · injection k2 with k2;subst k2;exact List.suffix_refl _
     have m3:o.2<:+g.2:=by
       unfold orderP at k3
       split at k3
       · rename_i ht
         obtain⟨a,q1,q2⟩:=bnd k3;exact(Z3N (Z68 hd).le _ _ _ q2).trans ((Zi _ _ _ _ q1).1.trans (ZG ht).1)
       · injection k3 with k3;subst k3;exact List.suffix_refl _
     have m4:l.2<:+o.2:=by
       unfold limitP at k4
       split at k4
       · rename_i ht
         obtain⟨v,q1,rfl⟩:=mpd k4;exact(Z1N 3 _ _ q1).1.trans (ZG ht).1
       · injection k4 with k4;subst k4;exact List.suffix_refl _
     exact m4.trans (m3.trans (m2.trans m1))
   · cases h
 split at h
 · obtain⟨n,g1,h⟩:=bnd h
   obtain⟨a,g2,h⟩:=bnd h;obtain⟨l,g3,h⟩:=bnd h;obtain⟨w2,g4,rfl⟩:=mpd h;exact(Z80 hd g4).trans ((Z3N (Z77 hd).le _ _ _ g3).trans ((Zi _ _ _ _ g2).1.trans (Z14 _ _ g1).1))
 split at h
 · obtain⟨a,g1,h⟩:=bnd h
   obtain⟨n,g2,h⟩:=bnd h;obtain⟨w2,g3,rfl⟩:=mpd h;exact(Z80 hd g3).trans ((Z14 _ _ g2).1.trans (Zi _ _ _ _ g1).1)
 split at h
 · injection h with h;subst h;exact List.suffix_refl _
 split at h
 · injection h with h;subst h;exact List.suffix_refl _
 split at h
 · injection h with h;subst h;exact List.suffix_refl _
 · cases h
theorem ZjN(p:Cel rwE):p.cs=[hdv p.cs]:=by
 obtain⟨x,cs,h,o⟩:=p
 match cs,h with
 |[a],_=>rfl
theorem ZaW{ps:List (Cel rwE)}{p:Cel rwE}{w:World}(hp:p∈ps)(h:CelF rwE ps w):ExsR p.x (hdv p.cs) w:=by
 obtain⟨v,hv,hR⟩:=h p hp;rw[hv];exact hR
theorem Zik(p:Cel itE): ∃(u:Value) (q:Cel exE),p.cs=u::q.cs/\q.x=p.x.ex/\ ∀ps w,p∈ps->CelF itE ps w->CelR q w:=by
 obtain⟨x,cs,h,o⟩:=p
 match cs,h,o with
 |u::es,h,o=>
   refine⟨u,⟨x.ex,es,by simpa [itE,exE] using h,fun v hv=>o v (List.mem_cons_of_mem _ hv)⟩,rfl,rfl,fun ps w hp hF=>?_⟩;obtain⟨es',he,hR⟩:=hF _ hp;injection he with he1 he2
   subst he2;exact hR
theorem Zho(p:Cel kyE): ∃(u:Value) (q:Cel exE),p.cs=q.cs++[u]/\q.x=p.x.ex/\ ∀ps w,p∈ps->CelF kyE ps w->CelR q w:=by
 obtain⟨x,cs,h,o⟩:=p;have h9:cs.length=9:=h;obtain⟨es,u,rfl⟩: ∃es u,cs=es++[u]:=⟨cs.dropLast,cs.getLast (by intro e;rw[e]at h9;cases h9),(List.dropLast_concat_getLast _).symm⟩;refine⟨u,⟨x.ex,es,by show es.length=8;rw[List.length_append,List.length_singleton]at h9;omega,fun v hv=>o v (List.mem_append_left _ hv)⟩,rfl,rfl,fun ps w hp hF=>?_⟩;obtain⟨es',he,hR⟩:=hF _ hp;have:=List.append_inj' he rfl;show ExR x.ex (.agg es.toArray) w;rw[show es=es' from this.1];exact hR
theorem ZhQ(p:Cel srE): ∃a b v:Value,p.cs=[a,b,v]/\ ∀ps w,p∈ps->CelF srE ps w->ExsR p.x.on v w:=by
 obtain⟨x,cs,h,o⟩:=p
 match cs,h,o with
 |[a,b,v],h,o=>
   refine⟨a,b,v,rfl,fun ps w hp hF=>?_⟩;obtain⟨v',he,hR⟩:=hF _ hp;injection he with _ he
   injection he with _ he
   injection he with he _
   subst he;exact hR
theorem cs8(q:Cel exE): ∃a b c d e f g h:Value,q.cs=[a,b,c,d,e,f,g,h]:=by
 obtain⟨x,cs,h,o⟩:=q
 match cs,h with
 |[a,b,c,d,e,f,g,h],_=>exact⟨a,b,c,d,e,f,g,h,rfl⟩
section
variable{P:Program}{c:Ctx}{K:List (Nat×Ty)}{L:List Own}{Φ:List (World->Prop)}{Q:Exit->Act->World->Prop}
theorem Zim{xs:List Ex}{v:Value}{X:Nat->Prop}{w:World}(h:Pers X w (ExsR xs v)): ∃(a:Option Addr) (len cap b o:Nat),v= .slice a len cap/\xs.length=len/\(len≠0->a=some ⟨b,o,none⟩)/\Pers X w (KidsR xs a len):=by
 obtain⟨a,len,cap,rfl,hk⟩:=h.now;have hp:Pers X w (KidsR xs a len):=fun w' hk=>by
   obtain⟨a',len',cap',e,h1⟩:=h w' hk;injection e with e1 e2 e3
   subst e1 e2 e3;exact h1
 by_cases hn:len=0
 · exact⟨a,len,cap,0,0,rfl,hk.1,fun h=>absurd hn h,hp⟩
 · obtain⟨b,o,e,_⟩:=hk.2 hn
   exact⟨a,len,cap,b,o,rfl,hk.1,fun _=>e,hp⟩
theorem J.shapeK{x:Code}{xs:List Ex}{v:Value}(h:ExsR xs v∈Φ)(hj: ∀(a:Option Addr) (len cap b o:Nat),v= .slice a len cap->xs.length=len->(len≠0->a=some ⟨b,o,none⟩)->J P c K L (KidsR xs a len::Φ) x Q):J P c K L Φ x Q:=by
 refine⟨fun X a' w hs=>?_⟩;obtain⟨a,len,cap,b,o,h1,h2,h3,h4⟩:=Zim (hs.f _ h);refine(hj a len cap b o h1 h2 h3).out X a' w (SA.more hs [_] fun F hF=>?_);rw[List.mem_singleton.1 hF];exact h4
theorem J.openNew{y:Code}{s:Nat}{cs:List Value}{e:TypeId}{n cap:Nat}(h:Go.Vc.look K s=some (.newSl (.cells cs.toArray e (0,0)) n cap))(hj: ∀b,J P c ((s,.is (.slice (some ⟨b,0,none⟩) n cap))::K) L (HeapIs b cs e::Φ) y Q):J P c K L Φ y Q:=by
 refine⟨fun X a w hs=>?_⟩;obtain⟨b,hv,hE,hb⟩:=hs.k s _ h;refine(hj b).out X a w (hs.tell hv [_] fun F hF=>?_);rw[List.mem_singleton.1 hF];exact fun w' hk=>hk.get hb hE
end
def deepX(s:St):List (List Ex):=[s.rows.flatten++s.items.map (·.ex)++(s.from_.map (·.on)).flatten++s.order.map (·.ex),s.where_,s.group,s.sets]
abbrev dvs(a b c d:Value):List Value:=[a,b,c,d]
theorem Z9h(s:St):exsOf s=(deepX s).flatten:=by simp[exsOf,deepX]
theorem ZcH{α:Type}{c:Nat}{l:List (List α)}(h: ∀r∈l,r.length<=c):l.flatten.length<=c*l.length:=by
 induction l with
 |nil=>simp
 |cons x xs ih=>
   have h1:=h x List.mem_cons_self;have h2:=ih fun r hr=>h r (List.mem_cons_of_mem _ hr);rw[List.flatten_cons,List.length_append,List.length_cons,Nat.mul_succ];omega
theorem Zd7{s:St}(h:SmS s)(k:Nat):((deepX s).getD k []).length<=1000:=by
 obtain⟨h1,h2,h3,h4,h5,h6,h7,h8,h9,_⟩:=h
 match k with
 |0=>
   show(s.rows.flatten++s.items.map (·.ex)++(s.from_.map (·.on)).flatten++s.order.map (·.ex)).length<=1000;have a1:=ZcH h2;have a2:=ZcH (c:=1) (l:=s.from_.map (·.on)) (by intro r hr;obtain⟨f,hf,rfl⟩:=List.mem_map.1 hr;exact h5 f hf);simp only[List.length_append,List.length_map]at*
   omega
 |1=>exact Nat.le_trans h7 qD
 |2=>exact Nat.le_trans h8 qD
 |3=>exact Nat.le_trans h9 qD
 |k+4=>exact Nat.zero_le _
theorem Zda{s:St}(h:SmS s):(exsOf s).length<=4096:=by
 rw[Z9h];have:=ZcH (c:=1000) (l:=deepX s) (fun r hr=>by
   obtain⟨k,hk,rfl⟩:=List.mem_iff_getElem.1 hr;have:=Zd7 h k
   rwa [List.getD_eq_getElem?_getD,List.getElem?_eq_getElem hk]at this)
 have h4:(deepX s).length=4:=rfl
 omega
theorem Zao{s:St}{k:Nat}{y:Ex}(h:y∈(deepX s).getD k []):y∈exsOf s:=by
 rw[Z9h,List.mem_flatten]
 by_cases hk:k<(deepX s).length
 · exact⟨_,List.getElem_mem hk,by rwa [List.getD_eq_getElem?_getD,List.getElem?_eq_getElem hk]at h⟩
 · rw[List.getD_eq_getElem?_getD,List.getElem?_eq_none qM]at h;cases h
theorem ZhD{s:St}{k i:Nat}(h:i<((deepX s).getD k []).length)(hh:32<hgt (((deepX s).getD k []).getD i ex0)):deepS s=true:=by
 refine List.any_eq_true.2 ⟨_,Zao (k:=k) (y:=((deepX s).getD k []).getD i ex0) ?_,decide_eq_true hh⟩
 generalize (deepX s).getD k []=l at*
 rw[List.getD_eq_getElem?_getD,List.getElem?_eq_getElem h];exact List.getElem_mem h
theorem ZiN{s:St}(h: ∀k,k<4->∀i,i<((deepX s).getD k []).length->¬32<hgt (((deepX s).getD k []).getD i ex0)):deepS s=false:=by
 unfold deepS;rw[List.any_eq_false];intro x hx;rw[Z9h,List.mem_flatten]at hx;obtain⟨l,hl,hx⟩:=hx;obtain⟨k,hk,rfl⟩:=List.mem_iff_getElem.1 hl;obtain⟨i,hi,rfl⟩:=List.mem_iff_getElem.1 hx;have e1:(deepX s).getD k []=(deepX s)[k]:=by rw[List.getD_eq_getElem?_getD,List.getElem?_eq_getElem hk];rfl
 have:=h k hk i (by rw[e1];exact hi);rw[e1,List.getD_eq_getElem?_getD,List.getElem?_eq_getElem hi]at this
 simpa using this
end Go.Pz
