/- The document's scanner: its parts. No condition. -/
import Derived.Test.YtbedigkncjbggaaGreatDoorXQ14
import Derived.Test.YtbedigkncjbggaaGreatDoorXG4
import Derived.Test.YtbedigkncjbggaaGreatDoorXQ1
set_option maxRecDepth 20000
namespace Go.Proofs.YtbedigkncjbggaaGreatDoor
open Go Go.Vc
theorem Zei{f:UInt8->UInt8}{s:ByteArray}{i:Nat}{acc X:List UInt8}{y:UInt8}(h:i<s.size)(hy:f (by_ s i)=y)(hx:acc++(dr s i).map f=X):(acc++[y])++(dr s (i+1)).map f=X:=by
 rw[<-hx,Z1t h,<-hy]
 simp
theorem ZhX{fr tp d:Int}{b:UInt8}(h:(decide (fr<=(b.toNat:Int))&&decide ((b.toNat:Int)<=tp))=false):upF fr tp d b=b:=by
 unfold upF upV;rw[if_neg (by rw[h];simp)]
 simp
theorem Zbe(s:ByteArray)(x:List UInt8):seq (s.extract 0 2) (bl x)=(s.data.toList.take 2==x):=by
 rw[Zal,show(2:Nat)=0+2 from rfl,Z1o]
 rfl
def quoP(s:ByteArray)(n:Nat):Option (List UInt8×Nat):=(quoF (dr s (n+1)) []).map fun r=>(r.1,n+1+r.2)
def quoS:Option (List UInt8×Nat)->ByteArray|some r=>bl r.1|none=>⟨#[]⟩
def quoE:Option (List UInt8×Nat)->Int|some r=>(r.2:Int)|none=> -1
theorem Zcr{s:ByteArray}{i k:Nat}{acc acc':List UInt8}{X:Option (List UInt8×Nat)}(e:quoF (dr s i) acc=(quoF (dr s (i+k)) acc').map fun r=>(r.1,r.2+k))(hr:(quoF (dr s i) acc).map (fun r=>(r.1,i+r.2))=X):(quoF (dr s (i+k)) acc').map (fun r=>(r.1,i+k+r.2))=X:=by
 rw[<-hr,e,Option.map_map]
 congr 1
 funext r
 exact Prod.ext rfl (by show i+k+r.2=i+(r.2+k);omega)
theorem Ze5{s:ByteArray}{i:Nat}(h:i<s.size):s.data.toList[i]? =some (by_ s i):=by
 have:i<s.data.toList.length:=by rw[Z1B];exact h
 unfold by_;rw[List.getD_eq_getElem?_getD,List.getElem?_eq_getElem this]
 rfl
theorem Zg2{s:ByteArray}{i:Nat}{u:Int}{X:Option Int}(h:i<s.size)(ho:overF u (dgU (by_ s i))=false)(hr:refG (dr s i) u=X):refG (dr s (i+1)) (IntKind.u64.wrap (IntKind.u64.wrap (10*u)+dgU (by_ s i)))=X:=by
 rw[<-hr,Z1t h,refG,if_neg (by rw[ho];simp)]
theorem Zf4(a b:UInt8):((a.toNat:Int)==(b.toNat:Int))=(a==b):=by
 refine Bool.eq_iff_iff.2 ⟨fun h=>?_,fun h=>?_⟩
 · have h:(a.toNat:Int)=(b.toNat:Int):=by simpa using h
   have:a=b:=UInt8.toNat_inj.1 qM
   simp[this]
 · have h:a=b:=by simpa using h
   subst h
   simp
theorem ZgC{b:UInt8}{i:Nat}(h:i<oneB.size)(hr:(oneB.data.toList.take i).contains b=false)(ht:((b.toNat:Int)==((by_ oneB i).toNat:Int))=false):(oneB.data.toList.take (i+1)).contains b=false:=by
 rw[List.take_add_one,Ze5 h,List.contains_append,hr];rw[Zf4]at ht
 simpa [bne] using ht
theorem Zhq{b:UInt8}{i:Nat}(h:i<oneB.size)(ht:((b.toNat:Int)==((by_ oneB i).toNat:Int))=true):oneB.data.toList.contains b=true:=by
 rw[Zf4]at ht;have e:b=by_ oneB i:=by simpa using ht
 rw[List.contains_iff_mem,e];exact List.mem_of_getElem? (Ze5 h)
theorem Zaf(s:ByteArray):(decide (2<=(s.size:Int))&&((seq (s.extract 0 2) (bl [60,62])||seq (s.extract 0 2) (bl [60,61]))||seq (s.extract 0 2) (bl [62,61])))=(decide (2<=(s.data.toList.length:Int))&&((s.data.toList.take 2==[60,62])||(s.data.toList.take 2==[60,61])||(s.data.toList.take 2==[62,61]))):=by
 rw[Zbe,Zbe,Zbe,Z1B]
theorem ZcI{s:ByteArray}(h:0<s.size):s.data.toList.headD 0=by_ s 0:=by
 have h1:=Z1t h;have:dr s 0=s.data.toList:=rfl;rw[this]at h1;rw[h1]
 rfl
theorem ZhS{b:UInt8}{i:Nat}(h:oneB.size<=i)(hr:(oneB.data.toList.take i).contains b=false):oneB.data.toList.contains b=false:=by
 rwa [List.take_of_length_le (by rw[Z1B];exact h)]at hr
theorem Zhv{l:List ByteArray}{i:Nat}(h:i<l.length):l[i]? =some (l.getD i ⟨#[]⟩):=by simp[h]
theorem bne39{b:UInt8}(h:((b.toNat:Int) != 39)=true):(b==39)=false:=by rw[<-q39];simpa [bne] using h
theorem beq39{b:UInt8}(h:((b.toNat:Int) != 39)=false):(b==39)=true:=by rw[<-q39];simpa [bne] using h
theorem Z49(c:Int):CallTy Tryz.prog ZbY [.is (.int .u8 c)] (.is (.int .i64 (classF c))):=
 CallTy.of (fn:=Tryz.f67) Tryz.func67 (n:=44) rfl rfl rfl (fun _ _=>by kernel_rfl) fun E W=>by
 refine vQ ?_;refine Ja rfl (vS [0] ?_);apply yk
 repeat apply yQ
 refine J.reg0 hmx qK qK ?_;refine yz (Z1 rfl) (yz (Z47 rfl rfl) (yz (Z1 rfl) (yg rfl rfl rfl (fun hg=>Z1 (.inl rfl)) (yg rfl rfl rfl (fun hg=>Z4s (qR rfl) (.inl rfl)) ?_))));refine yz (Zl rfl rfl rfl id) (yz (Z1 rfl) (yg rfl rfl rfl (fun hg=>Z1 (.inl rfl)) (yg rfl rfl rfl (fun hg=>Z47 (qR rfl) (.inl rfl)) ?_)));refine yg rfl rfl rfl (fun hg=>Z1 (qR rfl)) ?_;refine RT.gg rfl rfl rfl (fun hg=>(Z1 (.inl rfl))) ?_;refine RT.gg rfl rfl rfl (fun hg=>(Z4s (qR rfl) (.inl rfl))) ?_;refine yg rfl rfl rfl (fun hg=>Zl (qR rfl) (.inl rfl) (.inl rfl) (fun h=>⟨hg,h⟩)) ?_;refine yz (Zw rfl rfl rfl id) (yz (Z1 rfl) (yg rfl rfl rfl (fun hg=>Z1 (.inl rfl)) (yg rfl rfl rfl (fun hg=>ZP (qR rfl) (.inl rfl)) ?_)));refine yz (Zw rfl rfl rfl id) (yz (Z2l rfl) ?_);apply yn;refine FinS.nil0 ?_;refine vS [0,3] ?_;refine yC rfl (fun ht3=>?_) (fun ht3=>?_);refine vQ ?_;refine Ja rfl (vS [2] ?_);refine vR ?_;exact JX.ret1is rfl rfl (by unfold classF;rw[if_pos (show isW c=true from ht3)])
 repeat apply yQ
 refine J.reg0 hmx qK qK ?_;refine yz (Z1 rfl) (yz (Z47 rfl rfl) (yz (Z1 rfl) (yg rfl rfl rfl (fun hg=>Z1 (.inl rfl)) (yg rfl rfl rfl (fun hg=>Z4s (qR rfl) (.inl rfl)) ?_))));refine yz (Zl rfl rfl rfl id) (yz (Z2l rfl) ?_);apply yn;refine FinS.nil0 ?_;refine vS [0,22] ?_;refine yC rfl (fun ht22=>?_) (fun ht22=>?_);refine vQ ?_;refine Ja rfl (vS [2] ?_);refine vR ?_;exact JX.ret1is rfl rfl (by unfold classF;rw[if_neg (show ¬isW c=true by rw[show isW c=false from ht3];simp),if_pos (show digitF c=true from ht22)])
 repeat apply yQ
 refine J.reg0 hmx qK qK ?_;refine yz (Z1 rfl) (yz (ZP rfl rfl) (yz (Z1 rfl) (yg rfl rfl rfl (fun hg=>Z1 (.inl rfl)) (yg rfl rfl rfl (fun hg=>ZP (qR rfl) (.inl rfl)) ?_))));refine yz (Zw rfl rfl rfl id) (yz (Z1 rfl) (yg rfl rfl rfl (fun hg=>Z1 (.inl rfl)) (yg rfl rfl rfl (fun hg=>ZP (qR rfl) (.inl rfl)) ?_)));refine yz (Zw rfl rfl rfl id) (yz (Z1 rfl) (yg rfl rfl rfl (fun hg=>Z1 (.inl rfl)) (yg rfl rfl rfl (fun hg=>ZP (qR rfl) (.inl rfl)) ?_)));refine yz (Zw rfl rfl rfl id) (yz (Z2l rfl) ?_);apply yn;refine FinS.nil0 ?_;refine vS [29] ?_;refine yC rfl (fun ht29=>?_) (fun ht29=>?_);refine vQ ?_;refine Ja rfl (vS [2] ?_);refine vR ?_;exact JX.ret1is rfl rfl (by unfold classF;rw[if_neg (show ¬isW c=true by rw[show isW c=false from ht3];simp),if_neg (show ¬digitF c=true by rw[show digitF c=false from ht22];simp),if_pos (show isB c=true from ht29)]);apply yK;refine vN ?_;apply yN;refine Ja rfl (vS [2] ?_);refine vR ?_;exact JX.ret1is rfl rfl (by unfold classF;rw[if_neg (show ¬isW c=true by rw[show isW c=false from ht3];simp),if_neg (show ¬digitF c=true by rw[show digitF c=false from ht22];simp),if_neg (show ¬isB c=true by rw[show isB c=false from ht29];simp)])
theorem Z9o(s:ByteArray)(fr tp d:Int)(hs:s.size<=2048):CallTy Tryz.prog Z6p [.is (.string s),.is (.int .u8 fr),.is (.int .u8 tp),.is (.int .i64 d)] (.is (.string (bl (s.data.toList.map (upF fr tp d))))):=
 CallTy.of (fn:=Tryz.f124) Tryz.func124 (n:=40) rfl rfl rfl (fun _ _=>by kernel_rfl) fun E W=>by
 refine vQ ?_;refine Ja rfl (vP [0,1,2,3] ?_);refine Ja rfl (vP [0,1,2,3,9] ?_);refine Ja rfl (vS [0,1,2,3,9,10] ?_);apply yk
 repeat apply yQ
 refine J.loopG (α:=Nat×List UInt8×Option (Nat×List Value)×Nat) (fun z=>[(0,.is (.string s)),(1,.is (.int .u8 fr)),(2,.is (.int .u8 tp)),(3,.is (.int .i64 d)),(9,.is (sliceO z.2.2.1 z.2.1.length z.2.2.2)),(10,.is (.int .i64 (z.1:Nat)))]) (fun z=>ownO z.2.2.1 Z60 []) (fun z=>fun _=>True) (fun z=>z.1<=s.size/\z.2.1++(dr s z.1).map (upF fr tp d)=(s.data.toList.map (upF fr tp d))/\Grows bC 1 z.2.1 z.2.2.1 z.2.2.2/\z.2.1.length<=z.1) (fun z=>s.size-z.1) (0,[],none,0) [0,1,2,3,9,10] (.cons rfl (.cons rfl (.cons rfl (.cons rfl (.cons rfl (.cons rfl .nil)))))) rfl (fun _=>trivial) ⟨by omega,rfl,rfl,by simp⟩ fun⟨i,acc,st,cp⟩ ⟨hi,hx,hG,hal⟩=>?_;try dsimp only
 try dsimp only at hi
 try dsimp only at hx
 try dsimp only at hG
 try dsimp only at hal
 refine vQ ?_;refine Jm rfl (Jm rfl (Jq (Z1X Zf rfl) (Jq (Z10 rfl rfl) (vS [0,1,2,3,9,10,15] ?_))));refine yC rfl (fun ht15=>?_) (fun ht15=>?_)
 try simp only[yd,yf]at ht15
 apply yK;refine vN ?_;apply yk;refine vQ ?_;refine Jm rfl (Jm rfl (Jq (Z1v Zf rfl rfl qM qM) ?_));refine Ja rfl (vS [0,1,2,3,9,10,11] ?_);refine J.reg0 hmx qK qK ?_;refine yz (Z1 rfl) (yz (Z1 rfl) (yz (Z47 rfl rfl) (yz (Z1 rfl) (yg rfl rfl rfl (fun hg=>Z1 (.inl rfl)) (yg rfl rfl rfl (fun hg=>Z1 (.inl rfl)) (yg rfl rfl rfl (fun hg=>Z4s (qR rfl) (qR rfl)) ?_))))));refine yz (Zl rfl rfl rfl id) ?_;apply yn;refine FinS.nil0 ?_;refine vS [0,1,2,3,9,10,11,28] ?_;refine yC rfl (fun ht28=>?_) (fun ht28=>?_);refine vQ ?_;refine Jm rfl (Jq (Z6f ⟨_,Z4v⟩ Zf0 rfl) (Jm rfl (Jq (Z8v rfl rfl) (Jq (Zez (cc:=((upF fr tp d (by_ s i)).toNat:Int)) ⟨_,Zf0⟩ Z4v rfl (by rw[up_v];exact(if_pos ht28).symm)) ?_))));refine Ja rfl (vP [0,1,2,3,9,10,11] ?_);refine Jm rfl (Jm rfl (Jq (ZI (cs:=[_]) Z4c qM qM (.cons rfl .nil) rfl rfl rfl) ?_));refine JO.apP [upF fr tp d (by_ s i)] Z4b Z5r (by repeat(first|exact .here|apply Cx.past|apply Cx.there)) hG rfl rfl (fun L=>Z3u Z2f rfl rfl) (by simp) (by simp;omega) (by simp;omega) rfl (fun st1 cp1 hG1=>?_);refine Ja rfl (vP [0,1,2,3,9,10] ?_);refine Jm rfl (Jq (Zv (cc:=((i+1:Nat):Int)) rfl rfl qM qM qM) ?_);refine Ja rfl ?_;apply yI
 repeat refine JX.normal_block ?_
 refine JX.roundG (x:=⟨i,acc,st,cp⟩) (i+1,acc++[upF fr tp d (by_ s i)],st1,cp1) ?_ ?_ [0,1,2,3,9,10] ?_ ?_ ?_ ?_
 · exact⟨by omega,Zei qM rfl hx,hG1,by simp;omega⟩
 · exact(by simp only;omega)
 · exact qS
 · exact qH
 · exact qG
 · exact fun _ _ _=>fun _ _=>trivial
 apply yK;refine vN ?_;apply yN;refine Jm rfl (Jm rfl (Jq (ZI (cs:=[_]) Z4c qM qM (.cons rfl .nil) rfl rfl rfl) ?_));refine JO.apP [by_ s i] Z4b Z5r (by repeat(first|exact .here|apply Cx.past|apply Cx.there)) hG rfl rfl (fun L=>Z3u Z2f rfl rfl) (by simp) (by simp;omega) (by simp;omega) rfl (fun st1 cp1 hG1=>?_);refine Ja rfl (vP [0,1,2,3,9,10] ?_);refine Jm rfl (Jq (Zv (cc:=((i+1:Nat):Int)) rfl rfl qM qM qM) ?_);refine Ja rfl ?_;apply yI
 repeat refine JX.normal_block ?_
 refine JX.roundG (x:=⟨i,acc,st,cp⟩) (i+1,acc++[by_ s i],st1,cp1) ?_ ?_ [0,1,2,3,9,10] ?_ ?_ ?_ ?_
 · exact⟨by omega,Zei qM (ZhX ht28) hx,hG1,by simp;omega⟩
 · exact(by simp only;omega)
 · exact qS
 · exact qH
 · exact qG
 · exact fun _ _ _=>fun _ _=>trivial
 try simp only[yd,yf]at ht15
 repeat apply yQ
 refine J.exit ?_
 repeat first|refine yH ?_|refine yM rfl ?_|refine yE ?_
 repeat first|apply yX|apply yB
 have hacc:acc=(s.data.toList.map (upF fr tp d)):=by rw[<-hx,Z4Y qM];simp
 refine J.freezeO Z5r hG (e:=Z60) yV (fun _ h=>h) rfl rfl ?_;obtain⟨cap2,hso⟩:=Z9A hG;rw[hso];refine vQ ?_;refine Jm rfl (Jq (Zdp Z2f Z4v Zf rfl qI) ?_);refine Ja rfl (vS [8] ?_);refine vR ?_;exact JX.ret1is rfl rfl (by rw[hacc])
theorem Zc1:CallTy Tryz.prog ZbX [] (.rep (SlG strC 1 wordsB)):=
 CallTy.of (fn:=Tryz.f125) Tryz.func125 (n:=2) rfl rfl rfl (fun _ _=>by kernel_rfl) fun E W=>by
 refine vQ ?_;refine Ja rfl ?_;apply yI
 repeat first|apply yX|apply yB
 refine yL [] .nil (vQ ?_);refine Jq (ZI (cs:=[_,_,_,_,_,_,_,_,_,_,_,_,_,_,_,_,_,_,_,_,_,_,_,_,_,_,_,_,_,_,_,_,_,_,_,_,_,_,_,_,_,_,_,_]) Z25 qM qM (.cons rfl (.cons rfl (.cons rfl (.cons rfl (.cons rfl (.cons rfl (.cons rfl (.cons rfl (.cons rfl (.cons rfl (.cons rfl (.cons rfl (.cons rfl (.cons rfl (.cons rfl (.cons rfl (.cons rfl (.cons rfl (.cons rfl (.cons rfl (.cons rfl (.cons rfl (.cons rfl (.cons rfl (.cons rfl (.cons rfl (.cons rfl (.cons rfl (.cons rfl (.cons rfl (.cons rfl (.cons rfl (.cons rfl (.cons rfl (.cons rfl (.cons rfl (.cons rfl (.cons rfl (.cons rfl (.cons rfl (.cons rfl (.cons rfl (.cons rfl (.cons rfl .nil)))))))))))))))))))))))))))))))))))))))))))) rfl rfl rfl) ?_;refine Ja rfl (vS [0] ?_);refine vR ?_;exact JX.ret1sub rfl rfl rfl (Sub.newSlG ZfY rfl rfl)
theorem Zb1(s:ByteArray)(hs:s.size<=2048):CallTy Tryz.prog Zb6 [.is (.string s)] (.tup2 (.is (.int .i64 (refNum s.data.toList).1)) (.is (.bool (refNum s.data.toList).2))):=
 CallTy.of (fn:=Tryz.f69) Tryz.func69 (n:=34) rfl rfl rfl (fun _ _=>by kernel_rfl) fun E W=>by
 refine vQ ?_;refine Ja rfl (Ja rfl (vP [0] ?_));refine Ja rfl (vP [0,4] ?_);refine Ja rfl (vS [0,4,5] ?_);apply yk
 repeat apply yQ
 refine J.loopF (α:=Nat×Int) (fun z=>[(0,.is (.string s)),(4,.is (.int .u64 z.2)),(5,.is (.int .i64 (z.1:Nat)))]) (fun z=>z.1<=s.size/\refG (dr s z.1) z.2=refG s.data.toList 0) (fun z=>s.size-z.1) (0,0) [0,4,5] (.cons rfl (.cons rfl (.cons rfl .nil))) ⟨by omega,rfl⟩ fun⟨i,u⟩ ⟨hi,hr⟩=>?_;refine vQ ?_;refine Jm rfl (Jm rfl (Jq (Z1X Zf rfl) (Jq (Z10 rfl rfl) (vS [0,4,5,10] ?_))));refine yC rfl (fun ht10=>?_) (fun ht10=>?_)
 try simp only[yd,yf]at ht10
 apply yK;refine vN ?_;apply yk;refine vQ ?_;refine Jm rfl (Jm rfl (Jq (Z1v Zf rfl rfl qM qM) ?_));refine Jq (ZaA rfl rfl) (Jq (Z6f ⟨_,Z4v⟩ ZbH rfl) (Ja rfl (vS [0,4,5,6] ?_)));refine J.reg0 hmx qK qK ?_;refine yz (Z1 rfl) (yz (Z1r rfl rfl) (yz (Z1 rfl) (yg rfl rfl rfl (fun hg=>Z1 (.inl rfl)) (yg rfl rfl rfl (fun hg=>ZP (qR rfl) (.inl rfl)) ?_))));refine yg rfl rfl rfl (fun hg=>Z1 (qR rfl)) ?_;refine RT.gg rfl rfl rfl (fun hg=>(Z1 (.inl rfl))) ?_;refine RT.gg rfl rfl rfl (fun hg=>(Z1r (qR rfl) (.inl rfl))) ?_;refine yg rfl rfl rfl (fun hg=>Zl (qR rfl) (.inl rfl) (.inl rfl) (fun h=>⟨hg,h⟩)) ?_;refine yz (Zw rfl rfl rfl id) ?_;apply yn;refine FinS.nil0 ?_;refine vS [0,4,5,6,27] ?_;refine yC rfl (fun ht27=>?_) (fun ht27=>?_)
 try simp only[yd,yf]at ht27
 have hn:refG s.data.toList 0=none:=by rw[<-hr,Z1t qM,refG,if_pos (show overF u (dgU (by_ s i))=true from ht27)]
 refine vQ ?_;refine Ja rfl (Ja rfl (vS [2,3] ?_));refine vR ?_;exact JX.ret2is rfl rfl rfl (by unfold refNum;rw[hn]) (by unfold refNum;rw[hn])
 try simp only[yd,yf]at ht27
 apply yK;refine vN ?_;apply yN;refine Jm rfl (Jq (Zck rfl rfl) (Jm rfl (Jq (Z8v rfl rfl) (Ja rfl (vP [0,4,5] ?_)))));refine Jm rfl (Jq (Zv (cc:=((i+1:Nat):Int)) rfl rfl qM qM qM) ?_);refine Ja rfl ?_;apply yI
 repeat refine JX.normal_block ?_
 refine JX.roundS (i+1,IntKind.u64.wrap (IntKind.u64.wrap (10*u)+dgU (by_ s i))) ?_ ?_ [0,4,5] ?_ ?_ ?_
 · exact⟨by omega,Zg2 qM ht27 hr⟩
 · exact(by simp only;omega)
 · exact qS
 · exact qB
 · exact qB
 try simp only[yd,yf]at ht10
 repeat apply yQ
 refine J.exit ?_
 repeat first|refine yH ?_|refine yM rfl ?_|refine yE ?_
 repeat first|apply yX|apply yB
 have hn:refG s.data.toList 0=some u:=by rw[<-hr,Z4Y qM];rfl
 refine vQ ?_;refine Jm rfl (Jq (Z6f ⟨_,ZbH⟩ Zcw rfl) (Ja rfl (Ja rfl (vS [2,3] ?_))));refine vR ?_;exact JX.ret2is rfl rfl rfl (by unfold refNum;rw[hn]) (by unfold refNum;rw[hn])
theorem Zc9(s:ByteArray)(h0:0<s.size)(hs:s.size<=2048):CallTy Tryz.prog Zdj [.is (.string s)] (.is (.int .i64 (signRF s.data.toList))):=
 CallTy.of (fn:=Tryz.f71) Tryz.func71 (n:=35) rfl rfl rfl (fun _ _=>by kernel_rfl) fun E W=>by
 refine vQ ?_;refine Ja rfl (vS [0] ?_);refine J.reg0 hmx qK qK ?_;refine yz (Z1 rfl) (yz (Z1X Zf rfl) (yz (Z47 rfl rfl) (yz (Z1 rfl) (yg rfl rfl rfl (fun hg=>Z1 (.inl rfl)) (yg rfl rfl rfl (fun hg=>Z7H Zf (qR rfl) (.inl rfl) (by simp at hg;omega) (by simp at hg;omega)) ?_)))));refine yg rfl rfl rfl (fun hg=>Z2g (qR rfl) (.inl rfl)) ?_;refine yg rfl rfl rfl (fun hg=>Z1 (qR rfl)) ?_;refine RT.gg rfl rfl rfl (fun hg=>(Z1 (.inl rfl))) ?_;refine RT.gg rfl rfl rfl (fun hg=>(Z7H Zf (qR rfl) (.inl rfl) (by simp at hg;omega) (by simp at hg;omega))) ?_;refine RT.gg rfl rfl rfl (fun hg=>(Z2g (qR rfl) (.inl rfl))) ?_;refine yg rfl rfl rfl (fun hg=>Zw (qR rfl) (.inl rfl) (.inl rfl) (fun h=>⟨hg,h⟩)) ?_;refine yg rfl rfl rfl (fun hg=>Z1 (qR rfl)) ?_;refine RT.gg rfl rfl rfl (fun hg=>(Z1 (.inl rfl))) ?_;refine RT.gg rfl rfl rfl (fun hg=>(Z7H Zf (qR rfl) (.inl rfl) (by simp at hg;omega) (by simp at hg;omega))) ?_;refine RT.gg rfl rfl rfl (fun hg=>(Z2g (qR rfl) (.inl rfl))) ?_;refine yg rfl rfl rfl (fun hg=>Zw (qR rfl) (.inl rfl) (.inl rfl) (fun h=>⟨hg,h⟩)) ?_;refine yz (Zl rfl rfl rfl id) ?_;apply yn;refine FinS.nil0 ?_;refine vS [0,22] ?_;refine yC rfl (fun ht22=>?_) (fun ht22=>?_);refine vQ ?_;refine Ja rfl (vS [2] ?_);refine vR ?_;exact JX.ret1is rfl rfl (by unfold signRF;rw[if_pos (by rw[<-Zaf];exact ht22)]);apply yK;refine vN ?_;apply yN;refine Ja rfl (vP [0,3] ?_);refine Ja rfl (vS [0,3,4] ?_);apply yk
 repeat apply yQ
 refine J.loopF (α:=Nat) (fun i=>[(0,.is (.string s)),(3,.is (.string oneB)),(4,.is (.int .i64 (i:Nat)))]) (fun i=>i<=oneB.size/\(oneB.data.toList.take i).contains (by_ s 0)=false) (fun i=>oneB.size-i) 0 [0,3,4] (.cons rfl (.cons rfl (.cons rfl .nil))) ⟨by omega,rfl⟩ fun i ⟨hi,hr⟩=>?_;refine vQ ?_;refine Jm rfl (Jm rfl (Jq (Z1X Zf rfl) (Jq (Z10 rfl rfl) (vS [0,3,4,26] ?_))));refine yC rfl (fun ht26=>?_) (fun ht26=>?_)
 try simp only[yd,yf]at ht26
 apply yK;refine vN ?_;apply yk;have o13:oneB.size=13:=rfl
 repeat apply yQ
 refine J.reg0 hmx qK qK ?_;refine yz (Z1 rfl) (yz (Z1v Zf rfl rfl qM qM) ?_);refine yz (Z1 rfl) (yz (Z1 rfl) (yz (Z1v Zf rfl rfl qM qM) ?_));refine yz (ZP rfl rfl) ?_;apply yn;refine FinS.nil0 ?_;refine vS [0,3,4,34] ?_;refine yC rfl (fun ht34=>?_) (fun ht34=>?_);refine vQ ?_;refine Ja rfl (vS [2] ?_);refine vR ?_;exact JX.ret1is rfl rfl (by unfold signRF;rw[if_neg (by rw[<-Zaf,show(decide (2<=(s.size:Int))&&((seq (s.extract 0 2) (bl [60,62])||seq (s.extract 0 2) (bl [60,61]))||seq (s.extract 0 2) (bl [62,61])))=false from ht22];simp),ZcI h0,if_pos (Zhq (b:=by_ s 0) (i:=i) (by have:oneB.size=13:=rfl;omega) ht34)]);apply yK;refine vN ?_;apply yN;refine Jm rfl (Jq (Zv (cc:=((i+1:Nat):Int)) rfl rfl qM qM qM) ?_);refine Ja rfl ?_;apply yI
 repeat refine JX.normal_block ?_
 refine JX.roundS (i+1) ?_ ?_ [0,3,4] ?_ ?_ ?_
 · exact⟨by omega,ZgC (b:=by_ s 0) qM hr ht34⟩
 · exact qM
 · exact qS
 · exact qB
 · exact qB
 try simp only[yd,yf]at ht26
 repeat apply yQ
 refine J.exit ?_
 repeat first|refine yH ?_|refine yM rfl ?_|refine yE ?_
 refine vN ?_;apply yN;refine Ja rfl (vS [2] ?_);refine vR ?_;exact JX.ret1is rfl rfl (by unfold signRF;rw[if_neg (by rw[<-Zaf,show(decide (2<=(s.size:Int))&&((seq (s.extract 0 2) (bl [60,62])||seq (s.extract 0 2) (bl [60,61]))||seq (s.extract 0 2) (bl [62,61])))=false from ht22];simp),ZcI h0,if_neg (by rw[ZhS qM hr];simp)])
end Go.Proofs.YtbedigkncjbggaaGreatDoor
set_option maxRecDepth 20000
namespace Go.Proofs.YtbedigkncjbggaaGreatDoor
open Go Go.Vc
theorem c_up(w:ByteArray)(hs:w.size<=2048):CallTy Tryz.prog Z6p [.is (.string w),.is (.int .u8 97),.is (.int .u8 122),.is (.int .i64 (-32))] (.is (.string (bl (Lib.toUpperA w.data.toList)))):=by
 have h:=Z9o w 97 122 (-32) hs
 rwa [show w.data.toList.map (upF 97 122 (-32))=Lib.toUpperA w.data.toList from List.map_congr_left fun b _=>Zgl b]at h
theorem ZiD(w:ByteArray)(hs:w.size<=2048):CallTy Tryz.prog Z6p [.is (.string w),.is (.int .u8 65),.is (.int .u8 90),.is (.int .i64 32)] (.is (.string (bl (Lib.toLowerA w.data.toList)))):=by
 have h:=Z9o w 65 90 32 hs
 rwa [show w.data.toList.map (upF 65 90 32)=Lib.toLowerA w.data.toList from List.map_congr_left fun b _=>Zg8 b]at h
theorem Zgb{s:ByteArray}{i:Nat}{acc:List UInt8}(hi:i<s.size)(hb:(((by_ s i).toNat:Int) != 39)=false)(hc:(decide (((i+1:Nat):Int)<(s.size:Int))&&(((by_ s (i+1)).toNat:Int)==39))=true):
  quoF (dr s i) acc=(quoF (dr s (i+2)) (acc++[39])).map fun r=>(r.1,r.2+2):=by
 rw[Bool.and_eq_true,decide_eq_true_eq,q39]at hc;exact Zho qM acc (beq39 hb) hc.2
theorem Zg0{s:ByteArray}{i n:Nat}{acc:List UInt8}(hi:i<s.size)(hb:(((by_ s i).toNat:Int) != 39)=false)(hc:(decide (((i+1:Nat):Int)<(s.size:Int))&&(((by_ s (i+1)).toNat:Int)==39))=false)
  (hr:(quoF (dr s i) acc).map (fun r=>(r.1,i+r.2))=quoP s n):quoP s n=some (acc,i+1):=by
 rw[q39]at hc;rw[<-hr,ZgY hi acc (beq39 hb) hc]
 rfl
theorem ZhJ{s:ByteArray}{i n:Nat}{acc:List UInt8}(hi:s.size<=i)(hr:(quoF (dr s i) acc).map (fun r=>(r.1,i+r.2))=quoP s n):quoP s n=none:=by
 rw[<-hr,Z4Y hi]
 rfl
theorem ZgB{w:ByteArray}{i:Nat}(hw: ∀b∈w.data.toList,wordB b=true)(hi:i<wordsB.length)(h:seq (wordsB.getD i ⟨#[]⟩) (bl (Lib.toUpperA w.data.toList))=true):wordL w.data.toList=(⟨1,bl (Lib.toUpperA w.data.toList),0⟩,0):=by
 unfold wordL;rw[Zcp (ZaD hw),if_pos (ZgT (p:=fun s=>seq s (bl (Lib.toUpperA w.data.toList))) ⟨#[]⟩ hi h)]
theorem ZeO{w:ByteArray}{i:Nat}(hw: ∀b∈w.data.toList,wordB b=true)(hi:wordsB.length<=i)(h:(wordsB.take i).any (fun s=>seq s (bl (Lib.toUpperA w.data.toList)))=false):wordL w.data.toList=if decide (32<(w.size:Int))then(t3D,30)else(⟨2,bl (Lib.toLowerA w.data.toList),0⟩,0):=by
 unfold wordL;rw[List.take_of_length_le hi]at h;rw[Zcp (ZaD hw),h,Z1B]
 rfl
theorem Zcn(w:ByteArray)(hw: ∀b∈w.data.toList,wordB b=true)(hs:w.size<=2048):CallTy Tryz.prog Zcq [.is (.string w)] (.tup2 (.is (tv (wordL w.data.toList).1)) (.is (.int .i64 (wordL w.data.toList).2))):=
 CallTy.of (fn:=Tryz.f68) Tryz.func68 (n:=31) rfl rfl rfl (fun _ _=>by kernel_rfl) fun E W=>by
 refine vQ ?_;refine JO.alloc Z1q rfl fun b2=>(Ja rfl (vP [0,2] ?_));refine Jm rfl (Jq (ZN rfl (c_up w hs) qA) ?_);refine Ja rfl (vP [0,2,4] ?_);refine Jq (ZN rfl (Zc1) .nil) (Ja rfl (vS [0,2,4,5] ?_));refine J.openSl (s:=5) rfl (fun a len cap b o hlen ha=>?_);subst hlen;have w44:wordsB.length=44:=rfl;refine vQ ?_;refine Ja rfl (vS [0,2,4,5,6] ?_);apply yk
 repeat apply yQ
 refine J.loopG (α:=Nat) (fun i=>[(0,.is (.string w)),(2,.is (.pointer (some ⟨b2,0,none⟩))),(4,.is (.string (bl (Lib.toUpperA w.data.toList)))),(5,.is (.slice a wordsB.length cap)),(6,.is (.int .i64 (i:Nat)))]) (fun i=>[⟨b2,Z1h,.is (tv t3D)⟩]) (fun i=>fun _=>True) (fun i=>i<=wordsB.length/\(wordsB.take i).any (fun s=>seq s (bl (Lib.toUpperA w.data.toList)))=false) (fun i=>wordsB.length-i) 0 [0,2,4,5,6] (.cons rfl (.cons rfl (.cons rfl (.cons rfl (.cons rfl .nil))))) rfl (fun _=>trivial) ⟨by omega,rfl⟩ fun i ⟨hi,hr⟩=>?_;refine vQ ?_;refine Jm rfl (Jm rfl (Jq (ZD Z1K rfl) (Jq (Z10 rfl rfl) (vS [0,2,4,5,6,13] ?_))));refine yC rfl (fun ht13=>?_) (fun ht13=>?_)
 try simp only[yd,yf]at ht13
 apply yK;refine vN ?_;apply yk;refine vQ ?_;refine Jm rfl (Jm rfl (Jq (Zi Z3m rfl (ha qM) rfl qM qM) ?_));refine Jq (Z17 (enc:=strC) (sz:=1) (len:=wordsB.length) (i:=i) (j:=0) (y:=wordsB.getD i ⟨#[]⟩) Zr rfl qI (ha qM) (Zhv qM) (by simp) rfl) ?_;refine Jm rfl (Jq (Z2g rfl rfl) (vS [0,2,4,5,6,21] ?_));refine yC rfl (fun ht21=>?_) (fun ht21=>?_);have hx:=ZgB hw (i:=i) qM ht21;refine vQ ?_;refine Jm rfl (Jq (Zd (cs:=[_,_,_]) Z1b (.cons rfl (.cons rfl .nil)) rfl rfl) (JO.m (Z2 rfl rfl qU qC qO ZL) (by rfl) ?_));refine Ja rfl (vS [2,3] ?_);refine vR ?_;exact JX.retC1is rfl rfl ZM HasOwn.mem rfl rfl (by rw[hx]) (by rw[hx]);apply yK;refine vN ?_;apply yN;refine Jm rfl (Jq (Zv (cc:=((i+1:Nat):Int)) rfl rfl qM qM qM) ?_);refine Ja rfl ?_;apply yI
 repeat refine JX.normal_block ?_
 refine JX.roundG (x:=i) (i+1) ?_ ?_ [0,2,4,5,6] ?_ ?_ ?_ ?_
 · exact⟨by omega,by rw[Zgw _ ⟨#[]⟩ qM,hr,ht21];rfl⟩
 · exact qM
 · exact qS
 · exact qH
 · exact qG
 · exact fun _ _ _=>fun _ _=>trivial
 try simp only[yd,yf]at ht13
 repeat apply yQ
 refine J.exit ?_
 repeat first|refine yH ?_|refine yM rfl ?_|refine yE ?_
 repeat first|apply yX|apply yB
 have hx:=ZeO hw (i:=i) qM hr;refine vQ ?_;refine Jm rfl (Jq (Z1X Zf rfl) (Jq (Z1r rfl rfl) (vS [0,2,26] ?_)));refine yC rfl (fun ht26=>?_) (fun ht26=>?_)
 try simp only[yd,yf]at ht26
 refine vQ ?_;refine Jq (Zd (cs:=[_,_,_]) Z1b .nil rfl rfl) (JO.m (Z2 rfl rfl qU qC qO ZL) (by rfl) ?_);refine Ja rfl (vS [2,3] ?_);refine vR ?_;exact JX.retC1is rfl rfl ZM HasOwn.mem rfl rfl (by rw[hx,if_pos (decide_eq_true ht26)];rfl) (by rw[hx,if_pos (decide_eq_true ht26)])
 try simp only[yd,yf]at ht26
 apply yK;refine vN ?_;apply yN;refine Jm rfl (Jq (ZN rfl (ZiD w hs) qA) ?_);refine Jq (Zd (cs:=[_,_,_]) Z1b (.cons rfl (.cons rfl .nil)) rfl rfl) (JO.m (Z2 rfl rfl qU qC qO ZL) (by rfl) ?_);refine Ja rfl (vS [2,3] ?_);refine vR ?_;exact JX.retC1is rfl rfl ZM HasOwn.mem rfl rfl (by rw[hx,if_neg (by rw[decide_eq_false ht26];simp)]) (by rw[hx,if_neg (by rw[decide_eq_false ht26];simp)])
theorem Zbn(s:ByteArray)(n:Nat)(hn:n<s.size)(hs:s.size<=2048):CallTy Tryz.prog Zbj [.is (.string s),.is (.int .i64 (n:Nat))] (.tup2 (.is (.string (quoS (quoP s n)))) (.is (.int .i64 (quoE (quoP s n))))):=
 CallTy.of (fn:=Tryz.f70) Tryz.func70 (n:=47) rfl rfl rfl (fun _ _=>by kernel_rfl) fun E W=>by
 refine vQ ?_;refine Ja rfl (Ja rfl (vP [0,1] ?_));refine Ja rfl (vP [0,1,6] ?_);refine Jm rfl (Jq (Zv (cc:=((n+1:Nat):Int)) rfl rfl qM qM qM) ?_);refine Ja rfl (vS [0,6,7] ?_);apply yk
 repeat apply yQ
 refine J.loopG (α:=Nat×List UInt8×Option (Nat×List Value)×Nat) (fun z=>[(0,.is (.string s)),(6,.is (sliceO z.2.2.1 z.2.1.length z.2.2.2)),(7,.is (.int .i64 (z.1:Nat)))]) (fun z=>ownO z.2.2.1 Z60 []) (fun z=>fun _=>True) (fun z=>z.1<=s.size/\(quoF (dr s z.1) z.2.1).map (fun r=>(r.1,z.1+r.2))=quoP s n/\Grows bC 1 z.2.1 z.2.2.1 z.2.2.2/\z.2.1.length<=z.1) (fun z=>s.size-z.1) (n+1,[],none,0) [0,6,7] (.cons rfl (.cons rfl (.cons rfl .nil))) rfl (fun _=>trivial) ⟨by omega,rfl,rfl,by simp⟩ fun⟨i,acc,st,cp⟩ ⟨hi,hx,hG,hal⟩=>?_;try dsimp only
 try dsimp only at hi
 try dsimp only at hx
 try dsimp only at hG
 try dsimp only at hal
 refine vQ ?_;refine Jm rfl (Jm rfl (Jq (Z1X Zf rfl) (Jq (Z10 rfl rfl) (vS [0,6,7,13] ?_))));refine yC rfl (fun ht13=>?_) (fun ht13=>?_)
 try simp only[yd,yf]at ht13
 apply yK;refine vN ?_;apply yk;refine vQ ?_;refine Jm rfl (Jm rfl (Jq (Z1v Zf rfl rfl qM qM) ?_));refine Jq (Z28 rfl rfl) (vS [0,6,7,19] ?_);refine yC rfl (fun ht19=>?_) (fun ht19=>?_);refine vQ ?_;refine Jm rfl (Jm rfl (Jm rfl (Jq (Z1v Zf rfl rfl qM qM) ?_)));refine Jq (ZI (cs:=[_]) Z4c qM qM (.cons rfl .nil) rfl rfl rfl) ?_;refine JO.apP [by_ s i] Z4b Z5r (by repeat(first|exact .here|apply Cx.past|apply Cx.there)) hG rfl rfl (fun L=>Z3u Z2f rfl rfl) (by simp) (by simp;omega) (by simp;omega) rfl (fun st1 cp1 hG1=>?_);refine Ja rfl (vS [0,6,7] ?_);refine J.exit ?_
 repeat first|refine yH ?_|refine yM rfl ?_|refine yE ?_
 refine vN ?_;apply yN;refine Jm rfl (Jq (Zv (cc:=((i+1:Nat):Int)) rfl rfl qM qM qM) ?_);refine Ja rfl ?_;apply yI
 repeat refine JX.normal_block ?_
 refine JX.roundG (x:=⟨i,acc,st,cp⟩) (i+1,acc++[by_ s i],st1,cp1) ?_ ?_ [0,6,7] ?_ ?_ ?_ ?_
 · exact⟨by omega,Zcr (Zi3 qM acc (bne39 ht19)) hx,hG1,by simp;omega⟩
 · exact(by simp only;omega)
 · exact qS
 · exact qH
 · exact qG
 · exact fun _ _ _=>fun _ _=>trivial
 apply yK;refine vN ?_;refine J.reg0 hmx qK qK ?_;refine yz (Z1 rfl) (yz (Zv (cc:=((i+1:Nat):Int)) rfl rfl qM qM qM) ?_);refine yz (Z1 rfl) (yz (Z1X Zf rfl) (yz (Z10 rfl rfl) (yz (Z1 rfl) (yg rfl rfl rfl (fun hg=>Z1 (.inl rfl)) (yg rfl rfl rfl (fun hg=>Z1 (.inl rfl)) (yg rfl rfl rfl (fun hg=>Zv (cc:=((i+1:Nat):Int)) (qR rfl) (.inl rfl) qM qM qM) ?_))))));refine yg rfl rfl rfl (fun hg=>Z1v Zf (qR rfl) (qR rfl) (by have h:=hg;simp only[decide_eq_true_eq]at h;omega) (by have h:=hg;simp only[decide_eq_true_eq]at h;omega)) ?_;refine yg rfl rfl rfl (fun hg=>ZP (qR rfl) (.inl rfl)) ?_;refine yz (Zl rfl rfl rfl id) ?_;apply yn;refine FinS.nil0 ?_;refine vS [0,6,7,37] ?_;refine yC rfl (fun ht37=>?_) (fun ht37=>?_);refine vQ ?_;refine Jm rfl (Jq (ZI (cs:=[_]) Z4c qM qM (.cons rfl .nil) rfl rfl rfl) ?_);refine JO.apP [39] Z4b Z5r (by repeat(first|exact .here|apply Cx.past|apply Cx.there)) hG rfl rfl (fun L=>Z3u Z2f rfl rfl) (by simp) (by simp;omega) (by simp;omega) rfl (fun st1 cp1 hG1=>?_);refine Ja rfl (vP [0,6,7] ?_);refine Jm rfl (Jq (Zv (cc:=((i+1:Nat):Int)) rfl rfl qM qM qM) ?_);refine Ja rfl (vS [0,6,7] ?_);refine J.exit ?_
 repeat first|refine yH ?_|refine yM rfl ?_|refine yE ?_
 refine vN ?_;apply yN;refine Jm rfl (Jq (Zv (cc:=((i+2:Nat):Int)) rfl rfl qM qM qM) ?_);refine Ja rfl ?_;apply yI
 repeat refine JX.normal_block ?_
 refine JX.roundG (x:=⟨i,acc,st,cp⟩) (i+2,acc++[39],st1,cp1) ?_ ?_ [0,6,7] ?_ ?_ ?_ ?_
 · exact⟨by have h:=(Bool.and_eq_true _ _ ▸ ht37:_/\_).1;simp only[decide_eq_true_eq]at h;dsimp only;omega,Zcr (Zgb qM ht19 ht37) hx,hG1,by simp;omega⟩
 · exact(by simp only;omega)
 · exact qS
 · exact qH
 · exact qG
 · exact fun _ _ _=>fun _ _=>trivial
 apply yK
 repeat first|apply yX|apply yB
 have hq:=Zg0 qM ht19 ht37 hx;refine J.freezeO Z5r hG (e:=Z60) yV (fun _ h=>h) rfl rfl ?_;obtain⟨cap2,hso⟩:=Z9A hG;rw[hso];refine vQ ?_;refine Jm rfl (Jq (Zdp Z2f Z4v Zf rfl qI) ?_);refine Jm rfl (Jq (Zv (cc:=((i+1:Nat):Int)) rfl rfl qM qM qM) ?_);refine Ja rfl (Ja rfl (vS [4,5] ?_));refine vR ?_;exact JX.ret2is rfl rfl rfl (by rw[hq];rfl) (by rw[hq];rfl)
 try simp only[yd,yf]at ht13
 repeat apply yQ
 refine J.exit ?_
 repeat first|refine yH ?_|refine yM rfl ?_|refine yE ?_
 repeat first|apply yX|apply yB
 have hq:=ZhJ qM hx;refine vQ ?_;refine Ja rfl (Ja rfl (vS [4,5] ?_));refine vR ?_;exact JX.ret2is rfl rfl rfl (by rw[hq];rfl) (by rw[hq];rfl)
end Go.Proofs.YtbedigkncjbggaaGreatDoor
set_option maxRecDepth 20000
namespace Go.Proofs.YtbedigkncjbggaaGreatDoor
open Go Go.Vc
theorem Zc5(b:UInt8):(classF b.toNat==1)=letB b:=(Z9U b).1
theorem Zd2(b:UInt8):((classF b.toNat==1)||(classF b.toNat==2))=wordB b:=(Z9U b).2.1
theorem Zc6(b:UInt8):(classF b.toNat==2)=digB b:=(Z9U b).2.2.1
theorem k_sp(b:UInt8):(classF b.toNat==3)=isSp b:=(Z9U b).2.2.2.1
theorem Z8P{s:ByteArray}{i:Nat}{xs:List T3}{X:List T3×Int}{t:T3}{e:Int}{k:Nat}(h:i<s.size)(hsp:isSp (by_ s i)=false)(hst:stepL (dr s i)=((t,e),k))(he:e=0)(hr:finA xs (allA (dr s i))=X):finA (xs++[t]) (allA (dr s (i+k)))=X:=by
 have hs0:runN isSp (dr s i)=0:=Z5U fun _=>hsp;subst he;rw[<-hr,Z9y hs0 (ZeK h),hst,if_neg (by simp),ZcZ,Z4E]
theorem Z8m{s:ByteArray}{i:Nat}{xs:List T3}{X:List T3×Int}{t:T3}{e:Int}{k:Nat}(h:i<s.size)(hsp:isSp (by_ s i)=false)(hst:stepL (dr s i)=((t,e),k))(he:e≠0)(hr:finA xs (allA (dr s i))=X):X=([],e):=by
 have:=Zea h (Z5U fun _=>hsp) (by rw[hst];exact he) hr;rw[hst]at this;exact this
theorem ZfN{s:ByteArray}{i:Nat}{xs:List T3}{X:List T3×Int}(h:i<s.size)(hsp:isSp (by_ s i)=true)(hr:finA xs (allA (dr s i))=X):finA xs (allA (dr s (i+1)))=X:=by
 rw[<-hr,<-Z9S (dr s i),<-Z9S (dr s (i+1)),Z4E,Z4E,Z6Y h hsp,show i+(runN isSp (dr s (i+1))+1)=i+1+runN isSp (dr s (i+1)) by omega]
theorem Zf2{s:ByteArray}(h:s.size<=2048):finA [] (allA (dr s 0))=lexL s.data.toList:=by
 rw[Zcj];unfold lexL;rw[if_neg (by rw[Z1B];simp;omega)]
 rfl
theorem Zem{s:ByteArray}{i:Nat}(h:i<s.size)(hl:letB (by_ s i)=true):stepL (dr s i)=(((wordL (s.extract i (i+runN wordB (dr s i))).data.toList).1,(wordL (s.extract i (i+runN wordB (dr s i))).data.toList).2),runN wordB (dr s i)):=by
 show _=(wordL (s.extract i (i+runN wordB (dr s i))).data.toList,runN wordB (dr s i));rw[Z1o,Z1t h,stepL,if_pos hl]
theorem ZcL{s:ByteArray}{i:Nat}(h:i<s.size)(hl:letB (by_ s i)=false)(hd:digB (by_ s i)=true):stepL (dr s i)=(numL (dr s i),runN digB (dr s i)):=by
 rw[Z1t h,stepL,if_neg (by rw[hl];simp),if_pos hd]
theorem Ze4{s:ByteArray}{i:Nat}(h:i<s.size)(hl:letB (by_ s i)=false)(hd:digB (by_ s i)=false)(hq:(by_ s i==39)=true):stepL (dr s i)=((textL (dr s (i+1)) []).1,(textL (dr s (i+1)) []).2+1):=by
 rw[Z1t h,stepL,if_neg (by rw[hl];simp),if_neg (by rw[hd];simp),if_pos hq]
theorem ZdO{s:ByteArray}{i:Nat}(h:i<s.size)(hl:letB (by_ s i)=false)(hd:digB (by_ s i)=false)(hq:(by_ s i==39)=false):stepL (dr s i)=signL (dr s i):=by
 rw[Z1t h,stepL,if_neg (by rw[hl];simp),if_neg (by rw[hd];simp),if_neg (by rw[hq];simp)]
theorem Zgf(s:ByteArray)(n:Nat): ∀b∈(s.extract n (n+runN wordB (dr s n))).data.toList,wordB b=true:=fun b h=>by
 rw[Z1o]at h;exact Z9Z wordB _ b h
theorem Zhs{s:ByteArray}{i:Nat}{xs:List T3}{X:List T3×Int}(h:i<s.size)(hsp:isSp (by_ s i)=false)(hl:letB (by_ s i)=false)(hd:digB (by_ s i)=true)(hh:headP letB ((dr s i).drop (runN digB (dr s i)))=true)(hr:finA xs (allA (dr s i))=X):X=([],30):=
 Z8m (t:=t3D) (k:=runN digB (dr s i)) h hsp (by rw[ZcL h hl hd,ZgS hh]) qD hr
theorem Zg5{s:ByteArray}{i:Nat}{xs:List T3}{X:List T3×Int}(h:i<s.size)(hsp:isSp (by_ s i)=false)(hl:letB (by_ s i)=false)(hd:digB (by_ s i)=true)(hh:headP letB ((dr s i).drop (runN digB (dr s i)))=false)(ho:(refNum (s.extract i (i+runN digB (dr s i))).data.toList).2=false)(hr:finA xs (allA (dr s i))=X):X=([],35):=by
 rw[Z1o]at ho;exact Z8m (t:=t3D) (k:=runN digB (dr s i)) h hsp (by rw[ZcL h hl hd,Zef hh,if_neg (by rw[ho];simp)]) qD hr
theorem Zic{s:ByteArray}{i:Nat}(h:i<s.size)(hl:letB (by_ s i)=false)(hd:digB (by_ s i)=true)(hh:headP letB ((dr s i).drop (runN digB (dr s i)))=false)(ho:(refNum (s.extract i (i+runN digB (dr s i))).data.toList).2=true):stepL (dr s i)=((⟨3,⟨#[]⟩,(refNum (s.extract i (i+runN digB (dr s i))).data.toList).1⟩,0),runN digB (dr s i)):=by
 rw[Z1o]at ho ⊢;rw[ZcL h hl hd,Zef hh,if_pos ho]
theorem ZhT{s:ByteArray}{i:Nat}{xs:List T3}{X:List T3×Int}(h:i<s.size)(hsp:isSp (by_ s i)=false)(hl:letB (by_ s i)=false)(hd:digB (by_ s i)=false)(hq:(by_ s i==39)=true)(ht:(decide (quoE (quoP s i)<0)||decide (64<((quoS (quoP s i)).size:Int)))=true)(hr:finA xs (allA (dr s i))=X):X=([],30):=by
 obtain⟨q1,q2⟩:=Z93 (dr s (i+1)) [];refine Z8m (t:=t3D) (k:=(textL (dr s (i+1)) []).2+1) h hsp ?_ qD hr;rw[Ze4 h hl hd hq];cases e:quoF (dr s (i+1)) []with
 |none=>rw[q1 e]
 |some r=>
   have e2:quoP s i=some (r.1,i+1+r.2):=by unfold quoP;rw[e];rfl
   rw[e2]at ht;have h3:64<(r.1.length:Int):=by
     simp only[quoE,quoS,Bool.or_eq_true,decide_eq_true_eq,Z8w]at ht;rcases ht with ht|ht
     · exact absurd (of_decide_eq_true ht) (Int.not_lt.2 (Int.natCast_nonneg _))
     · first|exact ht|exact of_decide_eq_true ht
   have:textL (dr s (i+1)) []=((t3D,30),r.2):=by
     rw[q2 r e];unfold endT;rw[if_pos (decide_eq_true h3)]
   rw[this]
theorem Zin{s:ByteArray}{i:Nat}(h:i<s.size)(hl:letB (by_ s i)=false)(hd:digB (by_ s i)=false)(hq:(by_ s i==39)=true)(ht:(decide (quoE (quoP s i)<0)||decide (64<((quoS (quoP s i)).size:Int)))=false):
   ∃acc r,quoP s i=some (acc,i+r)/\1<=r/\stepL (dr s i)=((⟨4,bl acc,0⟩,0),r):=by
 obtain⟨q1,q2⟩:=Z93 (dr s (i+1)) [];cases e:quoF (dr s (i+1)) []with
 |none=>
   have e2:quoP s i=none:=by unfold quoP;rw[e];rfl
   rw[e2]at ht
   simp[quoE]at ht
 |some r=>
   have e2:quoP s i=some (r.1,i+1+r.2):=by unfold quoP;rw[e];rfl
   rw[e2]at ht;have h3: ¬64<(r.1.length:Int):=by
     simp only[quoE,quoS,Bool.or_eq_false_iff,decide_eq_false_iff_not,Z8w]at ht;exact ht.2
   refine⟨r.1,r.2+1,by rw[e2,show i+1+r.2=i+(r.2+1) by omega],by omega,?_⟩;rw[Ze4 h hl hd hq,q2 r e];unfold endT;rw[if_neg (by rw[decide_eq_false h3];simp)]
theorem ZcN(s:ByteArray)(i:Nat)(h:i<=s.size):(s.extract i s.size).data.toList=dr s i:=by
 have:=Z1o s i (s.size-i);rw[show i+(s.size-i)=s.size by omega]at this;rw[this,List.take_of_length_le (by rw[Z4Q];exact Nat.le_refl _)]
theorem Zh0(l:List UInt8): ∃k:Nat,signRF l=(k:Int)/\k<=2:=by
 unfold signRF
 split
 · exact⟨2,rfl,by omega⟩
 · split
   · exact⟨1,rfl,by omega⟩
   · exact⟨0,rfl,by omega⟩
theorem ZfS{b:UInt8}(h:isSp b=false):b≠32:=fun e=>by subst e;cases h
theorem ZhP{s:ByteArray}{i k:Nat}{xs:List T3}{X:List T3×Int}(h:i<s.size)(hsp:isSp (by_ s i)=false)(hl:letB (by_ s i)=false)(hd:digB (by_ s i)=false)(hq:(by_ s i==39)=false)(hk:signRF (dr s i)=(k:Int))(h0:((k:Int)==0)=true)(hr:finA xs (allA (dr s i))=X):X=([],30):=by
 refine Z8m (t:=t3D) (k:=0) h hsp ?_ qD hr;rw[ZdO h hl hd hq];have h1:=Z1t h;rw[h1]at hk ⊢;rw[Zeh (ZfS hsp),hk,if_pos (by simpa using h0)]
theorem Ziw{s:ByteArray}{i k:Nat}(h:i<s.size)(hsp:isSp (by_ s i)=false)(hl:letB (by_ s i)=false)(hd:digB (by_ s i)=false)(hq:(by_ s i==39)=false)(hk:signRF (dr s i)=(k:Int))(h0:((k:Int)==0)=false):stepL (dr s i)=((⟨5,s.extract i (i+k),0⟩,0),k):=by
 rw[ZdO h hl hd hq,ZcA];have h1:=Z1t h;rw[h1]at hk ⊢;rw[Zeh (ZfS hsp),hk,if_neg (by simpa using h0)]
 rfl
theorem ZdA(s:ByteArray):CallTy Tryz.prog Zdx [.is (.string s)] (.tup2 (.rep (SlC T3.cells 3 (lexL s.data.toList).1)) (.is (.int .i64 (lexL s.data.toList).2))):=
 CallTy.of (fn:=Tryz.f30) Tryz.func30 (n:=156) rfl rfl rfl (fun _ _=>by kernel_rfl) fun E W=>by
 refine vQ ?_;refine Ja rfl (Ja rfl (vP [0] ?_));refine Jm rfl (Jq (Z1X Zf rfl) (Jq (Z1r rfl rfl) (vS [0,17] ?_)));refine yC rfl (fun ht17=>?_) (fun ht17=>?_)
 try simp only[yd,yf]at ht17
 have hx:lexL s.data.toList=([],30):=by unfold lexL;rw[if_pos (by rw[Z1B];simpa using ht17)]
 refine vQ ?_;refine Ja rfl (Ja rfl (vS [2,3] ?_));refine vR ?_;exact JX.ret2sub rfl rfl rfl (by rw[hx];exact Sub.slNilC) rfl (Sub.isEq (by rw[hx]))
 try simp only[yd,yf]at ht17
 apply yK
 repeat first|apply yX|apply yB
 have hsz:s.size<=2048:=by omega
 refine vQ ?_;refine Ja rfl (vP [0,4] ?_);refine Ja rfl (vS [0,4,5] ?_);apply yk
 repeat apply yQ
 refine J.loopG (α:=Nat×List T3×Option (Nat×List Value)×Nat) (fun z=>[(0,.is (.string s)),(4,.is (sliceO z.2.2.1 z.2.1.length z.2.2.2)),(5,.is (.int .i64 (z.1:Nat)))]) (fun z=>ownO z.2.2.1 Z1h []) (fun z=>fun _=>True) (fun z=>z.1<=s.size/\finA z.2.1 (allA (dr s z.1))=lexL s.data.toList/\Grows T3.cells 3 z.2.1 z.2.2.1 z.2.2.2/\z.2.1.length<=z.1) (fun z=>s.size-z.1) (0,[],none,0) [0,4,5] (.cons rfl (.cons rfl (.cons rfl .nil))) rfl (fun _=>trivial) ⟨by omega,Zf2 hsz,rfl,by simp⟩ fun⟨i,xs,st,cp⟩ ⟨hi,hr,hG,hal⟩=>?_;try dsimp only
 try dsimp only at hi
 try dsimp only at hr
 try dsimp only at hG
 try dsimp only at hal
 refine vQ ?_;refine Jm rfl (Jm rfl (Jq (Z1X Zf rfl) (Jq (Z10 rfl rfl) (vS [0,4,5,21] ?_))));refine yC rfl (fun ht21=>?_) (fun ht21=>?_)
 try simp only[yd,yf]at ht21
 apply yK;refine vN ?_;apply yk;have hlt:i<s.size:=by omega
 refine vQ ?_;refine Jm rfl (Jm rfl (Jq (Z1v Zf rfl rfl qM qM) ?_));refine Jq (ZN rfl (Z49 _) (.one rfl .nil)) (Ja rfl (vP [0,4,5,6] ?_));refine Jm rfl (Ja rfl (vS [0,4,5,6,7] ?_));apply yk;refine vQ ?_;refine Jm rfl (Jq (ZP rfl rfl) (Ja rfl (vS [0,4,5,6,7,46] ?_)));refine yC rfl (fun ht46=>?_) (fun ht46=>?_);have hspt:isSp (by_ s i)=true:=by rw[<-k_sp];exact ht46
 refine vQ ?_;refine Jm rfl (Jq (Zv (cc:=((i+1:Nat):Int)) rfl rfl qM qM qM) ?_);refine Ja rfl ?_;apply yI
 repeat refine JX.normal_block ?_
 refine JX.roundG (x:=⟨i,xs,st,cp⟩) (i+1,xs,st,cp) ?_ ?_ [0,4,5] ?_ ?_ ?_ ?_
 · exact⟨by omega,ZfN hlt hspt hr,hG,by dsimp only;omega⟩
 · exact(by simp only;omega)
 · exact qS
 · exact qH
 · exact qG
 · exact fun _ _ _=>fun _ _=>trivial
 have hsp:isSp (by_ s i)=false:=by rw[<-k_sp];exact ht46
 refine vQ ?_;refine Jm rfl (Jq (ZP rfl rfl) (Ja rfl (vS [0,4,5,6,7,51] ?_)));refine yC rfl (fun ht51=>?_) (fun ht51=>?_)
 repeat apply yQ
 apply yk
 repeat apply yQ
 refine J.loopG (α:=Nat) (fun j=>[(0,.is (.string s)),(4,.is (sliceO st xs.length cp)),(5,.is (.int .i64 (j:Nat))),(7,.is (.int .i64 (i:Nat)))]) (fun j=>ownO st Z1h []) (fun j=>fun _=>True) (fun j=>j<=s.size/\j+runN wordB (dr s j)=i+runN wordB (dr s i)) (fun j=>s.size-j) i [0,4,5,7] (.cons rfl (.cons rfl (.cons rfl (.cons rfl .nil)))) rfl (fun _=>trivial) ⟨hi,rfl⟩ fun j ⟨hj,hjr⟩=>?_
 skip
 repeat apply yQ
 refine J.reg0 hmx qK qK ?_;refine yz (Z1 rfl) (yz (Z1 rfl) (yz (Z1X Zf rfl) (yz (Z10 rfl rfl) (yz (Z1 rfl) (yg rfl rfl rfl (fun hg=>Z1 (.inl rfl)) (yg rfl rfl rfl (fun hg=>Z1 (.inl rfl)) (yg rfl rfl rfl (fun hg=>Z1v Zf (qR rfl) (qR rfl) qM (by first|(have h:=hg;simp only[decide_eq_true_eq]at h;omega)|(have h:=hg.1;simp only[decide_eq_true_eq]at h;omega)|(simp at hg;omega))) ?_)))))));refine yg rfl rfl rfl (fun hg=>ZN (.inl rfl) (Z49 _) (.one (qR rfl) .nil)) ?_;refine yg rfl rfl rfl (fun hg=>ZP (qR rfl) (.inl rfl)) ?_;refine yg rfl rfl rfl (fun hg=>Z1 (qR rfl)) ?_;refine RT.gg rfl rfl rfl (fun hg=>(Z1 (.inl rfl))) ?_;refine RT.gg rfl rfl rfl (fun hg=>(Z1 (.inl rfl))) ?_;refine RT.gg rfl rfl rfl (fun hg=>(Z1v Zf (qR rfl) (qR rfl) qM (by first|(have h:=hg;simp only[decide_eq_true_eq]at h;omega)|(have h:=hg.1;simp only[decide_eq_true_eq]at h;omega)|(simp at hg;omega)))) ?_;refine RT.gg rfl rfl rfl (fun hg=>(ZN (.inl rfl) (Z49 _) (.one (qR rfl) .nil))) ?_;refine RT.gg rfl rfl rfl (fun hg=>(ZP (qR rfl) (.inl rfl))) ?_;refine yg rfl rfl rfl (fun hg=>Zw (qR rfl) (.inl rfl) (.inl rfl) (fun h=>⟨hg,h⟩)) ?_;refine yz (Zl rfl rfl rfl id) ?_;apply yn;refine FinS.nil0 ?_;refine vS [0,4,5,7,71] ?_;refine yC rfl (fun ht71=>?_) (fun ht71=>?_);apply yK;refine vN ?_;apply yk;have hlj:j<s.size:=by have h:=(Z3S ht71).1;simp only[decide_eq_true_eq]at h;omega
 refine vQ ?_;refine Jm rfl (Jq (Zv (cc:=((j+1:Nat):Int)) rfl rfl qM qM qM) ?_);refine Ja rfl ?_;apply yI
 repeat refine JX.normal_block ?_
 refine JX.roundG (x:=j) (j+1) ?_ ?_ [0,4,5,7] ?_ ?_ ?_ ?_
 · exact⟨by omega,by rw[<-hjr,Z6Y hlj (by rw[<-Zd2];exact(Z3S ht71).2)];omega⟩
 · exact qM
 · exact qS
 · exact qH
 · exact qG
 · exact fun _ _ _=>fun _ _=>trivial
 repeat apply yQ
 refine J.exit ?_
 repeat first|refine yH ?_|refine yM rfl ?_|refine yE ?_
 repeat first|apply yX|apply yB
 have he:j=i+runN wordB (dr s i):=by
   rw[<-hjr,Z5U fun h=>by have h2:(decide ((j:Int)<s.size)&&wordB (by_ s j))=false:=(by rw[<-Zd2];exact ht71);simpa [h] using h2]
   rfl
 subst he;have hle:letB (by_ s i)=true:=by rw[<-Zc5];exact ht51
 have hpos:1<=runN wordB (dr s i):=by rw[Z6Y hlt (by rw[<-Zd2,Bool.or_eq_true];exact Or.inl (by rw[Zc5];exact hle))];omega
 refine vQ ?_;refine Jm rfl (Jm rfl (Jm rfl (Jq (Z5l Zf rfl rfl rfl qM qM qM) ?_)));refine Jq (ZN rfl (Zcn (s.extract i (i+runN wordB (dr s i))) (Zgf s i) (by have h1:=Z4t s i (runN wordB (dr s i));omega)) qA) ?_;refine Jm rfl (Jq (Z2c rfl) (Jq (Z2d rfl) (JO.alloc Z1q rfl fun b8=>(JO.m (Z2 rfl rfl qU qC qO ZL) (by rfl) ?_))));refine Ja rfl (vP [0,4,5,8,9] ?_);refine Jm rfl (Jq (Z28 rfl rfl) (vS [0,4,5,8,9,83] ?_));refine yC rfl (fun ht83=>?_) (fun ht83=>?_);have hx:=Z8m hlt hsp (Zem hlt hle) (by simpa using ht83) hr;refine vQ ?_;refine Jm rfl (Ja rfl (Ja rfl (vS [2,3] ?_)));refine vR ?_;exact JX.ret2sub rfl rfl rfl (by rw[hx];exact Sub.slNilC) rfl (Sub.isEq (by rw[hx]));apply yK;refine vN ?_;apply yN;refine Jm rfl (Jq (ZU (cs:=[_,_,_]) ZM rfl rfl rfl) (Jq (ZI (cs:=[_,_,_]) Z3B qM qM (.cons rfl .nil) rfl rfl rfl) ?_));refine JO.apP [(wordL (s.extract i (i+runN wordB (dr s i))).data.toList).1] Z3y T3.len (by repeat(first|exact .here|apply Cx.past|apply Cx.there)) hG rfl rfl (fun L=>Z3u ZR rfl rfl) (by simp) (by simp;omega) (by simp;omega) rfl (fun st1 cp1 hG1=>?_);refine Ja rfl ?_;apply yI
 repeat refine JX.normal_block ?_
 refine JX.roundG (x:=⟨i,xs,st,cp⟩) (i+runN wordB (dr s i),xs++[(wordL (s.extract i (i+runN wordB (dr s i))).data.toList).1],st1,cp1) ?_ ?_ [0,4,5] ?_ ?_ ?_ ?_
 · exact⟨Z9L hi,Z8P hlt hsp (Zem hlt hle) (by simpa using ht83) hr,hG1,by simp;omega⟩
 · exact(by simp only;omega)
 · exact qS
 · exact qH
 · exact qG
 · exact fun _ _ _=>fun _ _=>trivial
 have hle:letB (by_ s i)=false:=by rw[<-Zc5];exact ht51
 refine vQ ?_;refine Jm rfl (Jq (ZP rfl rfl) (Ja rfl (vS [0,4,5,7,89] ?_)));refine yC rfl (fun ht89=>?_) (fun ht89=>?_)
 repeat apply yQ
 apply yk
 repeat apply yQ
 refine J.loopG (α:=Nat) (fun j=>[(0,.is (.string s)),(4,.is (sliceO st xs.length cp)),(5,.is (.int .i64 (j:Nat))),(7,.is (.int .i64 (i:Nat)))]) (fun j=>ownO st Z1h []) (fun j=>fun _=>True) (fun j=>j<=s.size/\j+runN digB (dr s j)=i+runN digB (dr s i)) (fun j=>s.size-j) i [0,4,5,7] (.cons rfl (.cons rfl (.cons rfl (.cons rfl .nil)))) rfl (fun _=>trivial) ⟨hi,rfl⟩ fun j ⟨hj,hjr⟩=>?_
 repeat apply yQ
 refine J.reg0 hmx qK qK ?_;refine yz (Z1 rfl) (yz (Z1 rfl) (yz (Z1X Zf rfl) (yz (Z10 rfl rfl) (yz (Z1 rfl) (yg rfl rfl rfl (fun hg=>Z1 (.inl rfl)) (yg rfl rfl rfl (fun hg=>Z1 (.inl rfl)) (yg rfl rfl rfl (fun hg=>Z1v Zf (qR rfl) (qR rfl) qM (by first|(have h:=hg;simp only[decide_eq_true_eq]at h;omega)|(have h:=hg.1;simp only[decide_eq_true_eq]at h;omega)|(simp at hg;omega))) ?_)))))));refine yg rfl rfl rfl (fun hg=>ZN (.inl rfl) (Z49 _) (.one (qR rfl) .nil)) ?_;refine yg rfl rfl rfl (fun hg=>ZP (qR rfl) (.inl rfl)) ?_;refine yz (Zl rfl rfl rfl id) ?_;apply yn;refine FinS.nil0 ?_;refine vS [0,4,5,7,102] ?_;refine yC rfl (fun ht102=>?_) (fun ht102=>?_);apply yK;refine vN ?_;apply yk;have hlj:j<s.size:=by have h:=(Z3S ht102).1;simp only[decide_eq_true_eq]at h;omega
 refine vQ ?_;refine Jm rfl (Jq (Zv (cc:=((j+1:Nat):Int)) rfl rfl qM qM qM) ?_);refine Ja rfl ?_;apply yI
 repeat refine JX.normal_block ?_
 refine JX.roundG (x:=j) (j+1) ?_ ?_ [0,4,5,7] ?_ ?_ ?_ ?_
 · exact⟨by omega,by rw[<-hjr,Z6Y hlj (by rw[<-Zc6];exact(Z3S ht102).2)];omega⟩
 · exact qM
 · exact qS
 · exact qH
 · exact qG
 · exact fun _ _ _=>fun _ _=>trivial
 repeat apply yQ
 refine J.exit ?_
 repeat first|refine yH ?_|refine yM rfl ?_|refine yE ?_
 repeat first|apply yX|apply yB
 have he:j=i+runN digB (dr s i):=by
   rw[<-hjr,Z5U fun h=>by have h2:(decide ((j:Int)<s.size)&&digB (by_ s j))=false:=(by rw[<-Zc6];exact ht102);simpa [h] using h2]
   rfl
 subst he;have hdg:digB (by_ s i)=true:=by rw[<-Zc6];exact ht89
 have hpos:1<=runN digB (dr s i):=by rw[Z6Y hlt hdg];omega
 have hrl:i+runN digB (dr s i)<=s.size:=Z9L hi;have hh:headP letB ((dr s i).drop (runN digB (dr s i)))=(decide (((i+runN digB (dr s i):Nat):Int)<s.size)&&letB (by_ s (i+runN digB (dr s i)))):=by rw[Z4E];exact Ze1 letB s _
 rw[<-Zc5]at hh
 repeat apply yQ
 refine J.reg0 hmx qK qK ?_;refine yz (Z1 rfl) (yz (Z1 rfl) (yz (Z1X Zf rfl) (yz (Z10 rfl rfl) (yz (Z1 rfl) (yg rfl rfl rfl (fun hg=>Z1 (.inl rfl)) (yg rfl rfl rfl (fun hg=>Z1 (.inl rfl)) (yg rfl rfl rfl (fun hg=>Z1v Zf (qR rfl) (qR rfl) qM (by first|(have h:=hg;simp only[decide_eq_true_eq]at h;omega)|(have h:=hg.1;simp only[decide_eq_true_eq]at h;omega)|(simp at hg;omega))) ?_)))))));refine yg rfl rfl rfl (fun hg=>ZN (.inl rfl) (Z49 _) (.one (qR rfl) .nil)) ?_;refine yg rfl rfl rfl (fun hg=>ZP (qR rfl) (.inl rfl)) ?_;refine yz (Zl rfl rfl rfl id) ?_;apply yn;refine FinS.nil0 ?_;refine vS [0,4,5,7,115] ?_;refine yC rfl (fun ht115=>?_) (fun ht115=>?_);have hx:=Zhs hlt hsp hle hdg (hh.trans ht115) hr;refine vQ ?_;refine Ja rfl (Ja rfl (vS [2,3] ?_));refine vR ?_;exact JX.ret2sub rfl rfl rfl (by rw[hx];exact Sub.slNilC) rfl (Sub.isEq (by rw[hx]));apply yK;refine vN ?_;apply yN;refine Jm rfl (Jm rfl (Jm rfl (Jq (Z5l Zf rfl rfl rfl qM qM qM) ?_)));refine Jq (ZN rfl (Zb1 (s.extract i (i+runN digB (dr s i))) (by have h1:=Z4t s i (runN digB (dr s i));omega)) qA) ?_;refine Jm rfl (Jq (Z2c rfl) (Jq (Z2d rfl) (Ja rfl (Ja rfl (vP [0,4,5,10,11] ?_)))));refine Jm rfl (Jq (Z22 rfl) (vS [0,4,5,10,125] ?_));refine yC rfl (fun ht125=>?_) (fun ht125=>?_);have hx:=Zg5 hlt hsp hle hdg (hh.trans ht115) (by simpa using ht125) hr;refine vQ ?_;refine Ja rfl (Ja rfl (vS [2,3] ?_));refine vR ?_;exact JX.ret2sub rfl rfl rfl (by rw[hx];exact Sub.slNilC) rfl (Sub.isEq (by rw[hx]));apply yK
 repeat first|apply yX|apply yB
 have hst:=Zic hlt hle hdg (hh.trans ht115) (by simpa using ht125);refine vQ ?_;refine Jm rfl (Jm rfl (Jq (Zd (cs:=[_,_,_]) Z1b (.cons rfl (.cons rfl .nil)) rfl rfl) (Jq (ZI (cs:=[_,_,_]) Z3B qM qM (.cons rfl .nil) rfl rfl rfl) ?_)));refine JO.apP [⟨3,⟨#[]⟩,(refNum (s.extract i (i+runN digB (dr s i))).data.toList).1⟩] Z3y T3.len (by repeat(first|exact .here|apply Cx.past|apply Cx.there)) hG rfl rfl (fun L=>Z3u ZR rfl rfl) (by simp) (by simp;omega) (by simp;omega) rfl (fun st1 cp1 hG1=>?_);refine Ja rfl ?_;apply yI
 repeat refine JX.normal_block ?_
 refine JX.roundG (x:=⟨i,xs,st,cp⟩) (i+runN digB (dr s i),xs++[⟨3,⟨#[]⟩,(refNum (s.extract i (i+runN digB (dr s i))).data.toList).1⟩],st1,cp1) ?_ ?_ [0,4,5] ?_ ?_ ?_ ?_
 · exact⟨Z9L hi,Z8P hlt hsp hst rfl hr,hG1,by simp;omega⟩
 · exact(by simp only;omega)
 · exact qS
 · exact qH
 · exact qG
 · exact fun _ _ _=>fun _ _=>trivial
 have hdg:digB (by_ s i)=false:=by rw[<-Zc6];exact ht89
 refine vQ ?_;refine Jm rfl (Jm rfl (Jq (Z1v Zf rfl rfl qM qM) ?_));refine Jq (ZP rfl rfl) (Ja rfl (vS [0,4,5,131] ?_));refine yC rfl (fun ht131=>?_) (fun ht131=>?_);have hq39:(by_ s i==39)=true:=by rw[<-q39];exact ht131
 refine vQ ?_;refine Jm rfl (Jm rfl (Jq (ZN rfl (Zbn s i hlt hsz) qA) ?_));refine Jm rfl (Jq (Z2c rfl) (Jq (Z2d rfl) (Ja rfl (Ja rfl (vS [0,4,12,13] ?_)))));refine J.reg0 hmx qK qK ?_;refine yz (Z1 rfl) (yz (Z10 rfl rfl) (yz (Z1 rfl) (yg rfl rfl rfl (fun hg=>Z1 (.inl rfl)) (yg rfl rfl rfl (fun hg=>Z1X Zf (qR rfl)) ?_))));refine yg rfl rfl rfl (fun hg=>Z1r (qR rfl) (.inl rfl)) ?_;refine yz (Zw rfl rfl rfl id) ?_;apply yn;refine FinS.nil0 ?_;refine vS [0,4,12,13,148] ?_;refine yC rfl (fun ht148=>?_) (fun ht148=>?_);have hx:=ZhT hlt hsp hle hdg hq39 ht148 hr;refine vQ ?_;refine Ja rfl (Ja rfl (vS [2,3] ?_));refine vR ?_;exact JX.ret2sub rfl rfl rfl (by rw[hx];exact Sub.slNilC) rfl (Sub.isEq (by rw[hx]));apply yK
 repeat first|apply yX|apply yB
 obtain⟨acc,r,hq,hr1,hst⟩:=Zin hlt hle hdg hq39 ht148;have hlr:i+r<=s.size:=by have h:=Z8r (dr s i);rw[hst,Z4Q]at h;dsimp only at h;omega
 rw[hq];refine vQ ?_;refine Jm rfl (Jm rfl (Jq (Zd (cs:=[_,_,_]) Z1b (.cons rfl (.cons rfl .nil)) rfl rfl) (Jq (ZI (cs:=[_,_,_]) Z3B qM qM (.cons rfl .nil) rfl rfl rfl) ?_)));refine JO.apP [⟨4,bl acc,0⟩] Z3y T3.len (by repeat(first|exact .here|apply Cx.past|apply Cx.there)) hG rfl rfl (fun L=>Z3u ZR rfl rfl) (by simp) (by simp;omega) (by simp;omega) rfl (fun st1 cp1 hG1=>?_);refine Ja rfl (vP [0,4,13] ?_);refine Jm rfl (Ja rfl ?_);apply yI
 repeat refine JX.normal_block ?_
 refine JX.roundG (x:=⟨i,xs,st,cp⟩) (i+r,xs++[⟨4,bl acc,0⟩],st1,cp1) ?_ ?_ [0,4,5] ?_ ?_ ?_ ?_
 · exact⟨hlr,Z8P hlt hsp hst rfl hr,hG1,by simp;omega⟩
 · exact(by simp only;omega)
 · exact qS
 · exact qH
 · exact qG
 · exact fun _ _ _=>fun _ _=>trivial
 have hq39:(by_ s i==39)=false:=by rw[<-q39];exact ht131
 obtain⟨k,hk,hk2⟩:=Zh0 (dr s i);refine vQ ?_;refine Jm rfl (Jm rfl (Jq (ZdG Zf rfl rfl qM qM) ?_));refine Jq (ZN rfl (Zc9 (s.extract i s.size) (by rw[<-Z1B,ZcN s i hi,Z4Q];omega) (by rw[<-Z1B,ZcN s i hi,Z4Q];omega)) qA) ?_;refine Ja rfl (vS [0,4,5,14] ?_);rw[ZcN s i hi,hk];refine vQ ?_;refine Jm rfl (Jq (ZP rfl rfl) (vS [0,4,5,14,32] ?_));refine yC rfl (fun ht32=>?_) (fun ht32=>?_);have hx:=ZhP hlt hsp hle hdg hq39 hk ht32 hr;refine vQ ?_;refine Ja rfl (Ja rfl (vS [2,3] ?_));refine vR ?_;exact JX.ret2sub rfl rfl rfl (by rw[hx];exact Sub.slNilC) rfl (Sub.isEq (by rw[hx]));apply yK
 repeat first|apply yX|apply yB
 have hst:=Ziw hlt hsp hle hdg hq39 hk ht32;have hlr:i+k<=s.size:=by have h:=Z8r (dr s i);rw[hst,Z4Q]at h;dsimp only at h;omega
 have hk1:1<=k:=by have h:=ht32;simp at h;omega
 refine vQ ?_;refine Jm rfl (Jm rfl (Jm rfl (Jm rfl (Jm rfl (Jq (Zv (cc:=((i+k:Nat):Int)) rfl rfl qM qM qM) ?_)))));refine Jq (Z5l Zf rfl rfl rfl qM qM qM) ?_;refine Jq (Zd (cs:=[_,_,_]) Z1b (.cons rfl (.cons rfl .nil)) rfl rfl) (Jq (ZI (cs:=[_,_,_]) Z3B qM qM (.cons rfl .nil) rfl rfl rfl) ?_);refine JO.apP [⟨5,s.extract i (i+k),0⟩] Z3y T3.len (by repeat(first|exact .here|apply Cx.past|apply Cx.there)) hG rfl rfl (fun L=>Z3u ZR rfl rfl) (by simp) (by simp;omega) (by simp;omega) rfl (fun st1 cp1 hG1=>?_);refine Ja rfl (vP [0,4,5,14] ?_);refine Jm rfl (Jm rfl (Jq (Zv (cc:=((i+k:Nat):Int)) rfl rfl qM qM qM) ?_));refine Ja rfl ?_;apply yI
 repeat refine JX.normal_block ?_
 refine JX.roundG (x:=⟨i,xs,st,cp⟩) (i+k,xs++[⟨5,s.extract i (i+k),0⟩],st1,cp1) ?_ ?_ [0,4,5] ?_ ?_ ?_ ?_
 · exact⟨hlr,Z8P hlt hsp hst rfl hr,hG1,by simp;omega⟩
 · exact(by simp only;omega)
 · exact qS
 · exact qH
 · exact qG
 · exact fun _ _ _=>fun _ _=>trivial
 try simp only[yd,yf]at ht21
 repeat apply yQ
 refine J.exit ?_
 repeat first|refine yH ?_|refine yM rfl ?_|refine yE ?_
 repeat first|apply yX|apply yB
 have hfin:lexL s.data.toList=(xs,0):=by rw[<-hr,Z4Y qM];simp[finA,Zcl]
 refine J.freezeO T3.len hG (e:=Z1h) yV (fun _ h=>h) rfl rfl ?_;refine vQ ?_;refine Jm rfl (Ja rfl (Ja rfl (vS [2,3] ?_)));refine vR ?_;exact JX.ret2sub rfl rfl rfl (by rw[hfin];exact Sub.slOC hG qI) rfl (Sub.isEq (by rw[hfin]))
end Go.Proofs.YtbedigkncjbggaaGreatDoor
