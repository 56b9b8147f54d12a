/- The scanner: its four methods. No condition. -/
import Derived.Test.YtbedigkncjbggaaGreatDoorXQ8
import Derived.Test.YtbedigkncjbggaaGreatDoorXG3
import Derived.Test.YtbedigkncjbggaaGreatDoorXQ7
import Derived.Test.YtbedigkncjbggaaGreatDoorXG7
import Derived.Test.YtbedigkncjbggaaGreatDoorXQ1
set_option maxRecDepth 20000
namespace Go.Proofs.YtbedigkncjbggaaGreatDoor
open Go Go.Vc
theorem Ze1(p:UInt8->Bool)(s:ByteArray)(i:Nat):headP p (dr s i)=(decide ((i:Int)<s.size)&&p (by_ s i)):=by
 by_cases h:i<s.size
 · rw[Z1t h,headP,decide_eq_true qM,Bool.true_and]
 · rw[Z4Y qM,headP,decide_eq_false qM,Bool.false_and]
theorem Zf1{s:ByteArray}{n:Nat}(hn:n<s.size)(q:Nat):tryL (dr s n) q=(decide (((n+q:Nat):Int)<=s.size)&&Lib.contains sgB.data.toList ((sp1++s.extract n (n+q))++sp1).data.toList):=by
 unfold tryL;rw[Z6Q,Z1o,Z4Q]
 congr 1
 exact decide_eq_decide.2 ⟨fun h=>by omega,fun h=>by omega⟩
theorem Zi7{l:List UInt8}{i:Nat}(h:i<l.length):l[i]? =some (l.getD i 0):=by simp[h]
theorem ZbD{α:Type}(f:α->UInt8->α){a:α}{l:List UInt8}{k:Nat}(h:k<l.length):(l.take (k+1)).foldl f a=f ((l.take k).foldl f a) (l.getD k 0):=by
 rw[List.take_add_one,List.foldl_append]
 simp[h]
theorem Z8N(s:ByteArray)(n:Nat)(hn:n<s.size)(hs:s.size<=2048):CallM Tryz.prog Z5C Z1p (sv s n) [GF] [] (sv s (n+runN wordB (dr s n))) (.tup2 (.is (tv (wordL ((dr s n).take (runN wordB (dr s n)))).1)) (.is (.int .i64 (wordL ((dr s n).take (runN wordB (dr s n)))).2))):=
CallM.of (fn:=Tryz.f99) Tryz.func99 (n:=23) rfl rfl rfl (fun _ _=>by kernel_rfl) fun E W b0=>by
 refine vQ ?_;refine JO.alloc Z1q rfl fun b2=>(Ja rfl (vP [0,2] ?_));refine Jm rfl (JO.md (Z8J rfl rfl (Z5J wordB _ Zh6 s n qM qM) qU (by simp) (.sub rfl (Sub.funT (fun _=>trivial)) .nil)) (by rfl) rfl ?_);refine Ja rfl (vP [2,4] ?_);refine Jm rfl (Jq (ZN rfl (Za2 (s.extract n (n+runN wordB (dr s n))) (by have h1:=Z4t s n (runN wordB (dr s n));omega) (ZbI s n)) qA) ?_);refine Ja rfl (vP [2,4,5] ?_);refine Jm rfl (Jq (Z9T rfl rfl (ZdQ (by show(bl (Lib.toUpperA (s.extract n (n+runN wordB (dr s n))).data.toList)).size<=2048;rw[Z8w,ZdR,Z1B];have h1:=Z4t s n (runN wordB (dr s n));omega))) ?_);refine Jq (Z9T rfl rfl (Zep (by show(bl (Lib.toUpperA (s.extract n (n+runN wordB (dr s n))).data.toList)).size<=2048;rw[Z8w,ZdR,Z1B];have h1:=Z4t s n (runN wordB (dr s n));omega))) ?_;refine Jq (Z43 rfl (Z6h kwB _ qD) (by simp) (.one rfl (.one rfl .nil))) ?_;refine vS [2,4,5,13] ?_;refine yC rfl (fun ht13=>?_) (fun ht13=>?_);refine vQ ?_;refine Jm rfl (Jq (Zd (cs:=[_,_,_]) Z1b (.cons rfl (.cons rfl .nil)) rfl rfl) (JO.m (Z2 rfl rfl qU qC qO ZL) (by rfl) ?_));refine Ja rfl (vS [2,3] ?_);refine vR ?_;exact JX.retMC1is rfl HasOwn.mem rfl ZM HasOwn.mem rfl rfl (by have hc:(Lib.contains kwB.data.toList ((sp1++⟨(Lib.toUpperA (s.extract n (n+runN wordB (dr s n))).data.toList).toArray⟩)++sp1).data.toList)=Lib.contains kwB.data.toList (padL (Lib.toUpperA ((dr s n).take (runN wordB (dr s n))))):=(by rw[Z6Q,Z4D,Z1o]);rw[hc]at ht13;unfold wordL;rw[if_pos ht13,Z1o]) (by have hc:(Lib.contains kwB.data.toList ((sp1++⟨(Lib.toUpperA (s.extract n (n+runN wordB (dr s n))).data.toList).toArray⟩)++sp1).data.toList)=Lib.contains kwB.data.toList (padL (Lib.toUpperA ((dr s n).take (runN wordB (dr s n))))):=(by rw[Z6Q,Z4D,Z1o]);rw[hc]at ht13;unfold wordL;rw[if_pos ht13]) (by rfl);apply yK;refine vN ?_;apply yN;refine Jm rfl (Jq (Z1X Zf rfl) (Jq (Z1r rfl rfl) (vS [2,4,18] ?_)));refine yC rfl (fun ht18=>?_) (fun ht18=>?_)
 try simp only[yd,yf]at ht18
 refine vQ ?_;refine Jq (Zd (cs:=[_,_,_]) Z1b .nil rfl rfl) (JO.m (Z2 rfl rfl qU qC qO ZL) (by rfl) ?_);refine Ja rfl (vS [2,3] ?_);refine vR ?_;exact JX.retMC1is rfl HasOwn.mem rfl ZM HasOwn.mem rfl rfl (by have hc:(Lib.contains kwB.data.toList ((sp1++⟨(Lib.toUpperA (s.extract n (n+runN wordB (dr s n))).data.toList).toArray⟩)++sp1).data.toList)=Lib.contains kwB.data.toList (padL (Lib.toUpperA ((dr s n).take (runN wordB (dr s n))))):=(by rw[Z6Q,Z4D,Z1o]);rw[hc]at ht13;have hl:((s.extract n (n+runN wordB (dr s n))).size:Int)=(((dr s n).take (runN wordB (dr s n))).length:Int):=(by rw[<-Z1B,Z1o]);rw[hl]at ht18;unfold wordL;rw[if_neg (by rw[ht13];simp),if_pos (decide_eq_true ht18)];rfl) (by have hc:(Lib.contains kwB.data.toList ((sp1++⟨(Lib.toUpperA (s.extract n (n+runN wordB (dr s n))).data.toList).toArray⟩)++sp1).data.toList)=Lib.contains kwB.data.toList (padL (Lib.toUpperA ((dr s n).take (runN wordB (dr s n))))):=(by rw[Z6Q,Z4D,Z1o]);rw[hc]at ht13;have hl:((s.extract n (n+runN wordB (dr s n))).size:Int)=(((dr s n).take (runN wordB (dr s n))).length:Int):=(by rw[<-Z1B,Z1o]);rw[hl]at ht18;unfold wordL;rw[if_neg (by rw[ht13];simp),if_pos (decide_eq_true ht18)]) (by rfl)
 try simp only[yd,yf]at ht18
 apply yK;refine vN ?_;apply yN;refine Jm rfl (Jq (ZN rfl (Za4 (s.extract n (n+runN wordB (dr s n))) (by have h1:=Z4t s n (runN wordB (dr s n));omega) (ZbI s n)) qA) ?_);refine Jq (Zd (cs:=[_,_,_]) Z1b (.cons rfl (.cons rfl .nil)) rfl rfl) (JO.m (Z2 rfl rfl qU qC qO ZL) (by rfl) ?_);refine Ja rfl (vS [2,3] ?_);refine vR ?_;exact JX.retMC1is rfl HasOwn.mem rfl ZM HasOwn.mem rfl rfl (by have hc:(Lib.contains kwB.data.toList ((sp1++⟨(Lib.toUpperA (s.extract n (n+runN wordB (dr s n))).data.toList).toArray⟩)++sp1).data.toList)=Lib.contains kwB.data.toList (padL (Lib.toUpperA ((dr s n).take (runN wordB (dr s n))))):=(by rw[Z6Q,Z4D,Z1o]);rw[hc]at ht13;have hl:((s.extract n (n+runN wordB (dr s n))).size:Int)=(((dr s n).take (runN wordB (dr s n))).length:Int):=(by rw[<-Z1B,Z1o]);rw[hl]at ht18;unfold wordL;rw[if_neg (by rw[ht13];simp),if_neg (by rw[decide_eq_false ht18];simp),Z1o]) (by have hc:(Lib.contains kwB.data.toList ((sp1++⟨(Lib.toUpperA (s.extract n (n+runN wordB (dr s n))).data.toList).toArray⟩)++sp1).data.toList)=Lib.contains kwB.data.toList (padL (Lib.toUpperA ((dr s n).take (runN wordB (dr s n))))):=(by rw[Z6Q,Z4D,Z1o]);rw[hc]at ht13;have hl:((s.extract n (n+runN wordB (dr s n))).size:Int)=(((dr s n).take (runN wordB (dr s n))).length:Int):=(by rw[<-Z1B,Z1o]);rw[hl]at ht18;unfold wordL;rw[if_neg (by rw[ht13];simp),if_neg (by rw[decide_eq_false ht18];simp)]) (by rfl)
theorem Z7S(s:ByteArray)(n:Nat)(hn:n<s.size)(hs:s.size<=2048):CallM Tryz.prog Z4Z Z1p (sv s n) [GF] [] (sv s (n+runN digB (dr s n))) (.tup2 (.is (tv (numL (dr s n)).1)) (.is (.int .i64 (numL (dr s n)).2))):=
CallM.of (fn:=Tryz.f101) Tryz.func101 (n:=58) rfl rfl rfl (fun _ _=>by kernel_rfl) fun E W b0=>by
 refine vQ ?_;refine JO.alloc Z1q rfl fun b2=>(Ja rfl (vP [0,2] ?_));refine Ja rfl (Ja rfl (vS [0,2,4,5] ?_));have hbl:((dr s n).take (runN digB (dr s n))).length<=2048:=by rw[List.length_take,Z4Q];omega
 refine vQ ?_;refine Jm rfl (JO.md (Z8J rfl rfl (Z5J digB _ Zgi s n qM qM) qU (by simp) (.sub rfl (Sub.funT (fun _=>trivial)) .nil)) (by rfl) rfl ?_);refine Jq (Zgr Zf Z2f Z4v rfl) ?_;refine JO.openSl (s:=11) rfl (fun a len cap bb bo hlen ha=>?_);have hlen2:((dr s n).take (runN digB (dr s n))).length=len:=(by rw[<-hlen,Z1o]);subst hlen2;refine Jq (ZD Z2f rfl) (Jm rfl (vS [0,2,4,5,11,12,13] ?_));apply yk
 repeat apply yQ
 refine J.loopG (α:=Nat×Int×Int) (fun z=>[(0,.is (.pointer (some ⟨b0,0,none⟩))),(2,.is (.pointer (some ⟨b2,0,none⟩))),(4,.is (.int .i64 z.2.1)),(5,.is (.int .i64 z.2.2)),(11,.is (.slice a ((dr s n).take (runN digB (dr s n))).length cap)),(12,.is (.int .i64 (((dr s n).take (runN digB (dr s n))).length:Nat))),(13,.is (.int .i64 (z.1:Nat)))]) (fun z=>[⟨b2,Z1h,.is (tv t3D)⟩,⟨b0,Z1p,.is (sv s (n+runN digB (dr s n)))⟩]) (fun z=>fun _=>True) (fun z=>z.1<=((dr s n).take (runN digB (dr s n))).length/\(((dr s n).take (runN digB (dr s n))).take z.1).foldl numStep (0,0)=z.2) (fun z=>((dr s n).take (runN digB (dr s n))).length-z.1) (0,0,0) [0,2,4,5,11,12,13] (.cons rfl (.cons rfl (.cons rfl (.cons rfl (.cons rfl (.cons rfl (.cons rfl .nil))))))) rfl (fun _=>trivial) ⟨by omega,rfl⟩ fun⟨k,m,e⟩ ⟨hk,hf⟩=>?_;try dsimp only
 try dsimp only at hk
 try dsimp only at hf
 refine vQ ?_;refine Jq (Z10 rfl rfl) (vS [0,2,4,5,11,12,13,14] ?_);refine yC rfl (fun ht14=>?_) (fun ht14=>?_)
 try simp only[yd,yf]at ht14
 apply yK;refine vN ?_;apply yk;refine vQ ?_;refine Jq (Zi Zds rfl (ha qM) rfl qM qM) ?_;refine Jq (Z17 (enc:=bC) (sz:=1) (xs:=(s.extract n (n+runN digB (dr s n))).data.toList) (len:=((dr s n).take (runN digB (dr s n))).length) (i:=k) (j:=0) (y:=((dr s n).take (runN digB (dr s n))).getD k 0) Zgy rfl qI (ha qM) (by rw[Z1o];exact Zi7 qM) (by simp) rfl) ?_;refine Ja rfl (vP [0,2,4,5,7,11,12,13] ?_);refine Jm rfl (Jq (ZaA rfl rfl) (Jq (Z6f ⟨_,Z4v⟩ Zcw rfl) (Ja rfl (vP [0,2,4,5,8,11,12,13] ?_))));refine Jm rfl (Jm rfl (Jq (ZaA rfl rfl) (Jq (Zi2 rfl rfl qD) ?_)));refine Jq (Z1r rfl rfl) (vS [0,2,4,5,8,11,12,13,24] ?_);refine yC rfl (fun ht24=>?_) (fun ht24=>?_)
 try simp only[yd,yf]at ht24
 refine vQ ?_;refine Ja rfl (vP [0,2,4,5,8,11,12,13] ?_);refine Jm rfl (Jq (Zck rfl rfl) (Jm rfl (Jq (Z8v rfl rfl) (Ja rfl (vP [0,2,4,5,11,12,13] ?_)))));refine Jq (Zv (cc:=((k+1:Nat):Int)) rfl rfl qM qM qM) ?_;refine Jm rfl ?_;apply yI
 repeat refine JX.normal_block ?_
 refine JX.roundG (x:=⟨k,m,e⟩) (k+1,(numStep (m,e) (((dr s n).take (runN digB (dr s n))).getD k 0)).1,35) ?_ ?_ [0,2,4,5,11,12,13] ?_ ?_ ?_ ?_
 · exact⟨by omega,by rw[ZbD numStep qM,hf];simp only[numStep];rw[if_pos (decide_eq_true ht24)]⟩
 · exact(by simp only;omega)
 · exact qS
 · exact qH
 · exact qG
 · exact fun _ _ _=>fun _ _=>trivial
 try simp only[yd,yf]at ht24
 apply yK;refine vN ?_;apply yN;refine Jm rfl (Jq (Zck rfl rfl) (Jm rfl (Jq (Z8v rfl rfl) (Ja rfl (vP [0,2,4,5,11,12,13] ?_)))));refine Jq (Zv (cc:=((k+1:Nat):Int)) rfl rfl qM qM qM) ?_;refine Jm rfl ?_;apply yI
 repeat refine JX.normal_block ?_
 refine JX.roundG (x:=⟨k,m,e⟩) (k+1,(numStep (m,e) (((dr s n).take (runN digB (dr s n))).getD k 0)).1,e) ?_ ?_ [0,2,4,5,11,12,13] ?_ ?_ ?_ ?_
 · exact⟨by omega,by rw[ZbD numStep qM,hf];simp only[numStep];rw[if_neg (by rw[decide_eq_false ht24];simp)]⟩
 · exact(by simp only;omega)
 · exact qS
 · exact qH
 · exact qG
 · exact fun _ _ _=>fun _ _=>trivial
 try simp only[yd,yf]at ht14
 repeat apply yQ
 refine J.exit ?_
 repeat first|refine yH ?_|refine yM rfl ?_|refine yE ?_
 repeat first|apply yX|apply yB
 have hfe:((dr s n).take (runN digB (dr s n))).foldl numStep (0,0)=(m,e):=(by have h1:((dr s n).take (runN digB (dr s n))).take k=((dr s n).take (runN digB (dr s n))):=List.take_of_length_le qM;rw[h1]at hf;exact hf);have hh:headP letB ((dr s n).drop (runN digB (dr s n)))=(decide (((n+runN digB (dr s n):Nat):Int)<s.size)&&letterF (sb s (n+runN digB (dr s n)))):=by rw[Z4E];exact Ze1 letB s _
 repeat apply yQ
 refine J.reg0 hmx qK qK ?_;refine yz (Z1 rfl) (yz (Z4 rfl) (yz (Z0 Zn rfl) (yz (Z5 Zx rfl rfl) (yz (Z1 rfl) (yz (Z4 rfl) (yz (Z0 Z12 rfl) (yz (Z5 Zr rfl rfl) (yz (Z1X Zf rfl) (yz (Z10 rfl rfl) (yz (Z1 rfl) (yg rfl rfl rfl (fun hg=>Z1 (.inl rfl)) ?_)))))))))));refine yg rfl rfl rfl (fun hg=>Z4 (qR rfl)) ?_;refine yg rfl rfl rfl (fun hg=>Z0 Z12 (qR rfl)) ?_;refine yg rfl rfl rfl (fun hg=>Z5 Zr (qR rfl) rfl) ?_;refine yg rfl rfl rfl (fun hg=>Z1 (.inl rfl)) (yg rfl rfl rfl (fun hg=>Z4 (qR rfl)) ?_);refine yg rfl rfl rfl (fun hg=>Z0 Zn (qR rfl)) ?_;refine yg rfl rfl rfl (fun hg=>Z5 Zx (qR rfl) rfl) ?_;refine yg rfl rfl rfl (fun hg=>Z1v Zf (qR rfl) (qR rfl) (by have h:=hg;simp only[decide_eq_true_eq]at h;omega) (by have h:=hg;simp only[decide_eq_true_eq]at h;omega)) ?_;refine yg rfl rfl rfl (fun hg=>ZN (.inl rfl) (Z6N (sb s (n+runN digB (dr s n)))) (.one (qR rfl) .nil)) ?_;refine yz (Zl rfl rfl rfl id) ?_;apply yn;refine FinS.nil0 ?_;refine vS [2,4,5,51] ?_;refine yC rfl (fun ht51=>?_) (fun ht51=>?_);refine vQ ?_;refine Ja rfl (vP [2,4,5] ?_);refine Jm rfl (Jq (Z28 rfl rfl) (vS [2,4,5,53] ?_));refine yC rfl (fun ht53=>?_) (fun ht53=>?_);refine vQ ?_;refine Jq (Zd (cs:=[_,_,_]) Z1b .nil rfl rfl) (Jm rfl (JO.m (Z2 rfl rfl qU qC qO ZL) (by rfl) ?_));refine Ja rfl (vS [2,3] ?_);refine vR ?_;exact JX.retMC1is rfl HasOwn.mem rfl ZM HasOwn.mem rfl rfl (by have hE:numE (dr s n)=30:=(by unfold numE;rw[hh];rw[if_pos ht51]);unfold numL;rw[hE,if_pos ht53];rfl) (by have hE:numE (dr s n)=30:=(by unfold numE;rw[hh];rw[if_pos ht51]);unfold numL;rw[hE,if_pos ht53]) (by rfl);apply yK;refine vN ?_;apply yN;refine Jm rfl (Jq (Zd (cs:=[_,_,_]) Z1b (.cons rfl (.cons rfl .nil)) rfl rfl) (JO.m (Z2 rfl rfl qU qC qO ZL) (by rfl) ?_));refine Ja rfl (vS [2,3] ?_);refine vR ?_;exact JX.retMC1is rfl HasOwn.mem rfl ZM HasOwn.mem rfl rfl (by have hE:numE (dr s n)=30:=(by unfold numE;rw[hh];rw[if_pos ht51]);unfold numL;rw[hE,if_neg (by rw[ht53];simp),hfe]) (by have hE:numE (dr s n)=30:=(by unfold numE;rw[hh];rw[if_pos ht51]);unfold numL;rw[hE,if_neg (by rw[ht53];simp)]) (by rfl);apply yK;refine vN ?_;apply yN;refine Jm rfl (Jq (Z28 rfl rfl) (vS [2,4,5,53] ?_));refine yC rfl (fun ht53=>?_) (fun ht53=>?_);refine vQ ?_;refine Jq (Zd (cs:=[_,_,_]) Z1b .nil rfl rfl) (Jm rfl (JO.m (Z2 rfl rfl qU qC qO ZL) (by rfl) ?_));refine Ja rfl (vS [2,3] ?_);refine vR ?_;exact JX.retMC1is rfl HasOwn.mem rfl ZM HasOwn.mem rfl rfl (by have hE:numE (dr s n)=e:=(by unfold numE;rw[hh];rw[if_neg (by rw[ht51];simp),hfe]);unfold numL;rw[hE,if_pos ht53];rfl) (by have hE:numE (dr s n)=e:=(by unfold numE;rw[hh];rw[if_neg (by rw[ht51];simp),hfe]);unfold numL;rw[hE,if_pos ht53]) (by rfl);apply yK;refine vN ?_;apply yN;refine Jm rfl (Jq (Zd (cs:=[_,_,_]) Z1b (.cons rfl (.cons rfl .nil)) rfl rfl) (JO.m (Z2 rfl rfl qU qC qO ZL) (by rfl) ?_));refine Ja rfl (vS [2,3] ?_);refine vR ?_;exact JX.retMC1is rfl HasOwn.mem rfl ZM HasOwn.mem rfl rfl (by have hE:numE (dr s n)=e:=(by unfold numE;rw[hh];rw[if_neg (by rw[ht51];simp),hfe]);unfold numL;rw[hE,if_neg (by rw[ht53];simp),hfe]) (by have hE:numE (dr s n)=e:=(by unfold numE;rw[hh];rw[if_neg (by rw[ht51];simp),hfe]);unfold numL;rw[hE,if_neg (by rw[ht53];simp)]) (by rfl)
theorem Z98(s:ByteArray)(n:Nat)(hn:n<s.size)(hs:s.size<=2048):CallM Tryz.prog Z5v Z1p (sv s n) [GF] [] (sv s (n+(signL (dr s n)).2)) (.tup2 (.is (tv (signL (dr s n)).1.1)) (.is (.int .i64 (signL (dr s n)).1.2))):=
CallM.of (fn:=Tryz.f103) Tryz.func103 (n:=66) rfl rfl rfl (fun _ _=>by kernel_rfl) fun E W b0=>by
 refine vQ ?_;refine JO.alloc Z1q rfl fun b2=>(Ja rfl (vP [0,2] ?_));refine Ja rfl (vS [0,2,4] ?_);apply yk
 repeat apply yQ
 refine J.loopG (α:=Nat) (fun q=>[(0,.is (.pointer (some ⟨b0,0,none⟩))),(2,.is (.pointer (some ⟨b2,0,none⟩))),(4,.is (.int .i64 (q:Nat)))]) (fun q=>[⟨b2,Z1h,.is (tv t3D)⟩,⟨b0,Z1p,.is (sv s n)⟩]) (fun q=>fun _=>True) (fun q=>q<=2/\(q<2->tryL (dr s n) 2=false)/\(q<1->tryL (dr s n) 1=false)) (fun q=>q) 2 [0,2,4] (.cons rfl (.cons rfl (.cons rfl .nil))) rfl (fun _=>trivial) ⟨by omega,fun h=>absurd h qM,fun h=>absurd h qM⟩ fun q ⟨hq,h2,h1⟩=>?_;refine vQ ?_;refine Jm rfl (Jq (Z1r rfl rfl) (vS [0,2,4,6] ?_));refine yC rfl (fun ht6=>?_) (fun ht6=>?_)
 try simp only[yd,yf]at ht6
 apply yK;refine vN ?_;apply yk
 repeat apply yQ
 refine J.reg0 hmx qK qK ?_;refine yz (Z1 rfl) (yz (Z4 rfl) (yz (Z0 Zn rfl) (yz (Z5 Zx rfl rfl) (yz (Z1 rfl) (yz (Zv (cc:=((n+q:Nat):Int)) rfl rfl qM qM qM) ?_)))));refine yz (Z1 rfl) (yz (Z4 rfl) (yz (Z0 Z12 rfl) (yz (Z5 Zr rfl rfl) (yz (Z1X Zf rfl) (yz (Z4s rfl rfl) (yz (Z1 rfl) (yg rfl rfl rfl (fun hg=>Z1 (.inl rfl)) (yg rfl rfl rfl (fun hg=>Z4 (qR rfl)) ?_))))))));refine yg rfl rfl rfl (fun hg=>Z0 Z12 (qR rfl)) ?_;refine yg rfl rfl rfl (fun hg=>Z5 Zr (qR rfl) rfl) ?_;refine yg rfl rfl rfl (fun hg=>Z1 (.inl rfl)) (yg rfl rfl rfl (fun hg=>Z4 (qR rfl)) ?_);refine yg rfl rfl rfl (fun hg=>Z0 Zn (qR rfl)) ?_;refine yg rfl rfl rfl (fun hg=>Z5 Zx (qR rfl) rfl) ?_;refine yg rfl rfl rfl (fun hg=>Z1 (.inl rfl)) (yg rfl rfl rfl (fun hg=>Z4 (qR rfl)) ?_);refine yg rfl rfl rfl (fun hg=>Z0 Zn (qR rfl)) ?_;refine yg rfl rfl rfl (fun hg=>Z5 Zx (qR rfl) rfl) ?_;refine yg rfl rfl rfl (fun hg=>Z1 (.inl rfl)) (yg rfl rfl rfl (fun hg=>Zv (cc:=((n+q:Nat):Int)) (qR rfl) (qR rfl) qM qM qM) ?_);refine yg rfl rfl rfl (fun hg=>Z5l Zf (qR rfl) (qR rfl) (qR rfl) qM qM (by have h:=hg;simp only[decide_eq_true_eq]at h;omega)) ?_;refine yg rfl rfl rfl (fun hg=>Z9T (.inl rfl) (qR rfl) (ZdQ (by have h1:=Z4t s n q;show(s.extract n (n+q)).size<=2048;omega))) ?_;refine yg rfl rfl rfl (fun hg=>Z9T (qR rfl) (.inl rfl) (Zep (by have h1:=Z4t s n q;show(s.extract n (n+q)).size<=2048;omega))) ?_;refine yg rfl rfl rfl (fun hg=>Z43 (.inl rfl) (Z6h sgB ((sp1++s.extract n (n+q))++sp1) qD) (by simp) (.one (.inl rfl) (.one (qR rfl) .nil))) ?_;refine yz (Zl rfl rfl rfl id) ?_;apply yn;refine FinS.nil0 ?_;refine vS [0,2,4,40] ?_;refine yC rfl (fun ht40=>?_) (fun ht40=>?_);have ht1:tryL (dr s n) q=true:=(Zf1 hn q).trans ht40;have hsg:signL (dr s n)=((⟨5,bl ((dr s n).take q),0⟩,0),q):=by
   unfold signL;rcases(show q=1\/q=2 by omega)with rfl|rfl
   · rw[if_neg (by rw[h2 qM];simp),if_pos ht1]
   · rw[if_pos ht1]
 have hfit:n+q<=s.size:=by have h:=ht40;simp only[Bool.and_eq_true,decide_eq_true_eq]at h;omega
 refine vQ ?_;refine Jm rfl (Jq (Z4 rfl) (Jq (Z0 Zn rfl) (Jq (Z5 Zx rfl rfl) (Jm rfl (Jq (Zv (cc:=((n+q:Nat):Int)) rfl rfl qM qM qM) ?_)))));refine Jq (Z4 rfl) (Jq (Z0 Zn rfl) (JO.m (Z9 (cs':=[_,_]) rfl rfl qU rfl rfl rfl rfl Z29) (by rfl) ?_));refine vS [0,2,4] ?_;refine J.front b2 (by repeat(first|exact .here|apply Front.there)) ?_;refine J.reg1 hmx qK qK ?_;refine yz (Z1 rfl) (yz (Z4 rfl) (yz (Z0 Z12 rfl) (yz (Z5 Zr rfl rfl) (yz (Z1 rfl) (yz (Z4 rfl) (yz (Z0 Zn rfl) (yz (Z5 Zx rfl rfl) (yz (Z1 rfl) (yz (ZdW (cc:=(n:Int)) rfl rfl qM qM qM) ?_)))))))));refine yz (Z1 rfl) (yz (Z4 rfl) (yz (Z0 Zn rfl) (yz (Z5 Zx rfl rfl) (yz (Z5l Zf rfl rfl rfl qM qM qM) ?_))));refine yz (Zd (cs:=[_,_,_]) Z1b (.cons rfl (.cons rfl .nil)) rfl rfl) ?_;refine RT.m rfl (Z2 rfl rfl qU qC qO ZL) (by rfl) ?_;refine yz (Z2l rfl) ?_;apply yn;refine FinS.nil1 ?_;refine vS [2,3] ?_;refine vR ?_;exact JX.retMC1is rfl HasOwn.mem rfl ZM HasOwn.mem rfl rfl (by rw[hsg];show Value.agg #[.int .i64 5,.string (s.extract n (n+q)),.int .i64 0]=_;rw[ZcA]) (by rw[hsg]) (by rw[hsg]);apply yK
 repeat first|apply yX|apply yB
 have ht2:tryL (dr s n) q=false:=(Zf1 hn q).trans ht40;refine vQ ?_;refine Jm rfl (Jq (ZdW (cc:=((q-1:Nat):Int)) rfl rfl qM qM qM) ?_);refine Ja rfl ?_;apply yI
 repeat refine JX.normal_block ?_
 refine JX.roundG (x:=q) (q-1) ?_ ?_ [0,2,4] ?_ ?_ ?_ ?_
 · exact⟨by omega,fun h=>(by rcases(show q=1\/q=2 by omega)with rfl|rfl;exact h2 qM;exact ht2),fun h=>(by have:q=1:=qM;subst this;exact ht2)⟩
 · exact qM
 · exact qS
 · exact qH
 · exact qG
 · exact fun _ _ _=>fun _ _=>trivial
 try simp only[yd,yf]at ht6
 repeat apply yQ
 refine J.exit ?_
 repeat first|refine yH ?_|refine yM rfl ?_|refine yE ?_
 repeat first|apply yX|apply yB
 have hsg:signL (dr s n)=((t3D,30),0):=by unfold signL;rw[if_neg (by rw[h2 qM];simp),if_neg (by rw[h1 qM];simp)]
 refine vQ ?_;refine Jq (Zd (cs:=[_,_,_]) Z1b .nil rfl rfl) (JO.m (Z2 rfl rfl qU qC qO ZL) (by rfl) ?_);refine Ja rfl (vS [2,3] ?_);refine vR ?_;exact JX.retMC1is rfl HasOwn.mem rfl ZM HasOwn.mem rfl rfl (by rw[hsg];rfl) (by rw[hsg]) (by rw[hsg];rfl)
end Go.Proofs.YtbedigkncjbggaaGreatDoor
set_option maxRecDepth 20000
namespace Go.Proofs.YtbedigkncjbggaaGreatDoor
open Go Go.Vc
theorem q39(b:UInt8):((b.toNat:Int)==39)=(b==39):=by
 have h1:(39:UInt8).toNat=39:=rfl;refine Bool.eq_iff_iff.2 ⟨fun h=>?_,fun h=>?_⟩
 · have h:(b.toNat:Int)=39:=by simpa using h
   have:b=39:=UInt8.toNat_inj.1 (by rw[h1];omega)
   simp[this]
 · have h:b=39:=by simpa using h
   subst h
   rfl
theorem Zgm{s:ByteArray}{i:Nat}(h:s.size<=i)(acc:List UInt8):textL (dr s i) acc=((t3D,30),0):=by rw[Z4Y h];rfl
theorem ZeJ(b:UInt8)(l acc:List UInt8)(hb:(b==39)=false):textL (b::l) acc=((textL l (acc++[b])).1,(textL l (acc++[b])).2+1):=by
 cases l with
 |nil=>simp[textL,hb]
 |cons c l=>rw[textL,if_neg (by rw[hb];simp)]
theorem Zht{s:ByteArray}{i:Nat}(h:i<s.size)(acc:List UInt8)(hb:(by_ s i==39)=false):textL (dr s i) acc=((textL (dr s (i+1)) (acc++[by_ s i])).1,(textL (dr s (i+1)) (acc++[by_ s i])).2+1):=by
 rw[Z1t h,ZeJ _ _ _ hb]
theorem Zge{s:ByteArray}{i:Nat}(h:i+1<s.size)(acc:List UInt8)(hb:(by_ s i==39)=true)(hc:(by_ s (i+1)==39)=true):
  textL (dr s i) acc=((textL (dr s (i+1+1)) (acc++[by_ s (i+1)])).1,(textL (dr s (i+1+1)) (acc++[by_ s (i+1)])).2+2):=by
 rw[Z1t (by omega:i<s.size),Z1t h,textL,if_pos hb,if_neg (by simp[bne,hc])]
theorem Zgd{s:ByteArray}{i:Nat}(h:i<s.size)(acc:List UInt8)(hb:(by_ s i==39)=true)(hc:(((i+1:Nat):Int)==(s.size:Int)|| !(by_ s (i+1)==39))=true):textL (dr s i) acc=(endT acc,1):=by
 by_cases h1:i+1<s.size
 · have hc:(by_ s (i+1)==39)=false:=by
     rw[beq_eq_false_iff_ne.2 qM,Bool.false_or]at hc
     simpa using hc
   rw[Z1t h,Z1t h1,textL,if_pos hb,if_pos (by simp[bne,hc])]
 · rw[Z1t h,Z4Y qM,textL,if_pos hb]
theorem Z90(s:ByteArray)(n:Nat)(hn:n<s.size)(hs:s.size<=2048):CallM Tryz.prog Z5D Z1p (sv s n) [GF] [] (sv s (n+1+(textL (dr s (n+1)) []).2)) (.tup2 (.is (tv (textL (dr s (n+1)) []).1.1)) (.is (.int .i64 (textL (dr s (n+1)) []).1.2))):=
CallM.of (fn:=Tryz.f102) Tryz.func102 (n:=88) rfl rfl rfl (fun _ _=>by kernel_rfl) fun E W b0=>by
 refine vQ ?_;refine JO.alloc Z1q rfl fun b2=>(Ja rfl (vP [0,2] ?_));refine Ja rfl (vP [0,2,4] ?_);refine Jm rfl (Jq (Z4 rfl) (Jq (Z0 Zn rfl) (Jq (Z5 Zx rfl rfl) (Jq (Zv (cc:=((n+1:Nat):Int)) rfl rfl qM qM qM) ?_))));refine Jq (Z4 rfl) (Jq (Z0 Zn rfl) (JO.m (Z9 (cs':=[_,_]) rfl rfl qU rfl rfl rfl rfl Z29) (by rfl) ?_));refine vS [0,2,4] ?_;apply yk
 repeat apply yQ
 refine J.loopG (α:=Nat×List UInt8×Option (Nat×List Value)×Nat) (fun z=>[(0,.is (.pointer (some ⟨b0,0,none⟩))),(2,.is (.pointer (some ⟨b2,0,none⟩))),(4,.is (sliceO z.2.2.1 z.2.1.length z.2.2.2))]) (fun z=>⟨b2,Z1h,.is (tv t3D)⟩::⟨b0,Z1p,.is (sv s z.1)⟩::ownO z.2.2.1 Z60 []) (fun z=>fun _=>True) (fun z=>z.1<=s.size/\((textL (dr s z.1) z.2.1).1=(textL (dr s (n+1)) []).1/\z.1+(textL (dr s z.1) z.2.1).2=n+1+(textL (dr s (n+1)) []).2)/\Grows bC 1 z.2.1 z.2.2.1 z.2.2.2/\z.2.1.length<=z.1) (fun z=>s.size-z.1) (n+1,[],none,0) [0,2,4] (.cons rfl (.cons rfl (.cons rfl .nil))) rfl (fun _=>trivial) ⟨by omega,⟨rfl,rfl⟩,rfl,by simp⟩ fun⟨i,acc,st,cp⟩ ⟨hi,⟨hr1,hr2⟩,hG,hal⟩=>?_;try dsimp only
 try dsimp only at hi
 try dsimp only at hr1
 try dsimp only at hr2
 try dsimp only at hG
 try dsimp only at hal
 repeat apply yQ
 refine J.reg0 hmx qK qK ?_;refine yz (Z1 rfl) (yz (Z4 rfl) (yz (Z0 Zn rfl) (yz (Z5 Zx rfl rfl) (yz (Z1 rfl) (yz (Z4 rfl) (yz (Z0 Z12 rfl) (yz (Z5 Zr rfl rfl) (yz (Z1X Zf rfl) (yz (Z10 rfl rfl) ?_)))))))));apply yn;refine FinS.nil0 ?_;refine vS [0,2,4,21] ?_;refine yC rfl (fun ht21=>?_) (fun ht21=>?_)
 try simp only[yd,yf]at ht21
 apply yK;refine vN ?_;apply yk
 repeat apply yQ
 refine J.reg0 hmx qK qK ?_;refine yz (Z1 rfl) (yz (Z4 rfl) (yz (Z0 Z12 rfl) (yz (Z5 Zr rfl rfl) (yz (Z1 rfl) (yz (Z4 rfl) (yz (Z0 Zn rfl) (yz (Z5 Zx rfl rfl) (yz (Z1v Zf rfl rfl qM qM) ?_))))))));refine yz (ZP rfl rfl) ?_;apply yn;refine FinS.nil0 ?_;refine vS [0,2,4,38] ?_;refine yC rfl (fun ht38=>?_) (fun ht38=>?_);have hb39:(by_ s i==39)=true:=(by rw[<-q39];first|exact ht38|simpa using ht38);refine vQ ?_;refine Jm rfl (Jq (Z4 rfl) (Jq (Z0 Zn rfl) (Jq (Z5 Zx rfl rfl) (Jq (Zv (cc:=((i+1:Nat):Int)) rfl rfl qM qM qM) ?_))));refine Jq (Z4 rfl) (Jq (Z0 Zn rfl) (JO.m (Z9 (cs':=[_,_]) rfl rfl qU rfl rfl rfl rfl Z29) (by rfl) ?_));refine vS [0,2,4] ?_;refine J.reg0 hmx qK qK ?_;refine yz (Z1 rfl) (yz (Z4 rfl) (yz (Z0 Zn rfl) (yz (Z5 Zx rfl rfl) (yz (Z1 rfl) (yz (Z4 rfl) (yz (Z0 Z12 rfl) (yz (Z5 Zr rfl rfl) (yz (Z1X Zf rfl) (yz (ZP rfl rfl) (yz (Z1 rfl) (yg rfl rfl rfl (fun hg=>Z1 (.inl rfl)) ?_)))))))))));refine yg rfl rfl rfl (fun hg=>Z4 (qR rfl)) ?_;refine yg rfl rfl rfl (fun hg=>Z0 Z12 (qR rfl)) ?_;refine yg rfl rfl rfl (fun hg=>Z5 Zr (qR rfl) rfl) ?_;refine yg rfl rfl rfl (fun hg=>Z1 (.inl rfl)) (yg rfl rfl rfl (fun hg=>Z4 (qR rfl)) ?_);refine yg rfl rfl rfl (fun hg=>Z0 Zn (qR rfl)) ?_;refine yg rfl rfl rfl (fun hg=>Z5 Zx (qR rfl) rfl) ?_;refine yg rfl rfl rfl (fun hg=>Z1v Zf (qR rfl) (qR rfl) (by simp at hg;omega) (by simp at hg;omega)) ?_;refine yg rfl rfl rfl (fun hg=>Z28 (qR rfl) (.inl rfl)) ?_;refine yz (Zw rfl rfl rfl id) ?_;apply yn;refine FinS.nil0 ?_;refine vS [0,2,4,67] ?_;refine yC rfl (fun ht67=>?_) (fun ht67=>?_);have htx:=Zgd qM acc hb39 (show(((i+1:Nat):Int)==(s.size:Int)|| !(by_ s (i+1)==39))=true by rw[<-q39];exact ht67);rw[htx]at hr1 hr2;refine J.freezeOM Z5r hG (e:=Z60) yV (fun q h=>⟨_,List.mem_cons_of_mem _ List.mem_cons_self,h.symm⟩) rfl rfl ?_;obtain⟨cap2,hso⟩:=Z9A hG;rw[hso];refine vQ ?_;refine Jm rfl (Jq (ZD Z2f rfl) (Jq (Z1r rfl rfl) (vS [2,4,70] ?_)));refine yC rfl (fun ht70=>?_) (fun ht70=>?_)
 try simp only[yd,yf]at ht70
 refine vQ ?_;refine Jq (Zd (cs:=[_,_,_]) Z1b .nil rfl rfl) (JO.m (Z2 rfl rfl qU qC qO ZL) (by rfl) ?_);refine Ja rfl (vS [2,3] ?_);refine vR ?_;exact JX.retMC1is rfl HasOwn.mem rfl ZM HasOwn.mem rfl rfl (by rw[<-hr1];unfold endT;rw[if_pos (decide_eq_true ht70)];rfl) (by rw[<-hr1];unfold endT;rw[if_pos (decide_eq_true ht70)]) (by rw[<-hr2])
 try simp only[yd,yf]at ht70
 apply yK;refine vN ?_;apply yN;refine Jm rfl (Jq (Zdp Z2f Z4v Zf rfl qI) ?_);refine Jq (Zd (cs:=[_,_,_]) Z1b (.cons rfl (.cons rfl .nil)) rfl rfl) (JO.m (Z2 rfl rfl qU qC qO ZL) (by rfl) ?_);refine Ja rfl (vS [2,3] ?_);refine vR ?_;exact JX.retMC1is rfl HasOwn.mem rfl ZM HasOwn.mem rfl rfl (by rw[<-hr1];unfold endT;rw[if_neg (by rw[decide_eq_false ht70];simp)]) (by rw[<-hr1];unfold endT;rw[if_neg (by rw[decide_eq_false ht70];simp)]) (by rw[<-hr2]);apply yK
 repeat first|apply yX|apply yB
 have hlt2:i+1<s.size:=(by have h:=ht67;simp only[Bool.or_eq_false_iff,beq_eq_false_iff_ne]at h;omega);have hc39:(by_ s (i+1)==39)=true:=(by have h:=(Bool.or_eq_false_iff.1 ht67).2;rw[<-q39];exact(show(sb s (i+1)==39)=true by simpa using h))
 repeat apply yQ
 refine J.regS 11 hmx qK qK ?_;refine yz (Z1 rfl) (yz (Z1 rfl) (yz (Z4 rfl) (yz (Z0 Z12 rfl) (yz (Z5 Zr rfl rfl) (yz (Z1 rfl) (yz (Z4 rfl) (yz (Z0 Zn rfl) (yz (Z5 Zx rfl rfl) (yz (Z1v Zf rfl rfl qM qM) ?_)))))))));refine yz (ZI (cs:=[_]) Z4c qM qM (.cons rfl .nil) rfl rfl rfl) ?_;apply yn;refine FinS.tail0 ?_;refine JO.apP [by_ s (i+1)] Z4b Z5r (by repeat(first|exact .here|apply Cx.past|apply Cx.there)) hG rfl rfl (fun L=>Z3u Z2f rfl rfl) (by simp) (by simp;omega) (by simp;omega) rfl (fun st1 cp1 hG1=>?_);refine Ja rfl (vP [0,2,4] ?_);refine Jm rfl (Jq (Z4 rfl) (Jq (Z0 Zn rfl) (Jq (Z5 Zx rfl rfl) (Jq (Zv (cc:=((i+1+1:Nat):Int)) rfl rfl qM qM qM) ?_))));refine Jq (Z4 rfl) (Jq (Z0 Zn rfl) (JO.m (Z9 (cs':=[_,_]) rfl rfl qU rfl rfl rfl rfl Z29) (by rfl) ?_));apply yI
 repeat refine JX.normal_block ?_
 refine JX.roundG (x:=⟨i,acc,st,cp⟩) (i+1+1,acc++[by_ s (i+1)],st1,cp1) ?_ ?_ [0,2,4] ?_ ?_ ?_ ?_
 · exact⟨by omega,by have h:=Zge hlt2 acc hb39 hc39;rw[h]at hr1 hr2;exact⟨hr1,(by dsimp only;omega)⟩,hG1,by simp;omega⟩
 · exact(by simp only;omega)
 · exact qS
 · exact qH
 · exact qG
 · exact fun _ _ _=>fun _ _=>trivial
 apply yK
 repeat first|apply yX|apply yB
 have hb39:(by_ s i==39)=false:=(by rw[<-q39];first|exact ht38|simpa using ht38)
 repeat apply yQ
 refine J.regS 11 hmx qK qK ?_;refine yz (Z1 rfl) (yz (Z1 rfl) (yz (Z4 rfl) (yz (Z0 Z12 rfl) (yz (Z5 Zr rfl rfl) (yz (Z1 rfl) (yz (Z4 rfl) (yz (Z0 Zn rfl) (yz (Z5 Zx rfl rfl) (yz (Z1v Zf rfl rfl qM qM) ?_)))))))));refine yz (ZI (cs:=[_]) Z4c qM qM (.cons rfl .nil) rfl rfl rfl) ?_;apply yn;refine FinS.tail0 ?_;refine JO.apP [by_ s i] Z4b Z5r (by repeat(first|exact .here|apply Cx.past|apply Cx.there)) hG rfl rfl (fun L=>Z3u Z2f rfl rfl) (by simp) (by simp;omega) (by simp;omega) rfl (fun st1 cp1 hG1=>?_);refine Ja rfl (vP [0,2,4] ?_);refine Jm rfl (Jq (Z4 rfl) (Jq (Z0 Zn rfl) (Jq (Z5 Zx rfl rfl) (Jq (Zv (cc:=((i+1:Nat):Int)) rfl rfl qM qM qM) ?_))));refine Jq (Z4 rfl) (Jq (Z0 Zn rfl) (JO.m (Z9 (cs':=[_,_]) rfl rfl qU rfl rfl rfl rfl Z29) (by rfl) ?_));apply yI
 repeat refine JX.normal_block ?_
 refine JX.roundG (x:=⟨i,acc,st,cp⟩) (i+1,acc++[by_ s i],st1,cp1) ?_ ?_ [0,2,4] ?_ ?_ ?_ ?_
 · exact⟨by omega,by have h:=Zht qM acc hb39;rw[h]at hr1 hr2;exact⟨hr1,(by dsimp only;omega)⟩,hG1,by simp;omega⟩
 · exact(by simp only;omega)
 · exact qS
 · exact qH
 · exact qG
 · exact fun _ _ _=>fun _ _=>trivial
 try simp only[yd,yf]at ht21
 repeat apply yQ
 refine J.exit ?_
 repeat first|refine yH ?_|refine yM rfl ?_|refine yE ?_
 repeat first|apply yX|apply yB
 rw[Zgm qM acc]at hr1 hr2;refine vQ ?_;refine Jq (Zd (cs:=[_,_,_]) Z1b .nil rfl rfl) (JO.m (Z2 rfl rfl qU qC qO ZL) (by rfl) ?_);refine Ja rfl (vS [2,3] ?_);refine vR ?_;exact JX.retMC1is rfl HasOwn.mem rfl ZM HasOwn.mem rfl rfl (by rw[<-hr1];rfl) (by rw[<-hr1]) (by rw[<-hr2];rfl)
end Go.Proofs.YtbedigkncjbggaaGreatDoor
set_option maxRecDepth 20000
namespace Go.Proofs.YtbedigkncjbggaaGreatDoor
open Go Go.Vc
theorem Zam: ∀(l acc:List UInt8),(textL l acc).2<=l.length
 |[],_=>by simp[textL]
 |[b],acc=>by
   unfold textL
   split<;>simp
 |b::c::l,acc=>by
   have h1:=Zam l (acc++[c]);have h2:=Zam (c::l) (acc++[b]);unfold textL
   split
   · split
     · simp
     · simp only[List.length_cons];omega
   · simp only[List.length_cons]at h2 ⊢;omega
theorem ZfV(l:List UInt8):(signL l).2<=l.length:=by
 unfold signL tryL
 split
 · rename_i h
   simp only[Bool.and_eq_true,decide_eq_true_eq]at h;exact h.1
 · split
   · rename_i h
     simp only[Bool.and_eq_true,decide_eq_true_eq]at h;exact h.1
   · exact Nat.zero_le _
theorem Z8r(l:List UInt8):(stepL l).2<=l.length:=by
 cases l with
 |nil=>exact Nat.zero_le _
 |cons b l=>
   rw[stepL]
   split
   · exact Z9X _ _
   · split
     · exact Z9X _ _
     · split
       · have:=Zam l []
         simp only[List.length_cons]
         omega
       · exact ZfV _
theorem Zae{b:UInt8}{l:List UInt8}(h:(stepL (b::l)).1.2=0):1<=(stepL (b::l)).2:=by
 rw[stepL]at h ⊢
 by_cases h1:letB b=true
 · rw[if_pos h1]
   have:wordB b=true:=by unfold wordB;rw[h1];rfl
   show 1<=runN wordB (b::l);unfold runN;rw[if_pos this]
   omega
 rw[if_neg h1]at h ⊢
 by_cases h2:digB b=true
 · rw[if_pos h2]
   show 1<=runN digB (b::l);unfold runN;rw[if_pos h2]
   omega
 rw[if_neg h2]at h ⊢
 by_cases h3:(b==39)=true
 · rw[if_pos h3]
   exact Nat.le_add_left _ _
 rw[if_neg h3]at h ⊢;unfold signL at h ⊢
 split at h
 · rename_i h4;rw[if_pos h4];exact Nat.le_of_ble_eq_true rfl
 · rename_i h4
   rw[if_neg h4]
   split at h
   · rename_i h5;rw[if_pos h5];exact Nat.le_refl _
   · cases h
theorem Z9O: ∀(f g:Nat) (l:List UInt8),l.length<f->l.length<g->allG f l=allG g l
 |0,_,_,h,_=>absurd h qM
 |_+1,0,_,_,h=>absurd h qM
 |f+1,g+1,l,hf,hg=>by
   unfold allG;cases hd:l.drop (runN isSp l)with
   |nil=>rfl
   |cons b r=>
     dsimp only;have hl:(b::r).length<=l.length:=by rw[<-hd,List.length_drop];omega
     by_cases he:(stepL (b::r)).1.2=0
     · have hp:=Zae he
       have hle:=Z8r (b::r);have:=Z9O f g ((b::r).drop (stepL (b::r)).2) (by rw[List.length_drop];omega) (by rw[List.length_drop];omega);rw[this]
     · rw[if_pos (by simpa using he),if_pos (by simpa using he)]
def allA(l:List UInt8):List T3×Int:=allG (l.length+1) l
def finA(xs:List T3)(r:List T3×Int):List T3×Int:=if(r.2 != 0)then([],r.2)else(xs++r.1,0)
theorem Zcl:allA []=([],0):=rfl
theorem Z9S(l:List UInt8):allA (l.drop (runN isSp l))=allA l:=by
 have h1: ∀l:List UInt8,runN isSp (l.drop (runN isSp l))=0:=fun l=>by
   induction l with
   |nil=>rfl
   |cons b l ih=>
     by_cases hb:isSp b=true
     · have:runN isSp (b::l)=runN isSp l+1:=by rw[runN,if_pos hb]
       rw[this,List.drop_succ_cons];exact ih
     · have:runN isSp (b::l)=0:=by rw[runN,if_neg hb]
       rw[this,List.drop_zero];exact this
 unfold allA;rw[Z9O ((l.drop (runN isSp l)).length+1) (l.length+1) _ qM (by rw[List.length_drop];omega)];show allG (l.length+1) (l.drop (runN isSp l))=allG (l.length+1) l;rw[allG,allG,h1 l,List.drop_zero]
theorem Zhy(l:List UInt8):runN isSp (l.drop (runN isSp l))=0:=by
 induction l with
 |nil=>rfl
 |cons b l ih=>
   by_cases hb:isSp b=true
   · have:runN isSp (b::l)=runN isSp l+1:=by rw[runN,if_pos hb]
     rw[this,List.drop_succ_cons];exact ih
   · have:runN isSp (b::l)=0:=by rw[runN,if_neg hb]
     rw[this,List.drop_zero];exact this
theorem Z9y{l:List UInt8}(h0:runN isSp l=0)(hl:l≠[]):
   allA l=if((stepL l).1.2 != 0)then([],(stepL l).1.2)else finA [(stepL l).1.1] (allA (l.drop (stepL l).2)):=by
 cases l with
 |nil=>exact absurd rfl hl
 |cons b r=>
   have e:allA (b::r)=allG ((b::r).length+1) (b::r):=rfl;rw[e,allG,h0,List.drop_zero];dsimp only
   by_cases he:(stepL (b::r)).1.2=0
   · have hb:((stepL (b::r)).1.2 != 0)=false:=by simp[he]
     rw[hb];simp only[Bool.false_eq_true,if_false];have hp:=Zae he;have hle:=Z8r (b::r);rw[Z9O (b::r).length (((b::r).drop (stepL (b::r)).2).length+1) _ (by rw[List.length_drop];omega) qM]
     rfl
   · rw[if_pos (by simpa using he),if_pos (by simpa using he)]
theorem ZcZ(xs ys:List T3)(r:List T3×Int):finA xs (finA ys r)=finA (xs++ys) r:=by
 unfold finA
 by_cases h:(r.2 != 0)=true
 · rw[if_pos h,if_pos h];simp only;rw[if_pos h]
 · rw[if_neg h,if_neg h]
   simp
theorem Zgt: ∀(f:Nat) (l:List UInt8),(allG f l).2≠0->(allG f l).1=[]
 |0,_,h=>absurd rfl h
 |f+1,l,h=>by
   unfold allG at h ⊢;cases hd:l.drop (runN isSp l)with
   |nil=>rfl
   |cons b r=>
     rw[hd]at h;dsimp only at h ⊢
     split at h
     · rename_i h1;rw[if_pos h1]
     · rename_i h1
       rw[if_neg h1]
       split at h
       · rename_i h2;rw[if_pos h2]
       · exact absurd rfl h
theorem Zcj(l:List UInt8):finA [] (allA l)=allA l:=by
 unfold finA
 by_cases h:((allA l).2 != 0)=true
 · rw[if_pos h]
   have h2:(allA l).2≠0:=by simpa using h
   have:=Zgt _ _ h2;exact Prod.ext this.symm rfl
 · rw[if_neg h]
   have:(allA l).2=0:=by simpa using h
   exact Prod.ext rfl this.symm
theorem Zfb{s:ByteArray}(h:s.size<=2048):finA [] (allA (dr s (0+runN isSp (dr s 0))))=lexL s.data.toList:=by
 rw[Zcj,<-Z4E,Z9S];unfold lexL;rw[if_neg (by rw[Z1B];simp;omega)]
 rfl
theorem ZfI(s:ByteArray)(i:Nat):runN isSp (dr s (i+runN isSp (dr s i)))=0:=by
 rw[<-Z4E];exact Zhy _
theorem ZeK{s:ByteArray}{i:Nat}(h:i<s.size):dr s i≠[]:=by rw[Z1t h];simp
theorem Zga{s:ByteArray}{i:Nat}{xs:List T3}{X:List T3×Int}(h:i<s.size)(hsp:runN isSp (dr s i)=0)(he:(stepL (dr s i)).1.2=0)(hr:finA xs (allA (dr s i))=X):
  finA (xs++[(stepL (dr s i)).1.1]) (allA (dr s (i+(stepL (dr s i)).2+runN isSp (dr s (i+(stepL (dr s i)).2)))))=X:=by
 rw[<-Z4E s (i+(stepL (dr s i)).2),Z9S,<-Z4E s i,<-ZcZ,<-hr,Z9y hsp (ZeK h),if_neg (by simp[he])]
theorem Zea{s:ByteArray}{i:Nat}{xs:List T3}{X:List T3×Int}(h:i<s.size)(hsp:runN isSp (dr s i)=0)(he:(stepL (dr s i)).1.2≠0)(hr:finA xs (allA (dr s i))=X):X=([],(stepL (dr s i)).1.2):=by
 rw[<-hr,Z9y hsp (ZeK h),if_pos (by simpa using he)];unfold finA;rw[if_pos (by simpa using he)]
def takeV(x:UInt8)(b:Nat):Value:=.func (.func (if letB x then Z5C else if digB x then Z4Z else if x==39 then Z5D else Z5v)) #[.pointer (some ⟨b,0,none⟩)] #[]
theorem ZfM(s:ByteArray)(n:Nat)(hn:n<s.size)(hs:s.size<=2048)(b:Nat):
   MethV Tryz.prog b (takeV (by_ s n) b) Z1p (sv s n) [GF] [] (sv s (n+(stepL (dr s n)).2)) (.tup2 (.is (tv (stepL (dr s n)).1.1)) (.is (.int .i64 (stepL (dr s n)).1.2))):=by
 have e:=Z1t hn;unfold takeV
 by_cases h1:letB (by_ s n)=true
 · rw[if_pos h1]
   have hst:stepL (dr s n)=(wordL ((dr s n).take (runN wordB (dr s n))),runN wordB (dr s n)):=by
     rw[e,stepL,if_pos h1]
   rw[hst];exact⟨_,rfl,Z8N s n hn hs⟩
 rw[if_neg h1]
 by_cases h2:digB (by_ s n)=true
 · rw[if_pos h2]
   have hst:stepL (dr s n)=(numL (dr s n),runN digB (dr s n)):=by
     rw[e,stepL,if_neg h1,if_pos h2]
   rw[hst];exact⟨_,rfl,Z7S s n hn hs⟩
 rw[if_neg h2]
 by_cases h3:(by_ s n==39)=true
 · rw[if_pos h3]
   have hst:stepL (dr s n)=((textL (dr s (n+1)) []).1,(textL (dr s (n+1)) []).2+1):=by
     rw[e,stepL,if_neg h1,if_neg h2,if_pos h3]
   rw[hst];have:=Z90 s n hn hs;rw[show n+1+(textL (dr s (n+1)) []).2=n+((textL (dr s (n+1)) []).2+1) by omega]at this;exact⟨_,rfl,this⟩
 rw[if_neg h3];have hst:stepL (dr s n)=signL (dr s n):=by
   rw[e,stepL,if_neg h1,if_neg h2,if_neg h3]
 rw[hst];exact⟨_,rfl,Z98 s n hn hs⟩
end Go.Proofs.YtbedigkncjbggaaGreatDoor
set_option maxRecDepth 20000
namespace Go.Proofs.YtbedigkncjbggaaGreatDoor
open Go Go.Vc
theorem Z8R(s:ByteArray)(n:Nat)(hn:n<s.size):CallMR Tryz.prog Z94 Z1p (sv s n) [GF] [] (sv s n) (fun b=>.is (takeV (by_ s n) b)):=
CallMR.of (fn:=Tryz.f57) Tryz.func57 (n:=30) rfl rfl rfl (fun _ _=>by kernel_rfl) fun E W b0=>by
 refine vQ ?_;refine Ja rfl (vS [0] ?_);refine J.reg0 hmx qK qK ?_;refine yz (Z1 rfl) (yz (Z4 rfl) (yz (Z0 Z12 rfl) (yz (Z5 Zr rfl rfl) (yz (Z1 rfl) (yz (Z4 rfl) (yz (Z0 Zn rfl) (yz (Z5 Zx rfl rfl) (yz (Z1v Zf rfl rfl qM qM) ?_))))))));refine yz (Z2l rfl) ?_;apply yn;refine FinS.nil0 ?_;refine vS [0,3] ?_;apply yk;refine vQ ?_;refine Jm rfl (Jq (ZN rfl (Z6N (sb s n)) qA) ?_);refine Ja rfl (vS [0,3,13] ?_);refine yC rfl (fun ht13=>?_) (fun ht13=>?_);refine vQ ?_;refine Jm rfl (Jq (Z3J (.cons rfl .nil) .nil) (Ja rfl (vS [2] ?_)));refine vR ?_;exact JX.retM1e rfl HasOwn.mem rfl (by unfold takeV;rw[if_pos (show letB (by_ s n)=true from ht13)]) (by rfl);refine vQ ?_;refine Jm rfl (Jq (ZN rfl (Z7U (sb s n)) qA) ?_);refine Ja rfl (vS [0,3,18] ?_);refine yC rfl (fun ht18=>?_) (fun ht18=>?_);refine vQ ?_;refine Jm rfl (Jq (Z3J (.cons rfl .nil) .nil) (Ja rfl (vS [2] ?_)));refine vR ?_;exact JX.retM1e rfl HasOwn.mem rfl (by unfold takeV;rw[if_neg (show ¬letB (by_ s n)=true by rw[show letB (by_ s n)=false from ht13];simp),if_pos (show digB (by_ s n)=true from ht18)]) (by rfl);refine vQ ?_;refine Jm rfl (Jq (ZP rfl rfl) (Ja rfl (vS [0,23] ?_)));refine yC rfl (fun ht23=>?_) (fun ht23=>?_);refine vQ ?_;refine Jm rfl (Jq (Z3J (.cons rfl .nil) .nil) (Ja rfl (vS [2] ?_)));refine vR ?_;exact JX.retM1e rfl HasOwn.mem rfl (by unfold takeV;rw[if_neg (show ¬letB (by_ s n)=true by rw[show letB (by_ s n)=false from ht13];simp),if_neg (show ¬digB (by_ s n)=true by rw[show digB (by_ s n)=false from ht18];simp),if_pos (by rw[<-q39];exact ht23)]) (by rfl);apply yK;refine vN ?_;apply yN;refine Jm rfl (Jq (Z3J (.cons rfl .nil) .nil) (Ja rfl (vS [2] ?_)));refine vR ?_;exact JX.retM1e rfl HasOwn.mem rfl (by unfold takeV;rw[if_neg (show ¬letB (by_ s n)=true by rw[show letB (by_ s n)=false from ht13];simp),if_neg (show ¬digB (by_ s n)=true by rw[show digB (by_ s n)=false from ht18];simp),if_neg (by rw[<-q39];rw[show(((by_ s n).toNat:Int)==39)=false from ht23];simp)]) (by rfl)
theorem ZfJ(s:ByteArray):CallF Tryz.prog ZeP [GF] [.is (.string s)] (.tup2 (.rep (SlC T3.cells 3 (lexL s.data.toList).1)) (.is (.int .i64 (lexL s.data.toList).2))):=
CallF.of (fn:=Tryz.f24) Tryz.func24 (n:=39) rfl rfl rfl (fun _ _=>by kernel_rfl) fun E W=>by
 refine vQ ?_;refine Ja rfl (Ja rfl (vP [0] ?_));refine Jm rfl (Jq (Z1X Zf rfl) (Jq (Z1r rfl rfl) (vS [0,10] ?_)));refine yC rfl (fun ht10=>?_) (fun ht10=>?_)
 try simp only[yd,yf]at ht10
 have hx:lexL s.data.toList=([],30):=by unfold lexL;rw[if_pos (by rw[Z1B];simpa using ht10)]
 refine vQ ?_;refine Ja rfl (Ja rfl (vS [2,3] ?_));refine vR ?_;exact JX.ret2sub rfl rfl rfl (by rw[hx];exact Sub.slNilC) rfl (Sub.isEq (by rw[hx]))
 try simp only[yd,yf]at ht10
 apply yK
 repeat first|apply yX|apply yB
 have hsz:s.size<=2048:=by have h:=ht10;omega
 have h0:0+runN isSp (dr s 0)<=s.size:=Z9L (p:=isSp) (Nat.zero_le _);refine vQ ?_;refine Jm rfl (Jq (Zd (cs:=[_,_]) Zbf (.cons rfl .nil) rfl rfl) (JO.box rfl rfl fun b13=>(Ja rfl (vP [0,4] ?_))));refine Ja rfl (vP [0,4,5] ?_);refine Jm rfl (JO.md (Z8J rfl rfl (Z5m s 0 qM qM) qU (by simp) .nil) (by rfl) rfl ?_);refine vS [0,4,5] ?_;apply yk
 repeat apply yQ
 refine J.loopG (α:=Nat×List T3×Option (Nat×List Value)×Nat) (fun z=>[(0,.is (.string s)),(4,.is (.pointer (some ⟨b13,0,none⟩))),(5,.is (sliceO z.2.2.1 z.2.1.length z.2.2.2))]) (fun z=>⟨b13,Z1p,.is (sv s z.1)⟩::ownO z.2.2.1 Z1h []) (fun z=>fun _=>True) (fun z=>z.1<=s.size/\(finA z.2.1 (allA (dr s z.1))=lexL s.data.toList/\runN isSp (dr s z.1)=0)/\Grows T3.cells 3 z.2.1 z.2.2.1 z.2.2.2/\z.2.1.length<=z.1) (fun z=>s.size-z.1) (0+runN isSp (dr s 0),[],none,0) [0,4,5] (.cons rfl (.cons rfl (.cons rfl .nil))) rfl (fun _=>trivial) ⟨h0,⟨Zfb hsz,ZfI s 0⟩,rfl,by simp⟩ fun⟨i,xs,st,cp⟩ ⟨hi,⟨hr,hsp⟩,hG,hal⟩=>?_;try dsimp only
 try dsimp only at hi
 try dsimp only at hr
 try dsimp only at hsp
 try dsimp only at hG
 try dsimp only at hal
 refine vQ ?_;refine Jm rfl (Jq (Z4 rfl) (Jq (Z0 Zn rfl) (Jq (Z5 Zx rfl rfl) (Jm rfl (Jq (Z1X Zf rfl) (Jq (Z10 rfl rfl) (vS [0,4,5,22] ?_)))))));refine yC rfl (fun ht22=>?_) (fun ht22=>?_)
 try simp only[yd,yf]at ht22
 apply yK;refine vN ?_;apply yk;have hlt:i<s.size:=by omega
 have hle:i+(stepL (dr s i)).2<=s.size:=by have:=Z8r (dr s i);rw[Z4Q]at this;omega
 refine vQ ?_;refine Jm rfl (JO.md (Zfs rfl rfl (Z8R s i qM) qU (by simp) .nil) (by rfl) rfl ?_);refine JO.md (ZeN rfl ((ZfM s i qM qM b13)) qU (by simp) .nil) (by rfl) rfl ?_;refine Jm rfl (Jq (Z2c rfl) (Jq (Z2d rfl) (JO.alloc Z1q rfl fun b6=>(JO.m (Z2 rfl rfl qU qC qO ZL) (by rfl) ?_))));refine Ja rfl (vP [0,4,5,6,7] ?_);refine Jm rfl (Jq (Z28 rfl rfl) (vS [0,4,5,6,7,32] ?_));refine yC rfl (fun ht32=>?_) (fun ht32=>?_);have hx:=Zea hlt hsp (by simpa using ht32) hr;refine vQ ?_;refine Jm rfl (Ja rfl (Ja rfl (vS [2,3] ?_)));refine vR ?_;exact JX.ret2sub rfl rfl rfl (by rw[hx];exact Sub.slNilC) rfl (Sub.isEq (by rw[hx]));apply yK
 repeat first|apply yX|apply yB
 have he0:(stepL (dr s i)).1.2=0:=by simpa using ht32
 have hp1:1<=(stepL (dr s i)).2:=by rw[Z1t hlt]at he0 ⊢;exact Zae he0
 refine vQ ?_;refine Jm rfl (Jq (ZU (cs:=[_,_,_]) ZM rfl rfl rfl) (Jq (ZI (cs:=[_,_,_]) Z3B qM qM (.cons rfl .nil) rfl rfl rfl) ?_));refine JO.apP [(stepL (dr s i)).1.1] Z3y T3.len (by repeat(first|exact .here|apply Cx.past|apply Cx.there)) hG rfl rfl (fun L=>Z3u ZR rfl rfl) (by simp) (by simp;omega) (by simp;omega) rfl (fun st1 cp1 hG1=>?_);refine Ja rfl (vP [0,4,5] ?_);refine Jm rfl (JO.md (Z8J rfl rfl (Z5m s (i+(stepL (dr s i)).2) qM qM) qU (by simp) .nil) (by rfl) rfl ?_);apply yI
 repeat refine JX.normal_block ?_
 refine JX.roundG (x:=⟨i,xs,st,cp⟩) (i+(stepL (dr s i)).2+runN isSp (dr s (i+(stepL (dr s i)).2)),xs++[(stepL (dr s i)).1.1],st1,cp1) ?_ ?_ [0,4,5] ?_ ?_ ?_ ?_
 · exact⟨Z9L (p:=isSp) hle,⟨Zga hlt hsp he0 hr,ZfI s (i+(stepL (dr s i)).2)⟩,hG1,by simp;omega⟩
 · exact(by simp only;omega)
 · exact qS
 · exact qH
 · exact qG
 · exact fun _ _ _=>fun _ _=>trivial
 try simp only[yd,yf]at ht22
 repeat apply yQ
 refine J.exit ?_
 repeat first|refine yH ?_|refine yM rfl ?_|refine yE ?_
 repeat first|apply yX|apply yB
 have hfin:lexL s.data.toList=(xs,0):=by rw[<-hr,Z4Y qM];simp[finA,Zcl]
 refine J.freezeO T3.len hG (e:=Z1h) yV (fun _ h=>h) rfl rfl ?_;refine vQ ?_;refine Jm rfl (Ja rfl (Ja rfl (vS [2,3] ?_)));refine vR ?_;exact JX.ret2sub rfl rfl rfl (by rw[hfin];exact Sub.slOC hG qI) rfl (Sub.isEq (by rw[hfin]))
end Go.Proofs.YtbedigkncjbggaaGreatDoor
set_option maxRecDepth 20000
namespace Go.Proofs.YtbedigkncjbggaaGreatDoor
open Go Go.Vc
def capB(b:UInt8):Bool:=decide (65<=(b.toNat:Int))&&decide ((b.toNat:Int)<=90)
def lowC(q:Bool)(b:UInt8):UInt8:=if !q&&capB b then b+32 else b
theorem Zdb: ∀(f:Nat) (l:List UInt8),(allG f l).1.length<=f
 |0,_=>Nat.le_refl _
 |f+1,l=>by
   unfold allG;cases hd:l.drop (runN isSp l)with
   |nil=>exact Nat.zero_le _
   |cons b r=>
     dsimp only
     split
     · exact Nat.zero_le _
     · split
       · exact Nat.zero_le _
       · have:=Zdb f ((b::r).drop (stepL (b::r)).2)
         simp only[List.length_cons]
         omega
theorem Z92(l:List UInt8):(lexL l).1.length<=2049:=by
 unfold lexL
 split
 · exact Nat.zero_le _
 · rename_i h
   have:=Zdb (l.length+1) l
   simp at h
   omega
end Go.Proofs.YtbedigkncjbggaaGreatDoor
set_option maxRecDepth 20000
namespace Go.Proofs.YtbedigkncjbggaaGreatDoor
open Go Go.Vc
open Go.Pz
abbrev zSt:Ty:=.is (stV st0 nilv nilv nilv nilv nilv nilv nilv nilv nilv)
theorem SrZero{N:Nat}{L:List Own}{Φ:List (World->Prop)}:Sub L Φ zSt (.rep (StR N st0)):=Sub.st rfl fun X w hf w' hk=>⟨Za (FrS.nil _),Za (FrS.nil _),Za trivial,Za trivial,Za trivial,Za (FrS.nil _),Z16,Za trivial,Z16⟩
theorem ZeB(w:World):(zeroValue 59).run Tryz.prog w= .ok (.agg #[]) w:=by
 have hz:=Z5T;unfold zeroOf at hz;cases hq:Tryz.prog.info? 59 with
 |none=>rw[hq]at hz;cases hz
 |some i=>
   rw[hq]at hz;simp only[Option.bind_some]at hz
   simp[zeroValue,typeInfo,hq,hz]
def RecS(b2 b3:Nat)(T2:Ty)(e3:Int)(u u':FrameMode)(T2':Ty)(e3':Int):Prop:=CallRec Tryz.prog Z2X [⟨b2,Z3,T2⟩,⟨b3,Z2E,.is (.int .i64 e3)⟩] ([.pointer (some ⟨b2,0,none⟩),.pointer (some ⟨b3,0,none⟩)].map Ty.is) u u' [⟨b2,Z3,T2'⟩,⟨b3,Z2E,.is (.int .i64 e3')⟩]
theorem Zff(b2 b3:Nat)(T2:Ty)(h2:T2.out=true)(e3:Int):RecS b2 b3 T2 e3 .returning .returning T2 e3:=
 CallRec.of (fn:=Tryz.f25) .none Tryz.func25 rfl (n:=11) rfl rfl rfl (fun _ _=>by kernel_rfl) fun E W hb0=>by
 refine Jq (ZdF (d:=.struct #[]) qK rfl ZeB rfl) ?_;refine Jm rfl (Jq (Z2c rfl) (Jq (Z2d rfl) (JO.alloc Z5T rfl fun b4=>(JO.m (Z2 rfl rfl qU qC qO Z7Z) (by rfl) ?_))));refine Ja rfl (vP [0,1,3] ?_);refine Jm rfl (vS [0,1,9] ?_);refine yC rfl (fun ht9=>?_) (fun ht9=>?_)
 · cases ht9
 · apply yK
   refine JX.normal_ret ?_;exact JX.retL0 (Lr:=[_]) rfl () trivial (List.perm_append_comm (l₁:=[_]) (l₂:=[_,_])) (by simp[h2,Ty.out]) hb0 rfl
theorem Zb9(b2 b3:Nat)(T2:Ty)(h2:Cnt T2 14)(e3:Int):RecS b2 b3 T2 e3 (.panicking flt) (.panicking [{v:=.iface Z8a (.agg #[]),recovered:=true}]) zSt 30:=
 CallRec.of (fn:=Tryz.f25) .some Tryz.func25 rfl (n:=11) rfl rfl rfl (fun _ _=>by kernel_rfl) fun E W hb0=>by
 refine Jq (ZdD (d:=.struct #[]) qK rfl rfl) ?_;refine Jm rfl (Jq (Z2c rfl) (Jq (Z2d rfl) (JO.alloc Z5T rfl fun b4=>(JO.m (Z2 rfl rfl qU qC qO Z7Z) (by rfl) ?_))));refine Ja rfl (vP [0,1,3] ?_);refine Jm rfl (vS [0,1,9] ?_);refine yC rfl (fun ht9=>?_) (fun ht9=>?_)
 · repeat apply yQ
   apply yN;refine Jq (Zd (cs:=[_,_,_,_,_,_,_,_,_,_,_,_,_,_]) Z1w .nil rfl rfl) (JO.m (Z2 rfl rfl qU h2 (by exact Zb rfl rfl) Zo) (by rfl) ?_);refine JO.m (Z2 rfl rfl qU (by exact Zb rfl rfl) (by exact Zb rfl rfl) Z4m) (by rfl) ?_;apply yI;refine JX.normal_ret ?_;exact JX.retL0 (Lr:=[_]) rfl () trivial (List.perm_append_comm (l₁:=[_]) (l₂:=[_,_])) rfl hb0 rfl
 · cases ht9
theorem ZaH(b:Nat)(a:Option Addr)(cap:Nat):CallP Tryz.prog Z46 [⟨b,Z2Y,.is (.agg #[.slice a 0 cap])⟩] [] [.is (.pointer (some ⟨b,0,none⟩))] True flt (fun _:Unit=>False) (fun _=>[]) (fun _=>.is (.tuple #[])):=
 CallP.of (fn:=Tryz.f26) Tryz.func26 (n:=43) rfl rfl rfl (fun _ _=>by kernel_rfl) fun E W hb0=>by
 refine vQ ?_;refine JO.alloc ZT rfl fun b2=>(vS [0,2] ?_);refine J.regS 17 hmx qK qK ?_;refine yz (Z1 rfl) (yz (Z1 rfl) (yz (Z4 rfl) (yz (Z0 Zq rfl) (yz (Z5 ZC rfl rfl) (yz (ZD ZR rfl) (yz (Z1r rfl rfl) (yz (Z1 rfl) (yg rfl rfl rfl (fun hg=>Z1 (.inl rfl)) (yg rfl rfl rfl (fun hg=>Z4 (qR rfl)) ?_)))))))));refine yg rfl rfl rfl (fun hg=>Z0 Zq (qR rfl)) ?_;refine yg rfl rfl rfl (fun hg=>Z5 ZC (qR rfl) rfl) ?_;refine RT.g (T:=.is (.bool true)) rfl rfl rfl (fun hg=>absurd hg qD) ?_;refine RT.g (T:=.is (.bool true)) rfl rfl rfl (fun hg=>absurd hg qD) ?_;refine RT.g (T:=.is (.bool true)) rfl rfl rfl (fun hg=>absurd hg qD) ?_;refine RT.g (T:=.is (.bool true)) rfl rfl rfl (fun hg=>absurd hg qD) ?_;refine yz (Zl rfl rfl rfl id) ?_;apply yn;refine FinS.tail0 ?_;refine JO.callPK (Lr:=_) (Zt (.pointer (some ⟨b,0,none⟩)) _) rfl (Z2a _) Z1Z qA (fun hbad=>?_) ?_
 · exact JX.pnI trivial
 intro z hz;exact absurd hz qD
theorem Zij(ts:List T3)(bb oo cap:Nat):Value.slice (some ⟨bb,oo,none⟩) ts.length cap=Tk.sl ⟨ts,bb,oo,cap⟩ ts:=by
 have hk:Tk.k ⟨ts,bb,oo,cap⟩ ts=0:=Nat.sub_self _;have hj:Tk.j ⟨ts,bb,oo,cap⟩ ts=0:=by unfold Tk.j;rw[hk];split<;>rfl
 show _=Value.slice (some ⟨bb,oo+3*Tk.j ⟨ts,bb,oo,cap⟩ ts,none⟩) ts.length (cap-Tk.k ⟨ts,bb,oo,cap⟩ ts);rw[hk,hj];rfl
theorem ZeU{l:List T3×Int}(h: ¬l.2=0):readS l=(st0,l.2):=by unfold readS;rw[if_neg (by simpa using h)]
theorem Zc8{l:List T3×Int}(h:l.2=0)(hn:wholeP l.1=none):readS l=(st0,30):=by unfold readS;rw[if_pos (by simpa using h)];unfold readT;rw[hn]
theorem ZgM{l:List T3×Int}{s:Pz.St}(h:l.2=0)(hn:wholeP l.1=some s)(hd:deepS s=true):readS l=(st0,31):=by unfold readS;rw[if_pos (by simpa using h)];unfold readT;rw[hn];simp only;rw[if_pos hd]
theorem Zfy{l:List T3×Int}{s:Pz.St}(h:l.2=0)(hn:wholeP l.1=some s)(hd:deepS s=false):readS l=(s,0):=by unfold readS;rw[if_pos (by simpa using h)];unfold readT;rw[hn];simp only;rw[if_neg (by rw[hd];decide)]
theorem ZcE{ts:List T3}(h:stmtP (exprP (ts.length+1)) ts=none):wholeP ts=none:=by unfold wholeP;rw[h];rfl
theorem Zbx{ts:List T3}{z:Pz.St×List T3}(h:stmtP (exprP (ts.length+1)) ts=some z)(hs: ¬(skT 5 Z4W z.2).length=0):wholeP ts=none:=by
 unfold wholeP;rw[h,Option.bind_some];split
 · rename_i h2;rw[h2]at hs;exact absurd rfl hs
 · rfl
theorem ZbK{ts:List T3}{z:Pz.St×List T3}(h:stmtP (exprP (ts.length+1)) ts=some z)(hs:(skT 5 Z4W z.2).length=0):wholeP ts=some z.1:=by
 unfold wholeP;rw[h,Option.bind_some];rw[List.length_eq_zero_iff.1 hs]
section
variable{P:Program}{c:Ctx}{K:List (Nat×Ty)}{L:List Own}{Φ:List (World->Prop)}{Q:Exit->Act->World->Prop}
theorem Z5S{α:Type}{En:Enc α}{G:GoS}{xs:List α}{v:Value}{w:World}(h:SlE En G xs v w):v.oneCell'=true:=by obtain⟨ps,a,len,cap,_,rfl,_⟩:=h;rfl
theorem Zci{xs:List Ex}{v:Value}{w:World}(h:ExsR xs v w):v.oneCell'=true:=by obtain⟨a,len,cap,rfl,_⟩:=h;rfl
theorem J.openOwnSt{N b:Nat}{e:TypeId}{st:Pz.St}{y:Code}(hj: ∀vc vn vr vi vf vw vg vo vs:Value,(∀u∈[vc,vn,vr,vi,vf,vw,vg,vo,vs],u.oneCell'=true)->J P c K (⟨b,e,.is (stV st vc vn vr vi vf vw vg vo vs)⟩::L) (SlE coE (FC N) st.cols vc::SlE stE (FN N) st.names vn::SlE rwE noS st.rows vr::SlE itE noS st.items vi::SlE srE noS st.from_ vf::SlE exE (FX N) st.where_ vw::ExsR st.group vg::SlE kyE noS st.order vo::ExsR st.sets vs::Φ) y Q):J P c K (⟨b,e,.rep (StR N st)⟩::L) Φ y Q:=by
 refine⟨fun X a w hs=>?_⟩;obtain⟨hb,v,hv,hp⟩:=hs.l _ List.mem_cons_self;obtain⟨vc,vn,vr,vi,vf,vw,vg,vo,vs,rfl,h1,h2,h3,h4,h5,h6,h7,h8,h9⟩:=Zf9 (show Pers X w (StR N st v)from hp);refine(hj vc vn vr vi vf vw vg vo vs ?_).out X a w ⟨hs.n,hs.d,hs.wf,hs.k,?_,hs.ld,?_,hs.x,hs.xs,hs.keeps,?_⟩
 · intro u hu
   simp only[List.mem_cons,List.mem_nil_iff,or_false]at hu;rcases hu with rfl|rfl|rfl|rfl|rfl|rfl|rfl|rfl|rfl
   · exact Z5S h1.now
   · exact Z5S h2.now
   · exact Z5S h3.now
   · exact Z5S h4.now
   · exact Z5S h5.now
   · exact Z5S h6.now
   · exact Zci h7.now
   · exact Z5S h8.now
   · exact Zci h9.now
 · intro o ho
   rcases List.mem_cons.1 ho with rfl|ho
   · exact⟨hb,_,hv,rfl⟩
   · exact hs.l o (List.mem_cons_of_mem _ ho)
 · intro F hF
   simp only[List.mem_cons]at hF;rcases hF with rfl|rfl|rfl|rfl|rfl|rfl|rfl|rfl|rfl|hF<;>first|assumption|exact hs.f F hF
 · intro o ho
   rcases List.mem_cons.1 ho with rfl|ho
   · exact hs.may ⟨b,e,.rep (StR N st)⟩ List.mem_cons_self
   · exact hs.may o (List.mem_cons_of_mem _ ho)
end
theorem Z9R{st:Pz.St}{vc vn vr vi vf vw vg vo vs:Value}(h: ∀u∈[vc,vn,vr,vi,vf,vw,vg,vo,vs],u.oneCell'=true):Cnt (.is (stV st vc vn vr vi vf vw vg vo vs)) 14:=Zb rfl (by
 simp only[List.mem_cons,List.mem_nil_iff,or_false,forall_eq_or_imp,forall_eq]at h
 simp[Value.cells,h]
 all_goals exact⟨rfl,rfl,rfl,rfl,rfl⟩)
abbrev lx(s:ByteArray):List T3×Int:=lexL s.data.toList
theorem ZbT(N:Nat)(s:ByteArray):CallL Tryz.prog Z56 (Z:=Unit) [] [NH N,GF,AF] [.is (.string s)] (fun _=>True) (fun _=>[]) (fun _=>.tup2 (.rep (StR N (readS (lx s)).1)) (.is (.int .i64 (readS (lx s)).2))):=
CallL.ofD (N:=N) List.mem_cons_self (fn:=Tryz.f13) Tryz.func13 (n:=34) rfl rfl rfl (fun _ _=>by kernel_rfl) fun E W hNW hb0=>by
 refine vQ ?_;refine JO.alloc ZT rfl fun b2=>(JO.alloc Zcf rfl fun b3=>(vP [0,2,3] ?_));refine Jm rfl (Jq (Z43 rfl (ZfJ _) (by simp) (.one rfl .nil)) ?_);refine Jm rfl (Jq (Z2c rfl) (Jq (Z2d rfl) (Ja rfl (JO.m (Z2 rfl rfl qU qC qO Z4m) (by rfl) ?_))));refine vP [2,3,4] ?_;refine Jq (Z5 Z2P rfl rfl) (Jq (Z28 rfl rfl) (vS [2,3,4,12] ?_));refine yC rfl (fun ht12=>?_) (fun ht12=>?_)
 repeat apply yQ
 refine J.regSm 2 3 ([⟨b3,Z2E,.is (.int .i64 (lx s).2)⟩,⟨b2,Z3,zSt⟩]) ([⟨b3,Z2E,.is (.int .i64 (lx s).2)⟩]) rfl rfl rfl rfl hmx qK rfl rfl qK (fun E w h m hm=>h m (by rw[List.mem_singleton.1 hm];exact List.mem_cons_self)) (fun E w h m hm=>h m (by rw[List.mem_singleton.1 hm];exact List.mem_cons_self)) ?_;refine yz (Zd (cs:=[_,_,_,_,_,_,_,_,_,_,_,_,_,_]) Z1w .nil rfl rfl) (yz (Z5 Z2P rfl rfl) ?_);refine RT.store (BigOb.store rfl (Z2 rfl rfl qU (by exact Zb rfl rfl) (by exact Zb rfl rfl) Zo)) ?_;apply yn;refine JO.m (Z2 rfl rfl qU qC qO Z4m) (by rfl) ?_;refine vS [2,3] ?_;refine vR ?_;refine JX.ret0D ?_;exact JX.retLCC (Lr:=_) (A:=.rep (StR N st0)) (B:=.int .i64 (lx s).2) rfl () trivial (.refl _) rfl hb0 rfl rfl Zj Z2P qI qI (ZQ rfl) rfl rfl SrZero (by show Ty.tup2 (.rep (StR N (readS (lx s)).1)) (.is (.int .i64 (readS (lx s)).2))=_;rw[ZeU (l:=lx s) (by simpa using ht12)]);apply yK
 repeat first|apply yX|apply yB
 have hq:(lx s).2=0:=by first|exact ht12|simpa using ht12
 refine vQ ?_;refine Jq (Z3J .nil (.cons rfl (.cons rfl .nil))) (JO.defer rfl (vS [2,3,4] ?_));refine J.openSlC (s:=4) rfl (fun a len cap bb oo hl ha hlc=>?_);have h9:(lx s).1.length<=2049:=Z92 _
 by_cases hn:(lx s).1=[]
 · have hz0:(lx s).1=[]:=hn
   refine vQ ?_;refine Jm rfl (Jq (Zd (cs:=[_]) Z7v (.cons rfl .nil) rfl rfl) (JO.box rfl rfl fun b18=>(Ja rfl (vP [2,3,5] ?_))));refine Jm rfl ?_;refine JO.callPK (Lr:=[_,_]) (ZaH b18 a cap) rfl (by rw[show len=0 by rw[<-hl,hn];rfl];exact .refl _) Z1Z qA (fun _=>?_) (fun _ h=>h.elim)
   (repeat(first|refine JX.pan_pass ?_|refine JX.pan_block ?_))
   refine JX.panD (f:=Z2X) (cap:=[.pointer (some ⟨b2,0,none⟩),.pointer (some ⟨b3,0,none⟩)]) (L0:=[⟨b2,Z3,zSt⟩,⟨b3,Z2E,.is (.int .i64 (lx s).2)⟩]) (Lr:=[]) (Zb9 b2 b3 _ (by exact Zb rfl rfl) _) rfl (.swap _ _ _) ?_;exact JX.retLCC (Lr:=_) (A:=.rep (StR N st0)) (B:=.int .i64 30) rfl () trivial (.refl _) rfl hb0 rfl rfl Zj Z2P qI qI (ZQ rfl) rfl rfl SrZero (by show Ty.tup2 (.rep (StR N (readS (lx s)).1)) (.is (.int .i64 (readS (lx s)).2))=_;rw[Zc8 hq (by rw[hz0];rfl)])
 have ha2:=ha (by rw[<-hl];exact fun h=>hn (List.length_eq_zero_iff.1 h));subst ha2 hl;rw[Zij];refine vQ ?_;refine Jm rfl (Jq (Zd (cs:=[_]) Z7v (.cons rfl .nil) rfl rfl) (JO.box rfl rfl fun b18=>(Ja rfl (vP [2,3,5] ?_))));refine Jm rfl ?_;refine JO.callPK (Lr:=[_,_]) (Z6q N ⟨(lx s).1,bb,oo,cap⟩ hlc h9 b18 (lx s).1 (List.suffix_refl _) ((lx s).1.length+1) (Nat.lt_succ_self _)) rfl (.refl _) qF qA (fun hbad=>?_) ?_
 · (repeat(first|refine JX.pan_pass ?_|refine JX.pan_block ?_))
   refine JX.panD (f:=Z2X) (cap:=[.pointer (some ⟨b2,0,none⟩),.pointer (some ⟨b3,0,none⟩)]) (L0:=[⟨b2,Z3,zSt⟩,⟨b3,Z2E,.is (.int .i64 (lx s).2)⟩]) (Lr:=[]) (Zb9 b2 b3 _ (by exact Zb rfl rfl) _) rfl (.swap _ _ _) ?_;exact JX.retLCC (Lr:=_) (A:=.rep (StR N st0)) (B:=.int .i64 30) rfl () trivial (.refl _) rfl hb0 rfl rfl Zj Z2P qI qI (ZQ rfl) rfl rfl SrZero (by show Ty.tup2 (.rep (StR N (readS (lx s)).1)) (.is (.int .i64 (readS (lx s)).2))=_;rw[Zc8 hq (ZcE hbad)])
 intro z hz;have hzs:z.2<:+(lx s).1:=ZfZ (Z2K _) hz;refine vD ?_;refine JO.m (Z2 rfl rfl qU (by exact Zb rfl rfl) (by exact ZF) Zo) (by rfl) ?_;refine vP [2,3,5] ?_;refine Jm rfl (JO.callK (Lr:=[_,_]) (ZE ⟨(lx s).1,bb,oo,cap⟩ hlc b18 z.2 hzs Z4W) rfl (.refl _) qF qA ?_);intro _ _;refine vD ?_;refine vP [2,3,5] ?_;refine Jm rfl (Jm rfl (Jq (Z4 rfl) (Jq (Z0 Zq rfl) (Jq (Z5 ZC rfl rfl) (Jq (ZD ZR rfl) (Jq (ZP rfl rfl) ?_))))));refine JO.callPK (Lr:=_) (Zt (.pointer (some ⟨b18,0,none⟩)) _) rfl (Z2a _) qF qA (fun hbad=>?_) ?_
 · (repeat(first|refine JX.pan_pass ?_|refine JX.pan_block ?_))
   refine JX.panD (f:=Z2X) (cap:=[.pointer (some ⟨b2,0,none⟩),.pointer (some ⟨b3,0,none⟩)]) (L0:=[⟨b2,Z3,.rep (StR N z.1)⟩,⟨b3,Z2E,.is (.int .i64 (lx s).2)⟩]) (Lr:=[_]) (Zb9 b2 b3 _ ZF _) rfl (List.reverse_perm _).symm ?_;exact JX.retLCC (Lr:=_) (A:=.rep (StR N st0)) (B:=.int .i64 30) rfl () trivial (.refl _) rfl hb0 rfl rfl Zj Z2P qI qI (ZQ rfl) rfl rfl SrZero (by show Ty.tup2 (.rep (StR N (readS (lx s)).1)) (.is (.int .i64 (readS (lx s)).2))=_;rw[Zc8 hq (Zbx hz (by simpa using hbad))])
 intro _ hw0;refine vD ?_;refine vS [2,3] ?_;refine J.front b2 (by repeat(first|exact .here|apply Front.there)) ?_;refine J.openOwnSt fun vc vn vr vi vf vw vg vo vs h1c=>?_;have hwp:wholeP (lx s).1=some z.1:=ZbK hz (by simpa using hw0);refine vQ ?_;refine JO.callK (Lr:=[_,_]) (Zcb N b2 z.1 vc vn vr vi vf vw vg vo vs (Zas hz) (fun x hx=>Nat.le_trans (Zbc (Z2K _) (Z9V _) (Nat.le_refl _) hz x hx) qM)) rfl (.refl _) qF qA ?_;intro _ _;refine vD ?_;refine vS [2,3,31] ?_;refine yC rfl (fun ht31=>?_) (fun ht31=>?_);refine vQ ?_;refine Jq (Zd (cs:=[_,_,_,_,_,_,_,_,_,_,_,_,_,_]) Z1w .nil rfl rfl) (JO.m (Z2 rfl rfl qU (by exact Z9R h1c) (by exact Zb rfl rfl) Zo) (by rfl) ?_);refine JO.m (Z2 rfl rfl qU qC qO Z4m) (by rfl) ?_;refine vS [2,3] ?_;refine vR ?_;refine JX.retD (f:=Z2X) (cap:=[.pointer (some ⟨b2,0,none⟩),.pointer (some ⟨b3,0,none⟩)]) (L0:=[⟨b2,Z3,zSt⟩,⟨b3,Z2E,.is (.int .i64 31)⟩]) (Lr:=[_]) (Zff b2 b3 _ rfl _) (.cons _ (.swap _ _ _)) ?_;exact JX.retLCC (Lr:=_) (A:=.rep (StR N st0)) (B:=.int .i64 31) rfl () trivial (.refl _) rfl hb0 rfl rfl Zj Z2P qI qI (ZQ rfl) rfl rfl SrZero (by show Ty.tup2 (.rep (StR N (readS (lx s)).1)) (.is (.int .i64 (readS (lx s)).2))=_;rw[ZgM hq hwp ht31]);apply yK;refine vN ?_;apply yN;refine Jq (ZU (cs:=[_,_,_,_,_,_,_,_,_,_,_,_,_,_]) Zj rfl rfl rfl) (JO.m (Z2 rfl rfl qU (by exact Z9R h1c) (by exact Z9R h1c) Zo) (by rfl) ?_);refine JO.m (Z2 rfl rfl qU qC qO Z4m) (by rfl) ?_;refine vS [2,3] ?_;refine vR ?_;refine JX.retD (f:=Z2X) (cap:=[.pointer (some ⟨b2,0,none⟩),.pointer (some ⟨b3,0,none⟩)]) (L0:=[⟨b2,Z3,.is (stV z.1 vc vn vr vi vf vw vg vo vs)⟩,⟨b3,Z2E,.is (.int .i64 0)⟩]) (Lr:=[_]) (Zff b2 b3 _ rfl _) (.cons _ (.swap _ _ _)) ?_;exact JX.retLCC (Lr:=_) (A:=.rep (StR N z.1)) (B:=.int .i64 0) rfl () trivial (.refl _) rfl hb0 rfl rfl Zj Z2P qI qI (ZQ rfl) rfl rfl (Sub.st rfl fun X w hf w' hk=>⟨hf _ qI w' hk,hf _ qI w' hk,hf _ qI w' hk,hf _ qI w' hk,hf _ qI w' hk,hf _ qI w' hk,hf _ qI w' hk,hf _ qI w' hk,hf _ qI w' hk⟩) (by show Ty.tup2 (.rep (StR N (readS (lx s)).1)) (.is (.int .i64 (readS (lx s)).2))=_;rw[Zfy hq hwp ht31])
end Go.Proofs.YtbedigkncjbggaaGreatDoor
set_option maxRecDepth 20000
namespace Go.Proofs.YtbedigkncjbggaaGreatDoor
open Go Go.Vc
theorem Z82{p:UInt8->Bool}(h: ∀n:Nat,n<256->p (UInt8.ofNat n)=true)(b:UInt8):p b=true:=by
 have:=h b.toNat b.toNat_lt
 rwa [UInt8.ofNat_toNat]at this
abbrev low(b:UInt8):UInt8:=lowC false b
def lowOK(b:UInt8):Bool:=(isSp (low b)==isSp b)&&(wordB (low b)==wordB b)&&(digB (low b)==digB b)&&(letB (low b)==letB b)&&((low b==39)==(b==39))&&(Lib.upperB (low b)==Lib.upperB b)&&(Lib.lowerB (low b)==Lib.lowerB b)&&(!digB b||low b==b)&&(letB b||low b==b)
theorem Zi4(b:UInt8):lowOK b=true:=Z82 (p:=lowOK) (by decide+kernel) b
theorem ZiR(b:UInt8):isSp (low b)=isSp b/\wordB (low b)=wordB b/\digB (low b)=digB b/\letB (low b)=letB b/\(low b==39)=(b==39)/\Lib.upperB (low b)=Lib.upperB b/\Lib.lowerB (low b)=Lib.lowerB b/\(digB b=true->low b=b)/\(letB b=false->low b=b):=by
 have h:=Zi4 b;unfold lowOK at h;simp only[Bool.and_eq_true,beq_iff_eq,Bool.or_eq_true,Bool.not_eq_true']at h;obtain⟨⟨⟨⟨⟨⟨⟨⟨h1,h2⟩,h3⟩,h4⟩,h5⟩,h6⟩,h7⟩,h8⟩,h9⟩:=h;refine⟨h1,h2,h3,h4,h5,h6,h7,fun h=>?_,fun h=>?_⟩
 · rcases h8 with h8|h8
   · rw[h]at h8;cases h8
   · exact h8
 · rcases h9 with h9|h9
   · rw[h]at h9;cases h9
   · exact h9
theorem Z9e: ∀{a l:List UInt8},a.isPrefixOf l=true->∀x∈a,x∈l
 |[],_,_,x,h=>by cases h
 |_::_,[],h,_,_=>by cases h
 |a::ar,b::br,h,x,hx=>by
   simp only[List.isPrefixOf,Bool.and_eq_true,beq_iff_eq]at h;rcases List.mem_cons.1 hx with rfl|hx
   · rw[h.1];exact List.mem_cons_self
   · exact List.mem_cons_of_mem _ (Z9e h.2 x hx)
theorem Zd9{s sub:List UInt8}(h:Lib.contains s sub=true): ∀x∈sub,x∈s:=fun x hx=>by
 unfold Lib.contains at h;have h:=of_decide_eq_true h;rcases Lib.index_spec s sub with⟨h1,_⟩|⟨i,_,_,h3,_⟩
 · omega
 · exact List.mem_of_mem_drop (Z9e h3 x hx)
theorem ZfO{l:List UInt8}{q:Nat}{b:UInt8}(hb:b∈l.take q)(h:b∉sgB.data.toList):tryL l q=false:=by
 unfold tryL;cases hc:Lib.contains sgB.data.toList (padL (l.take q))
 · simp
 · exact absurd (Zd9 hc b (by unfold padL;simp;exact .inr (.inl hb))) h
end Go.Proofs.YtbedigkncjbggaaGreatDoor
set_option maxRecDepth 20000
namespace Go.Proofs.YtbedigkncjbggaaGreatDoor
open Go Go.Vc
end Go.Proofs.YtbedigkncjbggaaGreatDoor
set_option maxRecDepth 20000
namespace Go.Proofs.YtbedigkncjbggaaGreatDoor
open Go Go.Vc
structure Sep (c:UInt8):Prop where
 wd:wordB c=false
 dg:digB c=false
 lt:letB c=false
 nq:(c==39)=false
 sg: ∀b l,tryL (b::c::l) 2=false
section
variable{c:UInt8}(hc:Sep c)
include hc in
include hc in
include hc in
include hc in
include hc in
end
end Go.Proofs.YtbedigkncjbggaaGreatDoor
