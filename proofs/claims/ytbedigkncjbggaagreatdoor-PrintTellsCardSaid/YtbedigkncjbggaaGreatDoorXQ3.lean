/- The scanner: classes of bytes, spaces, runs. No condition. -/
import Derived.Test.YtbedigkncjbggaaGreatDoorXQ2
import Derived.Test.YtbedigkncjbggaaGreatDoorXG3
import Derived.Test.YtbedigkncjbggaaGreatDoorXQ1
set_option maxRecDepth 20000
namespace Go.Proofs.YtbedigkncjbggaaGreatDoor
open Go Go.Vc
abbrev AB:UInt8->Ty:=fun b=>.is (.int .u8 b.toNat)
abbrev RBB(p:UInt8->Bool):UInt8->Ty:=fun b=>.is (.bool (p b))
abbrev TT:World->Prop:=fun _=>True
theorem Z4d{a b:Bool}(h:(a&&b)=true):a=true/\b=true:=by simpa using h
theorem Z7v(c:Int):CallTy Tryz.prog Zf5 [.is (.int .u8 c)] (.is (.bool (letterF c))):=
 CallTy.of (fn:=Tryz.f98) Tryz.func98 (n:=15) rfl rfl rfl (fun _ _=>by kernel_rfl) fun E W=>by
 refine vQ ?_;refine Ja rfl (vS [0] ?_);refine J.reg0 hmx qK qK ?_;refine yz (Z2 rfl) (yz (Zu rfl rfl) (yz (Z2 rfl) (yg rfl rfl rfl (fun hg=>Z2 (.inl rfl)) (yg rfl rfl rfl (fun hg=>ZjJ (qR rfl) (.inl rfl)) ?_))));refine yg rfl rfl rfl (fun hg=>Z2Z (qR rfl) (.inl rfl)) ?_;refine yg rfl rfl rfl (fun hg=>Z2 (qR rfl)) ?_;refine RT.gg rfl rfl rfl (fun hg=>(Z2 (.inl rfl))) ?_;refine RT.gg rfl rfl rfl (fun hg=>(ZjJ (qR rfl) (.inl rfl))) ?_;refine RT.gg rfl rfl rfl (fun hg=>(Z3U (qR rfl) (.inl rfl))) ?_;refine yg rfl rfl rfl (fun hg=>Zn (qR rfl) (.inl rfl) (.inl rfl) (fun h=>⟨hg,h⟩)) ?_;refine yz (ZF rfl rfl rfl id) (yz (Z15 rfl) ?_);apply yn;refine FinS.nil0 ?_;refine vS [2] ?_;refine vR ?_;exact JX.ret1is rfl rfl (by rfl)
theorem Z8i(c:Int):CallTy Tryz.prog Zbd [.is (.int .u8 c)] (.is (.bool (digitF c))):=
 CallTy.of (fn:=Tryz.f100) Tryz.func100 (n:=9) rfl rfl rfl (fun _ _=>by kernel_rfl) fun E W=>by
 refine vQ ?_;refine Ja rfl (vS [0] ?_);refine J.reg0 hmx qK qK ?_;refine yz (Z2 rfl) (yz (Z2Z rfl rfl) (yz (Z2 rfl) (yg rfl rfl rfl (fun hg=>Z2 (.inl rfl)) (yg rfl rfl rfl (fun hg=>Z3U (qR rfl) (.inl rfl)) ?_))));refine yz (Zn rfl rfl rfl id) (yz (Z15 rfl) ?_);apply yn;refine FinS.nil0 ?_;refine vS [2] ?_;refine vR ?_;exact JX.ret1is rfl rfl (by rfl)
theorem Z8j(c:Int):CallTy Tryz.prog Z5e [.is (.int .u8 c)] (.is (.bool (letterF c||digitF c))):=
 CallTy.of (fn:=Tryz.f140) Tryz.func140 (n:=9) rfl rfl rfl (fun _ _=>by kernel_rfl) fun E W=>by
 refine vQ ?_;refine Ja rfl (vS [0] ?_);refine J.reg0 hmx qK qK ?_;refine yz (Z2 rfl) (yz (Zo rfl (Z7v c) qA) ?_);refine yz (Z2 rfl) (yg rfl rfl rfl (fun hg=>Z2 (.inl rfl)) (yg rfl rfl rfl (fun hg=>Zo (.inl rfl) (Z8i c) (.one (qR rfl) .nil)) ?_));refine yz (ZF rfl rfl rfl id) (yz (Z15 rfl) ?_);apply yn;refine FinS.nil0 ?_;refine vS [2] ?_;refine vR ?_;exact JX.ret1is rfl rfl (by rfl)
theorem Zlg:Fn1 Tryz.prog (.func (.func Z5e) ([]:List Value).toArray ([]:List Value).toArray) TT AB (RBB wordB):=
 Fn1.of (TF:=[]) (TC:=[]) (fun b=>Z8j b.toNat) (fun _ _ _=>trivial) (fun _ _ _=>trivial) 0
theorem Zj9:Fn1 Tryz.prog (.func (.func Zbd) ([]:List Value).toArray ([]:List Value).toArray) TT AB (RBB digB):=
 Fn1.of (TF:=[]) (TC:=[]) (fun b=>Z8i b.toNat) (fun _ _ _=>trivial) (fun _ _ _=>trivial) 0
theorem Z5F(s:ByteArray)(n:Nat)(hn:n<=s.size)(hs:s.size<=9223372036854775806):CallM Tryz.prog Z8W Z1A (sv s n) [] [] (sv s (n+runN isSp (dr s n))) (.is (.tuple #[])):=
CallM.of (fn:=Tryz.f56) Tryz.func56 (n:=32) rfl rfl rfl (fun _ _=>by kernel_rfl) fun E W b0=>by
 repeat apply yQ
 apply yk
 repeat apply yQ
 refine J.loopG (α:=Nat) (fun i=>[(0,.is (.pointer (some ⟨b0,0,none⟩)))]) (fun i=>[⟨b0,Z1A,.is (sv s i)⟩]) (fun i=>fun _=>True) (fun i=>i<=s.size/\i+runN isSp (dr s i)=n+runN isSp (dr s n)) (fun i=>s.size-i) n [0] (.cons rfl .nil) rfl (fun _=>trivial) ⟨hn,rfl⟩ fun i ⟨hi,hr⟩=>?_
 repeat apply yQ
 refine J.reg0 hmx qK qK ?_;refine yz (Z2 rfl) (yz (Z5 rfl) (yz (Z0 Zt rfl) (yz (Z1 Zq rfl rfl) (yz (Z2 rfl) (yz (Z5 rfl) (yz (Z0 Z11 rfl) (yz (Z1 Za rfl rfl) (yz (Z1T Zd rfl) (yz (ZC rfl rfl) (yz (Z2 rfl) (yg rfl rfl rfl (fun hg=>Z2 (.inl rfl)) ?_)))))))))));refine yg rfl rfl rfl (fun hg=>Z5 (qR rfl)) ?_;refine yg rfl rfl rfl (fun hg=>Z0 Z11 (qR rfl)) ?_;refine yg rfl rfl rfl (fun hg=>Z1 Za (qR rfl) rfl) ?_;refine yg rfl rfl rfl (fun hg=>Z2 (.inl rfl)) (yg rfl rfl rfl (fun hg=>Z5 (qR rfl)) ?_);refine yg rfl rfl rfl (fun hg=>Z0 Zt (qR rfl)) ?_;refine yg rfl rfl rfl (fun hg=>Z1 Zq (qR rfl) rfl) ?_;refine yg rfl rfl rfl (fun hg=>Z1F Zd (qR rfl) (qR rfl) (by have h:=hg;simp only[decide_eq_true_eq]at h;omega) (by have h:=hg;simp only[decide_eq_true_eq]at h;omega)) ?_;refine yg rfl rfl rfl (fun hg=>Zo (.inl rfl) (Za7 ⟨#[32,9,10,13]⟩ (sb s i)) (.one (.inl rfl) (.one (qR rfl) .nil))) ?_;refine yg rfl rfl rfl (fun hg=>Z2Z (qR rfl) (.inl rfl)) ?_;refine yz (Zn rfl rfl rfl id) ?_;apply yn;refine FinS.nil0 ?_;refine vS [0,24] ?_;refine yC rfl (fun ht24=>?_) (fun ht24=>?_)
 try simp only[yd,yf]at ht24
 apply yK;refine vN ?_;apply yk;have hlt:i<s.size:=by have h:=(Z4d ht24).1;simp only[decide_eq_true_eq]at h;omega
 refine vQ ?_;refine Jm rfl (Jq (Z5 rfl) (Jq (Z0 Zt rfl) (Jq (Z1 Zq rfl rfl) (Jq (Zv (cc:=((i+1:Nat):Int)) rfl rfl qM qM qM) ?_))));refine Jq (Z5 rfl) (Jq (Z0 Zt rfl) (JO.m (Zj (cs':=[_,_]) rfl rfl qU rfl rfl rfl rfl Z2x) (by rfl) ?_));apply yI
 repeat refine JX.normal_block ?_
 refine JX.roundG (x:=i) (i+1) ?_ ?_ [0] ?_ ?_ ?_ ?_
 · exact⟨by omega,by rw[<-hr,Z7z qM (Z4d (show(decide ((i:Int)<s.size)&&isSp (by_ s i))=true by rw[<-ZjG];exact ht24)).2];omega⟩
 · exact qM
 · exact qS
 · exact qH
 · exact qG
 · exact fun _ _ _=>fun _ _=>trivial
 try simp only[yd,yf]at ht24
 repeat apply yQ
 refine J.exit ?_
 repeat first|refine yH ?_|refine yM rfl ?_|refine yE ?_
 repeat first|apply yX|apply yB
 exact JX.normal_ret (JX.retM0e rfl HasOwn.mem (by rw[<-hr,Z6c fun h=>by have h2:(decide ((i:Int)<s.size)&&isSp (by_ s i))=false:=(by rw[<-ZjG];exact ht24);simpa [h] using h2];rfl))
theorem Z5U(p:UInt8->Bool)(fv:Value)(hf:Fn1 Tryz.prog fv TT AB (RBB p))(s:ByteArray)(n:Nat)(hn:n<=s.size)(hs:s.size<=9223372036854775806):CallM Tryz.prog Za9 Z1A (sv s n) [] [.rep (FunR fv TT)] (sv s (n+runN p (dr s n))) (.is (.string (s.extract n (n+runN p (dr s n))))):=
CallM.of (fn:=Tryz.f139) Tryz.func139 (n:=50) rfl rfl rfl (fun _ _=>by kernel_rfl) fun E W b0=>by
 refine J.openFun (s:=1) rfl ?_;refine vQ ?_;refine Ja rfl (vP [0,1] ?_);refine Jm rfl (Jq (Z5 rfl) (Jq (Z0 Zt rfl) (Jq (Z1 Zq rfl rfl) (Ja rfl (vS [0,1,5] ?_)))));apply yk
 repeat apply yQ
 refine J.loopG (α:=Nat) (fun i=>[(0,.is (.pointer (some ⟨b0,0,none⟩))),(1,.is fv),(5,.is (.int .i64 (n:Int)))]) (fun i=>[⟨b0,Z1A,.is (sv s i)⟩]) (fun i=>fun _=>True) (fun i=>i<=s.size/\i+runN p (dr s i)=n+runN p (dr s n)) (fun i=>s.size-i) n [0,1,5] (.cons rfl (.cons rfl (.cons rfl .nil))) rfl (fun _=>trivial) ⟨hn,rfl⟩ fun i ⟨hi,hr⟩=>?_
 repeat apply yQ
 refine J.reg0 hmx qK qK ?_;refine yz (Z2 rfl) (yz (Z5 rfl) (yz (Z0 Zt rfl) (yz (Z1 Zq rfl rfl) (yz (Z2 rfl) (yz (Z5 rfl) (yz (Z0 Z11 rfl) (yz (Z1 Za rfl rfl) (yz (Z1T Zd rfl) (yz (ZC rfl rfl) (yz (Z2 rfl) (yg rfl rfl rfl (fun hg=>Z2 (.inl rfl)) ?_)))))))))));refine yg rfl rfl rfl (fun hg=>Z2 (.inl rfl)) (yg rfl rfl rfl (fun hg=>Z5 (qR rfl)) ?_);refine yg rfl rfl rfl (fun hg=>Z0 Z11 (qR rfl)) ?_;refine yg rfl rfl rfl (fun hg=>Z1 Za (qR rfl) rfl) ?_;refine yg rfl rfl rfl (fun hg=>Z2 (.inl rfl)) (yg rfl rfl rfl (fun hg=>Z5 (qR rfl)) ?_);refine yg rfl rfl rfl (fun hg=>Z0 Zt (qR rfl)) ?_;refine yg rfl rfl rfl (fun hg=>Z1 Zq (qR rfl) rfl) ?_;refine yg rfl rfl rfl (fun hg=>Z1F Zd (qR rfl) (qR rfl) (by have h:=hg;simp only[decide_eq_true_eq]at h;omega) (by have h:=hg;simp only[decide_eq_true_eq]at h;omega)) ?_;refine yg rfl rfl rfl (fun hg=>ZiZ (by_ s i) (qR rfl) hf qI (qR rfl)) ?_;refine yz (Zn rfl rfl rfl id) ?_;apply yn;refine FinS.nil0 ?_;refine vS [0,1,5,32] ?_;refine yC rfl (fun ht32=>?_) (fun ht32=>?_);apply yK;refine vN ?_;apply yk;have hlt:i<s.size:=by have h:=(Z4d ht32).1;simp only[decide_eq_true_eq]at h;omega
 refine vQ ?_;refine Jm rfl (Jq (Z5 rfl) (Jq (Z0 Zt rfl) (Jq (Z1 Zq rfl rfl) (Jq (Zv (cc:=((i+1:Nat):Int)) rfl rfl qM qM qM) ?_))));refine Jq (Z5 rfl) (Jq (Z0 Zt rfl) (JO.m (Zj (cs':=[_,_]) rfl rfl qU rfl rfl rfl rfl Z2x) (by rfl) ?_));apply yI
 repeat refine JX.normal_block ?_
 refine JX.roundG (x:=i) (i+1) ?_ ?_ [0,1,5] ?_ ?_ ?_ ?_
 · exact⟨by omega,by rw[<-hr,Z7z qM (Z4d (show(decide ((i:Int)<s.size)&&p (by_ s i))=true from ht32)).2];omega⟩
 · exact qM
 · exact qS
 · exact qH
 · exact qG
 · exact fun _ _ _=>fun _ _=>trivial
 repeat apply yQ
 refine J.exit ?_
 repeat first|refine yH ?_|refine yM rfl ?_|refine yE ?_
 repeat first|apply yX|apply yB
 have he:i=n+runN p (dr s n):=by rw[<-hr,Z6c fun h=>by have h2:(decide ((i:Int)<s.size)&&p (by_ s i))=false:=ht32;simpa [h] using h2];rfl
 have hni:n<=i:=by omega
 repeat apply yQ
 refine J.reg0 hmx qK qK ?_;refine yz (Z2 rfl) (yz (Z5 rfl) (yz (Z0 Z11 rfl) (yz (Z1 Za rfl rfl) (yz (Z2 rfl) (yz (Z2 rfl) (yz (Z5 rfl) (yz (Z0 Zt rfl) (yz (Z1 Zq rfl rfl) (yz (Z4R Zd rfl rfl rfl qM qM qM) ?_)))))))));refine yz (Z15 rfl) ?_;apply yn;refine FinS.nil0 ?_;refine vS [4] ?_;refine vR ?_;exact JX.retM1e rfl HasOwn.mem rfl (by rw[he];rfl) (by rw[he])
end Go.Proofs.YtbedigkncjbggaaGreatDoor
set_option maxRecDepth 20000
namespace Go.Proofs.YtbedigkncjbggaaGreatDoor
open Go Go.Vc
theorem Zgp(p:UInt8->Bool)(s:ByteArray)(i:Nat):headP p (dr s i)=(decide ((i:Int)<s.size)&&p (by_ s i)):=by
 by_cases h:i<s.size
 · rw[Z1D h,headP,decide_eq_true qM,Bool.true_and]
 · rw[Z5h qM,headP,decide_eq_false qM,Bool.false_and]
theorem Ziq{s:ByteArray}{n:Nat}(hn:n<s.size)(q:Nat):tryL (dr s n) q=(decide (((n+q:Nat):Int)<=s.size)&&Lib.contains sgB.data.toList ((sp1++s.extract n (n+q))++sp1).data.toList):=by
 unfold tryL;rw[Z7h,Z1t,Z5i]
 congr 1
 exact decide_eq_decide.2 ⟨fun h=>by omega,fun h=>by omega⟩
theorem Zm1{l:List UInt8}{i:Nat}(h:i<l.length):l[i]? =some (l.getD i 0):=by simp[h]
theorem Zd2{α:Type}(f:α->UInt8->α){a:α}{l:List UInt8}{k:Nat}(h:k<l.length):(l.take (k+1)).foldl f a=f ((l.take k).foldl f a) (l.getD k 0):=by
 rw[List.take_add_one,List.foldl_append]
 simp[h]
theorem Z9j(s:ByteArray)(n:Nat)(hn:n<s.size)(hs:s.size<=2048):CallM Tryz.prog Z5Q Z1A (sv s n) [GF] [] (sv s (n+runN wordB (dr s n))) (.tup2 (.is (tv (wordL ((dr s n).take (runN wordB (dr s n)))).1)) (.is (.int .i64 (wordL ((dr s n).take (runN wordB (dr s n)))).2))):=
CallM.of (fn:=Tryz.f99) Tryz.func99 (n:=23) rfl rfl rfl (fun _ _=>by kernel_rfl) fun E W b0=>by
 refine vQ ?_;refine JO.alloc Z1C rfl fun b2=>(Ja rfl (vP [0,2] ?_));refine Jm rfl (JO.md (Z9f rfl rfl (Z5U wordB _ Zlg s n qM qM) qU (by simp) (.sub rfl (Sub.funT (fun _=>trivial)) .nil)) (by rfl) rfl ?_);refine Ja rfl (vP [2,4] ?_);refine Jm rfl (Jq (Zo rfl (Z6U (s.extract n (n+runN wordB (dr s n))) (by have h1:=Z4N s n (runN wordB (dr s n));omega) (Zdm s n)) qA) ?_);refine Ja rfl (vP [2,4,5] ?_);refine Jm rfl (Jq (Z67 rfl rfl (ZfU (by show(bl (Lib.toUpperA (s.extract n (n+runN wordB (dr s n))).data.toList)).size<=2048;rw[Z29,Zco,Z18];have h1:=Z4N s n (runN wordB (dr s n));omega))) ?_);refine Jq (Z67 rfl rfl (Zg3 (by show(bl (Lib.toUpperA (s.extract n (n+runN wordB (dr s n))).data.toList)).size<=2048;rw[Z29,Zco,Z18];have h1:=Z4N s n (runN wordB (dr s n));omega))) ?_;refine Jq (ZN rfl (Z6x kwB _ qD) (by simp) (.one rfl (.one rfl .nil))) ?_;refine vS [2,4,5,13] ?_;refine yC rfl (fun ht13=>?_) (fun ht13=>?_);refine vQ ?_;refine Jm rfl (Jq (Zg (cs:=[_,_,_]) Z1e (.cons rfl (.cons rfl .nil)) rfl rfl) (JO.m (Z4 rfl rfl qU qC qO ZI) (by rfl) ?_));refine Ja rfl (vS [2,3] ?_);refine vR ?_;exact JX.retMC1is rfl HasOwn.mem rfl ZM HasOwn.mem rfl rfl (by have hc:(Lib.contains kwB.data.toList ((sp1++⟨(Lib.toUpperA (s.extract n (n+runN wordB (dr s n))).data.toList).toArray⟩)++sp1).data.toList)=Lib.contains kwB.data.toList (padL (Lib.toUpperA ((dr s n).take (runN wordB (dr s n))))):=(by rw[Z7h,Z1O,Z1t]);rw[hc]at ht13;unfold wordL;rw[if_pos ht13,Z1t]) (by have hc:(Lib.contains kwB.data.toList ((sp1++⟨(Lib.toUpperA (s.extract n (n+runN wordB (dr s n))).data.toList).toArray⟩)++sp1).data.toList)=Lib.contains kwB.data.toList (padL (Lib.toUpperA ((dr s n).take (runN wordB (dr s n))))):=(by rw[Z7h,Z1O,Z1t]);rw[hc]at ht13;unfold wordL;rw[if_pos ht13]) (by rfl);apply yK;refine vN ?_;apply yN;refine Jm rfl (Jq (Z1T Zd rfl) (Jq (Z13 rfl rfl) (vS [2,4,18] ?_)));refine yC rfl (fun ht18=>?_) (fun ht18=>?_)
 try simp only[yd,yf]at ht18
 refine vQ ?_;refine Jq (Zg (cs:=[_,_,_]) Z1e .nil rfl rfl) (JO.m (Z4 rfl rfl qU qC qO ZI) (by rfl) ?_);refine Ja rfl (vS [2,3] ?_);refine vR ?_;exact JX.retMC1is rfl HasOwn.mem rfl ZM HasOwn.mem rfl rfl (by have hc:(Lib.contains kwB.data.toList ((sp1++⟨(Lib.toUpperA (s.extract n (n+runN wordB (dr s n))).data.toList).toArray⟩)++sp1).data.toList)=Lib.contains kwB.data.toList (padL (Lib.toUpperA ((dr s n).take (runN wordB (dr s n))))):=(by rw[Z7h,Z1O,Z1t]);rw[hc]at ht13;have hl:((s.extract n (n+runN wordB (dr s n))).size:Int)=(((dr s n).take (runN wordB (dr s n))).length:Int):=(by rw[<-Z18,Z1t]);rw[hl]at ht18;unfold wordL;rw[if_neg (by rw[ht13];simp),if_pos (decide_eq_true ht18)];rfl) (by have hc:(Lib.contains kwB.data.toList ((sp1++⟨(Lib.toUpperA (s.extract n (n+runN wordB (dr s n))).data.toList).toArray⟩)++sp1).data.toList)=Lib.contains kwB.data.toList (padL (Lib.toUpperA ((dr s n).take (runN wordB (dr s n))))):=(by rw[Z7h,Z1O,Z1t]);rw[hc]at ht13;have hl:((s.extract n (n+runN wordB (dr s n))).size:Int)=(((dr s n).take (runN wordB (dr s n))).length:Int):=(by rw[<-Z18,Z1t]);rw[hl]at ht18;unfold wordL;rw[if_neg (by rw[ht13];simp),if_pos (decide_eq_true ht18)]) (by rfl)
 try simp only[yd,yf]at ht18
 apply yK;refine vN ?_;apply yN;refine Jm rfl (Jq (Zo rfl (ZaY (s.extract n (n+runN wordB (dr s n))) (by have h1:=Z4N s n (runN wordB (dr s n));omega) (Zdm s n)) qA) ?_);refine Jq (Zg (cs:=[_,_,_]) Z1e (.cons rfl (.cons rfl .nil)) rfl rfl) (JO.m (Z4 rfl rfl qU qC qO ZI) (by rfl) ?_);refine Ja rfl (vS [2,3] ?_);refine vR ?_;exact JX.retMC1is rfl HasOwn.mem rfl ZM HasOwn.mem rfl rfl (by have hc:(Lib.contains kwB.data.toList ((sp1++⟨(Lib.toUpperA (s.extract n (n+runN wordB (dr s n))).data.toList).toArray⟩)++sp1).data.toList)=Lib.contains kwB.data.toList (padL (Lib.toUpperA ((dr s n).take (runN wordB (dr s n))))):=(by rw[Z7h,Z1O,Z1t]);rw[hc]at ht13;have hl:((s.extract n (n+runN wordB (dr s n))).size:Int)=(((dr s n).take (runN wordB (dr s n))).length:Int):=(by rw[<-Z18,Z1t]);rw[hl]at ht18;unfold wordL;rw[if_neg (by rw[ht13];simp),if_neg (by rw[decide_eq_false ht18];simp),Z1t]) (by have hc:(Lib.contains kwB.data.toList ((sp1++⟨(Lib.toUpperA (s.extract n (n+runN wordB (dr s n))).data.toList).toArray⟩)++sp1).data.toList)=Lib.contains kwB.data.toList (padL (Lib.toUpperA ((dr s n).take (runN wordB (dr s n))))):=(by rw[Z7h,Z1O,Z1t]);rw[hc]at ht13;have hl:((s.extract n (n+runN wordB (dr s n))).size:Int)=(((dr s n).take (runN wordB (dr s n))).length:Int):=(by rw[<-Z18,Z1t]);rw[hl]at ht18;unfold wordL;rw[if_neg (by rw[ht13];simp),if_neg (by rw[decide_eq_false ht18];simp)]) (by rfl)
theorem Z8h(s:ByteArray)(n:Nat)(hn:n<s.size)(hs:s.size<=2048):CallM Tryz.prog Z5g Z1A (sv s n) [GF] [] (sv s (n+runN digB (dr s n))) (.tup2 (.is (tv (numL (dr s n)).1)) (.is (.int .i64 (numL (dr s n)).2))):=
CallM.of (fn:=Tryz.f101) Tryz.func101 (n:=58) rfl rfl rfl (fun _ _=>by kernel_rfl) fun E W b0=>by
 refine vQ ?_;refine JO.alloc Z1C rfl fun b2=>(Ja rfl (vP [0,2] ?_));refine Ja rfl (Ja rfl (vS [0,2,4,5] ?_));have hbl:((dr s n).take (runN digB (dr s n))).length<=2048:=by rw[List.length_take,Z5i];omega
 refine vQ ?_;refine Jm rfl (JO.md (Z9f rfl rfl (Z5U digB _ Zj9 s n qM qM) qU (by simp) (.sub rfl (Sub.funT (fun _=>trivial)) .nil)) (by rfl) rfl ?_);refine Jq (ZiU Zd Z2a Z3m rfl) ?_;refine JO.openSl (s:=11) rfl (fun a len cap bb bo hlen ha=>?_);have hlen2:((dr s n).take (runN digB (dr s n))).length=len:=(by rw[<-hlen,Z1t]);subst hlen2;refine Jq (ZE Z2a rfl) (Jm rfl (vS [0,2,4,5,11,12,13] ?_));apply yk
 repeat apply yQ
 refine J.loopG (α:=Nat×Int×Int) (fun z=>[(0,.is (.pointer (some ⟨b0,0,none⟩))),(2,.is (.pointer (some ⟨b2,0,none⟩))),(4,.is (.int .i64 z.2.1)),(5,.is (.int .i64 z.2.2)),(11,.is (.slice a ((dr s n).take (runN digB (dr s n))).length cap)),(12,.is (.int .i64 (((dr s n).take (runN digB (dr s n))).length:Nat))),(13,.is (.int .i64 (z.1:Nat)))]) (fun z=>[⟨b2,Z1u,.is (tv t3D)⟩,⟨b0,Z1A,.is (sv s (n+runN digB (dr s n)))⟩]) (fun z=>fun _=>True) (fun z=>z.1<=((dr s n).take (runN digB (dr s n))).length/\(((dr s n).take (runN digB (dr s n))).take z.1).foldl numStep (0,0)=z.2) (fun z=>((dr s n).take (runN digB (dr s n))).length-z.1) (0,0,0) [0,2,4,5,11,12,13] (.cons rfl (.cons rfl (.cons rfl (.cons rfl (.cons rfl (.cons rfl (.cons rfl .nil))))))) rfl (fun _=>trivial) ⟨by omega,rfl⟩ fun⟨k,m,e⟩ ⟨hk,hf⟩=>?_;try dsimp only
 try dsimp only at hk
 try dsimp only at hf
 refine vQ ?_;refine Jq (ZC rfl rfl) (vS [0,2,4,5,11,12,13,14] ?_);refine yC rfl (fun ht14=>?_) (fun ht14=>?_)
 try simp only[yd,yf]at ht14
 apply yK;refine vN ?_;apply yk;refine vQ ?_;refine Jq (Z9 ZfH rfl (ha qM) rfl qM qM) ?_;refine Jq (ZK (enc:=bC) (sz:=1) (xs:=(s.extract n (n+runN digB (dr s n))).data.toList) (len:=((dr s n).take (runN digB (dr s n))).length) (i:=k) (j:=0) (y:=((dr s n).take (runN digB (dr s n))).getD k 0) ZiW rfl qI (ha qM) (by rw[Z1t];exact Zm1 qM) (by simp) rfl) ?_;refine Ja rfl (vP [0,2,4,5,7,11,12,13] ?_);refine Jm rfl (Jq (Zai rfl rfl) (Jq (Z6D ⟨_,Z3m⟩ Zbx rfl) (Ja rfl (vP [0,2,4,5,8,11,12,13] ?_))));refine Jm rfl (Jm rfl (Jq (Zai rfl rfl) (Jq (ZiA rfl rfl qD) ?_)));refine Jq (Z13 rfl rfl) (vS [0,2,4,5,8,11,12,13,24] ?_);refine yC rfl (fun ht24=>?_) (fun ht24=>?_)
 try simp only[yd,yf]at ht24
 refine vQ ?_;refine Ja rfl (vP [0,2,4,5,8,11,12,13] ?_);refine Jm rfl (Jq (Zer rfl rfl) (Jm rfl (Jq (Z6F rfl rfl) (Ja rfl (vP [0,2,4,5,11,12,13] ?_)))));refine Jq (Zv (cc:=((k+1:Nat):Int)) rfl rfl qM qM qM) ?_;refine Jm rfl ?_;apply yI
 repeat refine JX.normal_block ?_
 refine JX.roundG (x:=⟨k,m,e⟩) (k+1,(numStep (m,e) (((dr s n).take (runN digB (dr s n))).getD k 0)).1,35) ?_ ?_ [0,2,4,5,11,12,13] ?_ ?_ ?_ ?_
 · exact⟨by omega,by rw[Zd2 numStep qM,hf];simp only[numStep];rw[if_pos (decide_eq_true ht24)]⟩
 · exact(by simp only;omega)
 · exact qS
 · exact qH
 · exact qG
 · exact fun _ _ _=>fun _ _=>trivial
 try simp only[yd,yf]at ht24
 apply yK;refine vN ?_;apply yN;refine Jm rfl (Jq (Zer rfl rfl) (Jm rfl (Jq (Z6F rfl rfl) (Ja rfl (vP [0,2,4,5,11,12,13] ?_)))));refine Jq (Zv (cc:=((k+1:Nat):Int)) rfl rfl qM qM qM) ?_;refine Jm rfl ?_;apply yI
 repeat refine JX.normal_block ?_
 refine JX.roundG (x:=⟨k,m,e⟩) (k+1,(numStep (m,e) (((dr s n).take (runN digB (dr s n))).getD k 0)).1,e) ?_ ?_ [0,2,4,5,11,12,13] ?_ ?_ ?_ ?_
 · exact⟨by omega,by rw[Zd2 numStep qM,hf];simp only[numStep];rw[if_neg (by rw[decide_eq_false ht24];simp)]⟩
 · exact(by simp only;omega)
 · exact qS
 · exact qH
 · exact qG
 · exact fun _ _ _=>fun _ _=>trivial
 try simp only[yd,yf]at ht14
 repeat apply yQ
 refine J.exit ?_
 repeat first|refine yH ?_|refine yM rfl ?_|refine yE ?_
 repeat first|apply yX|apply yB
 have hfe:((dr s n).take (runN digB (dr s n))).foldl numStep (0,0)=(m,e):=(by have h1:((dr s n).take (runN digB (dr s n))).take k=((dr s n).take (runN digB (dr s n))):=List.take_of_length_le qM;rw[h1]at hf;exact hf);have hh:headP letB ((dr s n).drop (runN digB (dr s n)))=(decide (((n+runN digB (dr s n):Nat):Int)<s.size)&&letterF (sb s (n+runN digB (dr s n)))):=by rw[Z51];exact Zgp letB s _
 repeat apply yQ
 refine J.reg0 hmx qK qK ?_;refine yz (Z2 rfl) (yz (Z5 rfl) (yz (Z0 Zt rfl) (yz (Z1 Zq rfl rfl) (yz (Z2 rfl) (yz (Z5 rfl) (yz (Z0 Z11 rfl) (yz (Z1 Za rfl rfl) (yz (Z1T Zd rfl) (yz (ZC rfl rfl) (yz (Z2 rfl) (yg rfl rfl rfl (fun hg=>Z2 (.inl rfl)) ?_)))))))))));refine yg rfl rfl rfl (fun hg=>Z5 (qR rfl)) ?_;refine yg rfl rfl rfl (fun hg=>Z0 Z11 (qR rfl)) ?_;refine yg rfl rfl rfl (fun hg=>Z1 Za (qR rfl) rfl) ?_;refine yg rfl rfl rfl (fun hg=>Z2 (.inl rfl)) (yg rfl rfl rfl (fun hg=>Z5 (qR rfl)) ?_);refine yg rfl rfl rfl (fun hg=>Z0 Zt (qR rfl)) ?_;refine yg rfl rfl rfl (fun hg=>Z1 Zq (qR rfl) rfl) ?_;refine yg rfl rfl rfl (fun hg=>Z1F Zd (qR rfl) (qR rfl) (by have h:=hg;simp only[decide_eq_true_eq]at h;omega) (by have h:=hg;simp only[decide_eq_true_eq]at h;omega)) ?_;refine yg rfl rfl rfl (fun hg=>Zo (.inl rfl) (Z7v (sb s (n+runN digB (dr s n)))) (.one (qR rfl) .nil)) ?_;refine yz (Zn rfl rfl rfl id) ?_;apply yn;refine FinS.nil0 ?_;refine vS [2,4,5,51] ?_;refine yC rfl (fun ht51=>?_) (fun ht51=>?_);refine vQ ?_;refine Ja rfl (vP [2,4,5] ?_);refine Jm rfl (Jq (Z3e rfl rfl) (vS [2,4,5,53] ?_));refine yC rfl (fun ht53=>?_) (fun ht53=>?_);refine vQ ?_;refine Jq (Zg (cs:=[_,_,_]) Z1e .nil rfl rfl) (Jm rfl (JO.m (Z4 rfl rfl qU qC qO ZI) (by rfl) ?_));refine Ja rfl (vS [2,3] ?_);refine vR ?_;exact JX.retMC1is rfl HasOwn.mem rfl ZM HasOwn.mem rfl rfl (by have hE:numE (dr s n)=30:=(by unfold numE;rw[hh];rw[if_pos ht51]);unfold numL;rw[hE,if_pos ht53];rfl) (by have hE:numE (dr s n)=30:=(by unfold numE;rw[hh];rw[if_pos ht51]);unfold numL;rw[hE,if_pos ht53]) (by rfl);apply yK;refine vN ?_;apply yN;refine Jm rfl (Jq (Zg (cs:=[_,_,_]) Z1e (.cons rfl (.cons rfl .nil)) rfl rfl) (JO.m (Z4 rfl rfl qU qC qO ZI) (by rfl) ?_));refine Ja rfl (vS [2,3] ?_);refine vR ?_;exact JX.retMC1is rfl HasOwn.mem rfl ZM HasOwn.mem rfl rfl (by have hE:numE (dr s n)=30:=(by unfold numE;rw[hh];rw[if_pos ht51]);unfold numL;rw[hE,if_neg (by rw[ht53];simp),hfe]) (by have hE:numE (dr s n)=30:=(by unfold numE;rw[hh];rw[if_pos ht51]);unfold numL;rw[hE,if_neg (by rw[ht53];simp)]) (by rfl);apply yK;refine vN ?_;apply yN;refine Jm rfl (Jq (Z3e rfl rfl) (vS [2,4,5,53] ?_));refine yC rfl (fun ht53=>?_) (fun ht53=>?_);refine vQ ?_;refine Jq (Zg (cs:=[_,_,_]) Z1e .nil rfl rfl) (Jm rfl (JO.m (Z4 rfl rfl qU qC qO ZI) (by rfl) ?_));refine Ja rfl (vS [2,3] ?_);refine vR ?_;exact JX.retMC1is rfl HasOwn.mem rfl ZM HasOwn.mem rfl rfl (by have hE:numE (dr s n)=e:=(by unfold numE;rw[hh];rw[if_neg (by rw[ht51];simp),hfe]);unfold numL;rw[hE,if_pos ht53];rfl) (by have hE:numE (dr s n)=e:=(by unfold numE;rw[hh];rw[if_neg (by rw[ht51];simp),hfe]);unfold numL;rw[hE,if_pos ht53]) (by rfl);apply yK;refine vN ?_;apply yN;refine Jm rfl (Jq (Zg (cs:=[_,_,_]) Z1e (.cons rfl (.cons rfl .nil)) rfl rfl) (JO.m (Z4 rfl rfl qU qC qO ZI) (by rfl) ?_));refine Ja rfl (vS [2,3] ?_);refine vR ?_;exact JX.retMC1is rfl HasOwn.mem rfl ZM HasOwn.mem rfl rfl (by have hE:numE (dr s n)=e:=(by unfold numE;rw[hh];rw[if_neg (by rw[ht51];simp),hfe]);unfold numL;rw[hE,if_neg (by rw[ht53];simp),hfe]) (by have hE:numE (dr s n)=e:=(by unfold numE;rw[hh];rw[if_neg (by rw[ht51];simp),hfe]);unfold numL;rw[hE,if_neg (by rw[ht53];simp)]) (by rfl)
theorem Z9l(s:ByteArray)(n:Nat)(hn:n<s.size)(hs:s.size<=2048):CallM Tryz.prog Z5I Z1A (sv s n) [GF] [] (sv s (n+(signL (dr s n)).2)) (.tup2 (.is (tv (signL (dr s n)).1.1)) (.is (.int .i64 (signL (dr s n)).1.2))):=
CallM.of (fn:=Tryz.f103) Tryz.func103 (n:=66) rfl rfl rfl (fun _ _=>by kernel_rfl) fun E W b0=>by
 refine vQ ?_;refine JO.alloc Z1C rfl fun b2=>(Ja rfl (vP [0,2] ?_));refine Ja rfl (vS [0,2,4] ?_);apply yk
 repeat apply yQ
 refine J.loopG (α:=Nat) (fun q=>[(0,.is (.pointer (some ⟨b0,0,none⟩))),(2,.is (.pointer (some ⟨b2,0,none⟩))),(4,.is (.int .i64 (q:Nat)))]) (fun q=>[⟨b2,Z1u,.is (tv t3D)⟩,⟨b0,Z1A,.is (sv s n)⟩]) (fun q=>fun _=>True) (fun q=>q<=2/\(q<2->tryL (dr s n) 2=false)/\(q<1->tryL (dr s n) 1=false)) (fun q=>q) 2 [0,2,4] (.cons rfl (.cons rfl (.cons rfl .nil))) rfl (fun _=>trivial) ⟨by omega,fun h=>absurd h qM,fun h=>absurd h qM⟩ fun q ⟨hq,h2,h1⟩=>?_;refine vQ ?_;refine Jm rfl (Jq (Z13 rfl rfl) (vS [0,2,4,6] ?_));refine yC rfl (fun ht6=>?_) (fun ht6=>?_)
 try simp only[yd,yf]at ht6
 apply yK;refine vN ?_;apply yk
 repeat apply yQ
 refine J.reg0 hmx qK qK ?_;refine yz (Z2 rfl) (yz (Z5 rfl) (yz (Z0 Zt rfl) (yz (Z1 Zq rfl rfl) (yz (Z2 rfl) (yz (Zv (cc:=((n+q:Nat):Int)) rfl rfl qM qM qM) ?_)))));refine yz (Z2 rfl) (yz (Z5 rfl) (yz (Z0 Z11 rfl) (yz (Z1 Za rfl rfl) (yz (Z1T Zd rfl) (yz (Z3U rfl rfl) (yz (Z2 rfl) (yg rfl rfl rfl (fun hg=>Z2 (.inl rfl)) (yg rfl rfl rfl (fun hg=>Z5 (qR rfl)) ?_))))))));refine yg rfl rfl rfl (fun hg=>Z0 Z11 (qR rfl)) ?_;refine yg rfl rfl rfl (fun hg=>Z1 Za (qR rfl) rfl) ?_;refine yg rfl rfl rfl (fun hg=>Z2 (.inl rfl)) (yg rfl rfl rfl (fun hg=>Z5 (qR rfl)) ?_);refine yg rfl rfl rfl (fun hg=>Z0 Zt (qR rfl)) ?_;refine yg rfl rfl rfl (fun hg=>Z1 Zq (qR rfl) rfl) ?_;refine yg rfl rfl rfl (fun hg=>Z2 (.inl rfl)) (yg rfl rfl rfl (fun hg=>Z5 (qR rfl)) ?_);refine yg rfl rfl rfl (fun hg=>Z0 Zt (qR rfl)) ?_;refine yg rfl rfl rfl (fun hg=>Z1 Zq (qR rfl) rfl) ?_;refine yg rfl rfl rfl (fun hg=>Z2 (.inl rfl)) (yg rfl rfl rfl (fun hg=>Zv (cc:=((n+q:Nat):Int)) (qR rfl) (qR rfl) qM qM qM) ?_);refine yg rfl rfl rfl (fun hg=>Z4R Zd (qR rfl) (qR rfl) (qR rfl) qM qM (by have h:=hg;simp only[decide_eq_true_eq]at h;omega)) ?_;refine yg rfl rfl rfl (fun hg=>Z67 (.inl rfl) (qR rfl) (ZfU (by have h1:=Z4N s n q;show(s.extract n (n+q)).size<=2048;omega))) ?_;refine yg rfl rfl rfl (fun hg=>Z67 (qR rfl) (.inl rfl) (Zg3 (by have h1:=Z4N s n q;show(s.extract n (n+q)).size<=2048;omega))) ?_;refine yg rfl rfl rfl (fun hg=>ZN (.inl rfl) (Z6x sgB ((sp1++s.extract n (n+q))++sp1) qD) (by simp) (.one (.inl rfl) (.one (qR rfl) .nil))) ?_;refine yz (Zn rfl rfl rfl id) ?_;apply yn;refine FinS.nil0 ?_;refine vS [0,2,4,40] ?_;refine yC rfl (fun ht40=>?_) (fun ht40=>?_);have ht1:tryL (dr s n) q=true:=(Ziq hn q).trans ht40;have hsg:signL (dr s n)=((⟨5,bl ((dr s n).take q),0⟩,0),q):=by
   unfold signL;rcases(show q=1\/q=2 by omega)with rfl|rfl
   · rw[if_neg (by rw[h2 qM];simp),if_pos ht1]
   · rw[if_pos ht1]
 have hfit:n+q<=s.size:=by have h:=ht40;simp only[Bool.and_eq_true,decide_eq_true_eq]at h;omega
 refine vQ ?_;refine Jm rfl (Jq (Z5 rfl) (Jq (Z0 Zt rfl) (Jq (Z1 Zq rfl rfl) (Jm rfl (Jq (Zv (cc:=((n+q:Nat):Int)) rfl rfl qM qM qM) ?_)))));refine Jq (Z5 rfl) (Jq (Z0 Zt rfl) (JO.m (Zj (cs':=[_,_]) rfl rfl qU rfl rfl rfl rfl Z2x) (by rfl) ?_));refine vS [0,2,4] ?_;refine J.front b2 (by repeat(first|exact .here|apply Front.there)) ?_;refine J.reg1 hmx qK qK ?_;refine yz (Z2 rfl) (yz (Z5 rfl) (yz (Z0 Z11 rfl) (yz (Z1 Za rfl rfl) (yz (Z2 rfl) (yz (Z5 rfl) (yz (Z0 Zt rfl) (yz (Z1 Zq rfl rfl) (yz (Z2 rfl) (yz (ZgB (cc:=(n:Int)) rfl rfl qM qM qM) ?_)))))))));refine yz (Z2 rfl) (yz (Z5 rfl) (yz (Z0 Zt rfl) (yz (Z1 Zq rfl rfl) (yz (Z4R Zd rfl rfl rfl qM qM qM) ?_))));refine yz (Zg (cs:=[_,_,_]) Z1e (.cons rfl (.cons rfl .nil)) rfl rfl) ?_;refine RT.m rfl (Z4 rfl rfl qU qC qO ZI) (by rfl) ?_;refine yz (Z15 rfl) ?_;apply yn;refine FinS.nil1 ?_;refine vS [2,3] ?_;refine vR ?_;exact JX.retMC1is rfl HasOwn.mem rfl ZM HasOwn.mem rfl rfl (by rw[hsg];show Value.agg #[.int .i64 5,.string (s.extract n (n+q)),.int .i64 0]=_;rw[ZeD]) (by rw[hsg]) (by rw[hsg]);apply yK
 repeat first|apply yX|apply yB
 have ht2:tryL (dr s n) q=false:=(Ziq hn q).trans ht40;refine vQ ?_;refine Jm rfl (Jq (ZgB (cc:=((q-1:Nat):Int)) rfl rfl qM qM qM) ?_);refine Ja rfl ?_;apply yI
 repeat refine JX.normal_block ?_
 refine JX.roundG (x:=q) (q-1) ?_ ?_ [0,2,4] ?_ ?_ ?_ ?_
 · exact⟨by omega,fun h=>(by rcases(show q=1\/q=2 by omega)with rfl|rfl;exact h2 qM;exact ht2),fun h=>(by have:q=1:=qM;subst this;exact ht2)⟩
 · exact qM
 · exact qS
 · exact qH
 · exact qG
 · exact fun _ _ _=>fun _ _=>trivial
 try simp only[yd,yf]at ht6
 repeat apply yQ
 refine J.exit ?_
 repeat first|refine yH ?_|refine yM rfl ?_|refine yE ?_
 repeat first|apply yX|apply yB
 have hsg:signL (dr s n)=((t3D,30),0):=by unfold signL;rw[if_neg (by rw[h2 qM];simp),if_neg (by rw[h1 qM];simp)]
 refine vQ ?_;refine Jq (Zg (cs:=[_,_,_]) Z1e .nil rfl rfl) (JO.m (Z4 rfl rfl qU qC qO ZI) (by rfl) ?_);refine Ja rfl (vS [2,3] ?_);refine vR ?_;exact JX.retMC1is rfl HasOwn.mem rfl ZM HasOwn.mem rfl rfl (by rw[hsg];rfl) (by rw[hsg]) (by rw[hsg];rfl)
end Go.Proofs.YtbedigkncjbggaaGreatDoor
set_option maxRecDepth 20000
namespace Go.Proofs.YtbedigkncjbggaaGreatDoor
open Go Go.Vc
theorem q39(b:UInt8):((b.toNat:Int)==39)=(b==39):=by
 have h1:(39:UInt8).toNat=39:=rfl;refine Bool.eq_iff_iff.2 ⟨fun h=>?_,fun h=>?_⟩
 · have h:(b.toNat:Int)=39:=by simpa using h
   have:b=39:=UInt8.toNat_inj.1 (by rw[h1];omega)
   simp[this]
 · have h:b=39:=by simpa using h
   subst h
   rfl
theorem ZiM{s:ByteArray}{i:Nat}(h:s.size<=i)(acc:List UInt8):textL (dr s i) acc=((t3D,30),0):=by rw[Z5h h];rfl
theorem ZbV(b:UInt8)(l acc:List UInt8)(hb:(b==39)=false):textL (b::l) acc=((textL l (acc++[b])).1,(textL l (acc++[b])).2+1):=by
 cases l with
 |nil=>simp[textL,hb]
 |cons c l=>rw[textL,if_neg (by rw[hb];simp)]
theorem ZjW{s:ByteArray}{i:Nat}(h:i<s.size)(acc:List UInt8)(hb:(by_ s i==39)=false):textL (dr s i) acc=((textL (dr s (i+1)) (acc++[by_ s i])).1,(textL (dr s (i+1)) (acc++[by_ s i])).2+1):=by
 rw[Z1D h,ZbV _ _ _ hb]
theorem Zjq{s:ByteArray}{i:Nat}(h:i+1<s.size)(acc:List UInt8)(hb:(by_ s i==39)=true)(hc:(by_ s (i+1)==39)=true):
  textL (dr s i) acc=((textL (dr s (i+1+1)) (acc++[by_ s (i+1)])).1,(textL (dr s (i+1+1)) (acc++[by_ s (i+1)])).2+2):=by
 rw[Z1D (by omega:i<s.size),Z1D h,textL,if_pos hb,if_neg (by simp[bne,hc])]
theorem Zj2{s:ByteArray}{i:Nat}(h:i<s.size)(acc:List UInt8)(hb:(by_ s i==39)=true)(hc:(((i+1:Nat):Int)==(s.size:Int)|| !(by_ s (i+1)==39))=true):textL (dr s i) acc=(endT acc,1):=by
 by_cases h1:i+1<s.size
 · have hc:(by_ s (i+1)==39)=false:=by
     rw[beq_eq_false_iff_ne.2 qM,Bool.false_or]at hc
     simpa using hc
   rw[Z1D h,Z1D h1,textL,if_pos hb,if_pos (by simp[bne,hc])]
 · rw[Z1D h,Z5h qM,textL,if_pos hb]
theorem Z9p(s:ByteArray)(n:Nat)(hn:n<s.size)(hs:s.size<=2048):CallM Tryz.prog Z5R Z1A (sv s n) [GF] [] (sv s (n+1+(textL (dr s (n+1)) []).2)) (.tup2 (.is (tv (textL (dr s (n+1)) []).1.1)) (.is (.int .i64 (textL (dr s (n+1)) []).1.2))):=
CallM.of (fn:=Tryz.f102) Tryz.func102 (n:=88) rfl rfl rfl (fun _ _=>by kernel_rfl) fun E W b0=>by
 refine vQ ?_;refine JO.alloc Z1C rfl fun b2=>(Ja rfl (vP [0,2] ?_));refine Ja rfl (vP [0,2,4] ?_);refine Jm rfl (Jq (Z5 rfl) (Jq (Z0 Zt rfl) (Jq (Z1 Zq rfl rfl) (Jq (Zv (cc:=((n+1:Nat):Int)) rfl rfl qM qM qM) ?_))));refine Jq (Z5 rfl) (Jq (Z0 Zt rfl) (JO.m (Zj (cs':=[_,_]) rfl rfl qU rfl rfl rfl rfl Z2x) (by rfl) ?_));refine vS [0,2,4] ?_;apply yk
 repeat apply yQ
 refine J.loopG (α:=Nat×List UInt8×Option (Nat×List Value)×Nat) (fun z=>[(0,.is (.pointer (some ⟨b0,0,none⟩))),(2,.is (.pointer (some ⟨b2,0,none⟩))),(4,.is (sliceO z.2.2.1 z.2.1.length z.2.2.2))]) (fun z=>⟨b2,Z1u,.is (tv t3D)⟩::⟨b0,Z1A,.is (sv s z.1)⟩::ownO z.2.2.1 Z66 []) (fun z=>fun _=>True) (fun z=>z.1<=s.size/\((textL (dr s z.1) z.2.1).1=(textL (dr s (n+1)) []).1/\z.1+(textL (dr s z.1) z.2.1).2=n+1+(textL (dr s (n+1)) []).2)/\Grows bC 1 z.2.1 z.2.2.1 z.2.2.2/\z.2.1.length<=z.1) (fun z=>s.size-z.1) (n+1,[],none,0) [0,2,4] (.cons rfl (.cons rfl (.cons rfl .nil))) rfl (fun _=>trivial) ⟨by omega,⟨rfl,rfl⟩,rfl,by simp⟩ fun⟨i,acc,st,cp⟩ ⟨hi,⟨hr1,hr2⟩,hG,hal⟩=>?_;try dsimp only
 try dsimp only at hi
 try dsimp only at hr1
 try dsimp only at hr2
 try dsimp only at hG
 try dsimp only at hal
 repeat apply yQ
 refine J.reg0 hmx qK qK ?_;refine yz (Z2 rfl) (yz (Z5 rfl) (yz (Z0 Zt rfl) (yz (Z1 Zq rfl rfl) (yz (Z2 rfl) (yz (Z5 rfl) (yz (Z0 Z11 rfl) (yz (Z1 Za rfl rfl) (yz (Z1T Zd rfl) (yz (ZC rfl rfl) ?_)))))))));apply yn;refine FinS.nil0 ?_;refine vS [0,2,4,21] ?_;refine yC rfl (fun ht21=>?_) (fun ht21=>?_)
 try simp only[yd,yf]at ht21
 apply yK;refine vN ?_;apply yk
 repeat apply yQ
 refine J.reg0 hmx qK qK ?_;refine yz (Z2 rfl) (yz (Z5 rfl) (yz (Z0 Z11 rfl) (yz (Z1 Za rfl rfl) (yz (Z2 rfl) (yz (Z5 rfl) (yz (Z0 Zt rfl) (yz (Z1 Zq rfl rfl) (yz (Z1F Zd rfl rfl qM qM) ?_))))))));refine yz (Zu rfl rfl) ?_;apply yn;refine FinS.nil0 ?_;refine vS [0,2,4,38] ?_;refine yC rfl (fun ht38=>?_) (fun ht38=>?_);have hb39:(by_ s i==39)=true:=(by rw[<-q39];first|exact ht38|simpa using ht38);refine vQ ?_;refine Jm rfl (Jq (Z5 rfl) (Jq (Z0 Zt rfl) (Jq (Z1 Zq rfl rfl) (Jq (Zv (cc:=((i+1:Nat):Int)) rfl rfl qM qM qM) ?_))));refine Jq (Z5 rfl) (Jq (Z0 Zt rfl) (JO.m (Zj (cs':=[_,_]) rfl rfl qU rfl rfl rfl rfl Z2x) (by rfl) ?_));refine vS [0,2,4] ?_;refine J.reg0 hmx qK qK ?_;refine yz (Z2 rfl) (yz (Z5 rfl) (yz (Z0 Zt rfl) (yz (Z1 Zq rfl rfl) (yz (Z2 rfl) (yz (Z5 rfl) (yz (Z0 Z11 rfl) (yz (Z1 Za rfl rfl) (yz (Z1T Zd rfl) (yz (Zu rfl rfl) (yz (Z2 rfl) (yg rfl rfl rfl (fun hg=>Z2 (.inl rfl)) ?_)))))))))));refine yg rfl rfl rfl (fun hg=>Z5 (qR rfl)) ?_;refine yg rfl rfl rfl (fun hg=>Z0 Z11 (qR rfl)) ?_;refine yg rfl rfl rfl (fun hg=>Z1 Za (qR rfl) rfl) ?_;refine yg rfl rfl rfl (fun hg=>Z2 (.inl rfl)) (yg rfl rfl rfl (fun hg=>Z5 (qR rfl)) ?_);refine yg rfl rfl rfl (fun hg=>Z0 Zt (qR rfl)) ?_;refine yg rfl rfl rfl (fun hg=>Z1 Zq (qR rfl) rfl) ?_;refine yg rfl rfl rfl (fun hg=>Z1F Zd (qR rfl) (qR rfl) (by simp at hg;omega) (by simp at hg;omega)) ?_;refine yg rfl rfl rfl (fun hg=>Z3e (qR rfl) (.inl rfl)) ?_;refine yz (ZF rfl rfl rfl id) ?_;apply yn;refine FinS.nil0 ?_;refine vS [0,2,4,67] ?_;refine yC rfl (fun ht67=>?_) (fun ht67=>?_);have htx:=Zj2 qM acc hb39 (show(((i+1:Nat):Int)==(s.size:Int)|| !(by_ s (i+1)==39))=true by rw[<-q39];exact ht67);rw[htx]at hr1 hr2;refine J.freezeOM Z4J hG (e:=Z66) yV (fun q h=>⟨_,List.mem_cons_of_mem _ List.mem_cons_self,h.symm⟩) rfl rfl ?_;obtain⟨cap2,hso⟩:=Z88 hG;rw[hso];refine vQ ?_;refine Jm rfl (Jq (ZE Z2a rfl) (Jq (Z13 rfl rfl) (vS [2,4,70] ?_)));refine yC rfl (fun ht70=>?_) (fun ht70=>?_)
 try simp only[yd,yf]at ht70
 refine vQ ?_;refine Jq (Zg (cs:=[_,_,_]) Z1e .nil rfl rfl) (JO.m (Z4 rfl rfl qU qC qO ZI) (by rfl) ?_);refine Ja rfl (vS [2,3] ?_);refine vR ?_;exact JX.retMC1is rfl HasOwn.mem rfl ZM HasOwn.mem rfl rfl (by rw[<-hr1];unfold endT;rw[if_pos (decide_eq_true ht70)];rfl) (by rw[<-hr1];unfold endT;rw[if_pos (decide_eq_true ht70)]) (by rw[<-hr2])
 try simp only[yd,yf]at ht70
 apply yK;refine vN ?_;apply yN;refine Jm rfl (Jq (Zak Z2a Z3m Zd rfl qI) ?_);refine Jq (Zg (cs:=[_,_,_]) Z1e (.cons rfl (.cons rfl .nil)) rfl rfl) (JO.m (Z4 rfl rfl qU qC qO ZI) (by rfl) ?_);refine Ja rfl (vS [2,3] ?_);refine vR ?_;exact JX.retMC1is rfl HasOwn.mem rfl ZM HasOwn.mem rfl rfl (by rw[<-hr1];unfold endT;rw[if_neg (by rw[decide_eq_false ht70];simp)]) (by rw[<-hr1];unfold endT;rw[if_neg (by rw[decide_eq_false ht70];simp)]) (by rw[<-hr2]);apply yK
 repeat first|apply yX|apply yB
 have hlt2:i+1<s.size:=(by have h:=ht67;simp only[Bool.or_eq_false_iff,beq_eq_false_iff_ne]at h;omega);have hc39:(by_ s (i+1)==39)=true:=(by have h:=(Bool.or_eq_false_iff.1 ht67).2;rw[<-q39];exact(show(sb s (i+1)==39)=true by simpa using h))
 repeat apply yQ
 refine J.regS 11 hmx qK qK ?_;refine yz (Z2 rfl) (yz (Z2 rfl) (yz (Z5 rfl) (yz (Z0 Z11 rfl) (yz (Z1 Za rfl rfl) (yz (Z2 rfl) (yz (Z5 rfl) (yz (Z0 Zt rfl) (yz (Z1 Zq rfl rfl) (yz (Z1F Zd rfl rfl qM qM) ?_)))))))));refine yz (Zx (cs:=[_]) Z3w qM qM (.cons rfl .nil) rfl rfl rfl) ?_;apply yn;refine FinS.tail0 ?_;refine JO.apP [by_ s (i+1)] Z4v Z4J (by repeat(first|exact .here|apply Cx.past|apply Cx.there)) hG rfl rfl (fun L=>Z1M Z2a rfl rfl) (by simp) (by simp;omega) (by simp;omega) rfl (fun st1 cp1 hG1=>?_);refine Ja rfl (vP [0,2,4] ?_);refine Jm rfl (Jq (Z5 rfl) (Jq (Z0 Zt rfl) (Jq (Z1 Zq rfl rfl) (Jq (Zv (cc:=((i+1+1:Nat):Int)) rfl rfl qM qM qM) ?_))));refine Jq (Z5 rfl) (Jq (Z0 Zt rfl) (JO.m (Zj (cs':=[_,_]) rfl rfl qU rfl rfl rfl rfl Z2x) (by rfl) ?_));apply yI
 repeat refine JX.normal_block ?_
 refine JX.roundG (x:=⟨i,acc,st,cp⟩) (i+1+1,acc++[by_ s (i+1)],st1,cp1) ?_ ?_ [0,2,4] ?_ ?_ ?_ ?_
 · exact⟨by omega,by have h:=Zjq hlt2 acc hb39 hc39;rw[h]at hr1 hr2;exact⟨hr1,(by dsimp only;omega)⟩,hG1,by simp;omega⟩
 · exact(by simp only;omega)
 · exact qS
 · exact qH
 · exact qG
 · exact fun _ _ _=>fun _ _=>trivial
 apply yK
 repeat first|apply yX|apply yB
 have hb39:(by_ s i==39)=false:=(by rw[<-q39];first|exact ht38|simpa using ht38)
 repeat apply yQ
 refine J.regS 11 hmx qK qK ?_;refine yz (Z2 rfl) (yz (Z2 rfl) (yz (Z5 rfl) (yz (Z0 Z11 rfl) (yz (Z1 Za rfl rfl) (yz (Z2 rfl) (yz (Z5 rfl) (yz (Z0 Zt rfl) (yz (Z1 Zq rfl rfl) (yz (Z1F Zd rfl rfl qM qM) ?_)))))))));refine yz (Zx (cs:=[_]) Z3w qM qM (.cons rfl .nil) rfl rfl rfl) ?_;apply yn;refine FinS.tail0 ?_;refine JO.apP [by_ s i] Z4v Z4J (by repeat(first|exact .here|apply Cx.past|apply Cx.there)) hG rfl rfl (fun L=>Z1M Z2a rfl rfl) (by simp) (by simp;omega) (by simp;omega) rfl (fun st1 cp1 hG1=>?_);refine Ja rfl (vP [0,2,4] ?_);refine Jm rfl (Jq (Z5 rfl) (Jq (Z0 Zt rfl) (Jq (Z1 Zq rfl rfl) (Jq (Zv (cc:=((i+1:Nat):Int)) rfl rfl qM qM qM) ?_))));refine Jq (Z5 rfl) (Jq (Z0 Zt rfl) (JO.m (Zj (cs':=[_,_]) rfl rfl qU rfl rfl rfl rfl Z2x) (by rfl) ?_));apply yI
 repeat refine JX.normal_block ?_
 refine JX.roundG (x:=⟨i,acc,st,cp⟩) (i+1,acc++[by_ s i],st1,cp1) ?_ ?_ [0,2,4] ?_ ?_ ?_ ?_
 · exact⟨by omega,by have h:=ZjW qM acc hb39;rw[h]at hr1 hr2;exact⟨hr1,(by dsimp only;omega)⟩,hG1,by simp;omega⟩
 · exact(by simp only;omega)
 · exact qS
 · exact qH
 · exact qG
 · exact fun _ _ _=>fun _ _=>trivial
 try simp only[yd,yf]at ht21
 repeat apply yQ
 refine J.exit ?_
 repeat first|refine yH ?_|refine yM rfl ?_|refine yE ?_
 repeat first|apply yX|apply yB
 rw[ZiM qM acc]at hr1 hr2;refine vQ ?_;refine Jq (Zg (cs:=[_,_,_]) Z1e .nil rfl rfl) (JO.m (Z4 rfl rfl qU qC qO ZI) (by rfl) ?_);refine Ja rfl (vS [2,3] ?_);refine vR ?_;exact JX.retMC1is rfl HasOwn.mem rfl ZM HasOwn.mem rfl rfl (by rw[<-hr1];rfl) (by rw[<-hr1]) (by rw[<-hr2];rfl)
end Go.Proofs.YtbedigkncjbggaaGreatDoor
set_option maxRecDepth 20000
namespace Go.Proofs.YtbedigkncjbggaaGreatDoor
open Go Go.Vc
theorem Zbn: ∀(l acc:List UInt8),(textL l acc).2<=l.length
 |[],_=>by simp[textL]
 |[b],acc=>by
   unfold textL
   split<;>simp
 |b::c::l,acc=>by
   have h1:=Zbn l (acc++[c]);have h2:=Zbn (c::l) (acc++[b]);unfold textL
   split
   · split
     · simp
     · simp only[List.length_cons];omega
   · simp only[List.length_cons]at h2 ⊢;omega
theorem Zjb(l:List UInt8):(signL l).2<=l.length:=by
 unfold signL tryL
 split
 · rename_i h
   simp only[Bool.and_eq_true,decide_eq_true_eq]at h;exact h.1
 · split
   · rename_i h
     simp only[Bool.and_eq_true,decide_eq_true_eq]at h;exact h.1
   · exact Nat.zero_le _
theorem Z90(l:List UInt8):(stepL l).2<=l.length:=by
 cases l with
 |nil=>exact Nat.zero_le _
 |cons b l=>
   rw[stepL]
   split
   · exact ZaR _ _
   · split
     · exact ZaR _ _
     · split
       · have:=Zbn l []
         simp only[List.length_cons]
         omega
       · exact Zjb _
theorem Zbp{b:UInt8}{l:List UInt8}(h:(stepL (b::l)).1.2=0):1<=(stepL (b::l)).2:=by
 rw[stepL]at h ⊢
 by_cases h1:letB b=true
 · rw[if_pos h1]
   have:wordB b=true:=by unfold wordB;rw[h1];rfl
   show 1<=runN wordB (b::l);unfold runN;rw[if_pos this]
   omega
 rw[if_neg h1]at h ⊢
 by_cases h2:digB b=true
 · rw[if_pos h2]
   show 1<=runN digB (b::l);unfold runN;rw[if_pos h2]
   omega
 rw[if_neg h2]at h ⊢
 by_cases h3:(b==39)=true
 · rw[if_pos h3]
   exact Nat.le_add_left _ _
 rw[if_neg h3]at h ⊢;unfold signL at h ⊢
 split at h
 · rename_i h4;rw[if_pos h4];exact Nat.le_of_ble_eq_true rfl
 · rename_i h4
   rw[if_neg h4]
   split at h
   · rename_i h5;rw[if_pos h5];exact Nat.le_refl _
   · cases h
theorem ZaH: ∀(f g:Nat) (l:List UInt8),l.length<f->l.length<g->allG f l=allG g l
 |0,_,_,h,_=>absurd h qM
 |_+1,0,_,_,h=>absurd h qM
 |f+1,g+1,l,hf,hg=>by
   unfold allG;cases hd:l.drop (runN isSp l)with
   |nil=>rfl
   |cons b r=>
     dsimp only;have hl:(b::r).length<=l.length:=by rw[<-hd,List.length_drop];omega
     by_cases he:(stepL (b::r)).1.2=0
     · have hp:=Zbp he
       have hle:=Z90 (b::r);have:=ZaH f g ((b::r).drop (stepL (b::r)).2) (by rw[List.length_drop];omega) (by rw[List.length_drop];omega);rw[this]
     · rw[if_pos (by simpa using he),if_pos (by simpa using he)]
def allA(l:List UInt8):List T3×Int:=allG (l.length+1) l
def finA(xs:List T3)(r:List T3×Int):List T3×Int:=if(r.2 != 0)then([],r.2)else(xs++r.1,0)
theorem ZeZ:allA []=([],0):=rfl
theorem ZaX(l:List UInt8):allA (l.drop (runN isSp l))=allA l:=by
 have h1: ∀l:List UInt8,runN isSp (l.drop (runN isSp l))=0:=fun l=>by
   induction l with
   |nil=>rfl
   |cons b l ih=>
     by_cases hb:isSp b=true
     · have:runN isSp (b::l)=runN isSp l+1:=by rw[runN,if_pos hb]
       rw[this,List.drop_succ_cons];exact ih
     · have:runN isSp (b::l)=0:=by rw[runN,if_neg hb]
       rw[this,List.drop_zero];exact this
 unfold allA;rw[ZaH ((l.drop (runN isSp l)).length+1) (l.length+1) _ qM (by rw[List.length_drop];omega)];show allG (l.length+1) (l.drop (runN isSp l))=allG (l.length+1) l;rw[allG,allG,h1 l,List.drop_zero]
theorem Zk6(l:List UInt8):runN isSp (l.drop (runN isSp l))=0:=by
 induction l with
 |nil=>rfl
 |cons b l ih=>
   by_cases hb:isSp b=true
   · have:runN isSp (b::l)=runN isSp l+1:=by rw[runN,if_pos hb]
     rw[this,List.drop_succ_cons];exact ih
   · have:runN isSp (b::l)=0:=by rw[runN,if_neg hb]
     rw[this,List.drop_zero];exact this
theorem Zan{l:List UInt8}(h0:runN isSp l=0)(hl:l≠[]):
   allA l=if((stepL l).1.2 != 0)then([],(stepL l).1.2)else finA [(stepL l).1.1] (allA (l.drop (stepL l).2)):=by
 cases l with
 |nil=>exact absurd rfl hl
 |cons b r=>
   have e:allA (b::r)=allG ((b::r).length+1) (b::r):=rfl;rw[e,allG,h0,List.drop_zero];dsimp only
   by_cases he:(stepL (b::r)).1.2=0
   · have hb:((stepL (b::r)).1.2 != 0)=false:=by simp[he]
     rw[hb];simp only[Bool.false_eq_true,if_false];have hp:=Zbp he;have hle:=Z90 (b::r);rw[ZaH (b::r).length (((b::r).drop (stepL (b::r)).2).length+1) _ (by rw[List.length_drop];omega) qM]
     rfl
   · rw[if_pos (by simpa using he),if_pos (by simpa using he)]
theorem Zep(xs ys:List T3)(r:List T3×Int):finA xs (finA ys r)=finA (xs++ys) r:=by
 unfold finA
 by_cases h:(r.2 != 0)=true
 · rw[if_pos h,if_pos h];simp only;rw[if_pos h]
 · rw[if_neg h,if_neg h]
   simp
theorem Zjd: ∀(f:Nat) (l:List UInt8),(allG f l).2≠0->(allG f l).1=[]
 |0,_,h=>absurd rfl h
 |f+1,l,h=>by
   unfold allG at h ⊢;cases hd:l.drop (runN isSp l)with
   |nil=>rfl
   |cons b r=>
     rw[hd]at h;dsimp only at h ⊢
     split at h
     · rename_i h1;rw[if_pos h1]
     · rename_i h1
       rw[if_neg h1]
       split at h
       · rename_i h2;rw[if_pos h2]
       · exact absurd rfl h
theorem Zey(l:List UInt8):finA [] (allA l)=allA l:=by
 unfold finA
 by_cases h:((allA l).2 != 0)=true
 · rw[if_pos h]
   have h2:(allA l).2≠0:=by simpa using h
   have:=Zjd _ _ h2;exact Prod.ext this.symm rfl
 · rw[if_neg h]
   have:(allA l).2=0:=by simpa using h
   exact Prod.ext rfl this.symm
theorem ZhS{s:ByteArray}(h:s.size<=2048):finA [] (allA (dr s (0+runN isSp (dr s 0))))=lexL s.data.toList:=by
 rw[Zey,<-Z51,ZaX];unfold lexL;rw[if_neg (by rw[Z18];simp;omega)]
 rfl
theorem Zih(s:ByteArray)(i:Nat):runN isSp (dr s (i+runN isSp (dr s i)))=0:=by
 rw[<-Z51];exact Zk6 _
theorem Zha{s:ByteArray}{i:Nat}(h:i<s.size):dr s i≠[]:=by rw[Z1D h];simp
theorem Zjf{s:ByteArray}{i:Nat}{xs:List T3}{X:List T3×Int}(h:i<s.size)(hsp:runN isSp (dr s i)=0)(he:(stepL (dr s i)).1.2=0)(hr:finA xs (allA (dr s i))=X):
  finA (xs++[(stepL (dr s i)).1.1]) (allA (dr s (i+(stepL (dr s i)).2+runN isSp (dr s (i+(stepL (dr s i)).2)))))=X:=by
 rw[<-Z51 s (i+(stepL (dr s i)).2),ZaX,<-Z51 s i,<-Zep,<-hr,Zan hsp (Zha h),if_neg (by simp[he])]
theorem ZfP{s:ByteArray}{i:Nat}{xs:List T3}{X:List T3×Int}(h:i<s.size)(hsp:runN isSp (dr s i)=0)(he:(stepL (dr s i)).1.2≠0)(hr:finA xs (allA (dr s i))=X):X=([],(stepL (dr s i)).1.2):=by
 rw[<-hr,Zan hsp (Zha h),if_pos (by simpa using he)];unfold finA;rw[if_pos (by simpa using he)]
def takeV(x:UInt8)(b:Nat):Value:=.func (.func (if letB x then Z5Q else if digB x then Z5g else if x==39 then Z5R else Z5I)) #[.pointer (some ⟨b,0,none⟩)] #[]
theorem Zhc(s:ByteArray)(n:Nat)(hn:n<s.size)(hs:s.size<=2048)(b:Nat):
   MethV Tryz.prog b (takeV (by_ s n) b) Z1A (sv s n) [GF] [] (sv s (n+(stepL (dr s n)).2)) (.tup2 (.is (tv (stepL (dr s n)).1.1)) (.is (.int .i64 (stepL (dr s n)).1.2))):=by
 have e:=Z1D hn;unfold takeV
 by_cases h1:letB (by_ s n)=true
 · rw[if_pos h1]
   have hst:stepL (dr s n)=(wordL ((dr s n).take (runN wordB (dr s n))),runN wordB (dr s n)):=by
     rw[e,stepL,if_pos h1]
   rw[hst];exact⟨_,rfl,Z9j s n hn hs⟩
 rw[if_neg h1]
 by_cases h2:digB (by_ s n)=true
 · rw[if_pos h2]
   have hst:stepL (dr s n)=(numL (dr s n),runN digB (dr s n)):=by
     rw[e,stepL,if_neg h1,if_pos h2]
   rw[hst];exact⟨_,rfl,Z8h s n hn hs⟩
 rw[if_neg h2]
 by_cases h3:(by_ s n==39)=true
 · rw[if_pos h3]
   have hst:stepL (dr s n)=((textL (dr s (n+1)) []).1,(textL (dr s (n+1)) []).2+1):=by
     rw[e,stepL,if_neg h1,if_neg h2,if_pos h3]
   rw[hst];have:=Z9p s n hn hs;rw[show n+1+(textL (dr s (n+1)) []).2=n+((textL (dr s (n+1)) []).2+1) by omega]at this;exact⟨_,rfl,this⟩
 rw[if_neg h3];have hst:stepL (dr s n)=signL (dr s n):=by
   rw[e,stepL,if_neg h1,if_neg h2,if_neg h3]
 rw[hst];exact⟨_,rfl,Z9l s n hn hs⟩
end Go.Proofs.YtbedigkncjbggaaGreatDoor
set_option maxRecDepth 20000
namespace Go.Proofs.YtbedigkncjbggaaGreatDoor
open Go Go.Vc
theorem Z9N(s:ByteArray)(n:Nat)(hn:n<s.size):CallMR Tryz.prog Z9O Z1A (sv s n) [GF] [] (sv s n) (fun b=>.is (takeV (by_ s n) b)):=
CallMR.of (fn:=Tryz.f57) Tryz.func57 (n:=30) rfl rfl rfl (fun _ _=>by kernel_rfl) fun E W b0=>by
 refine vQ ?_;refine Ja rfl (vS [0] ?_);refine J.reg0 hmx qK qK ?_;refine yz (Z2 rfl) (yz (Z5 rfl) (yz (Z0 Z11 rfl) (yz (Z1 Za rfl rfl) (yz (Z2 rfl) (yz (Z5 rfl) (yz (Z0 Zt rfl) (yz (Z1 Zq rfl rfl) (yz (Z1F Zd rfl rfl qM qM) ?_))))))));refine yz (Z15 rfl) ?_;apply yn;refine FinS.nil0 ?_;refine vS [0,3] ?_;apply yk;refine vQ ?_;refine Jm rfl (Jq (Zo rfl (Z7v (sb s n)) qA) ?_);refine Ja rfl (vS [0,3,13] ?_);refine yC rfl (fun ht13=>?_) (fun ht13=>?_);refine vQ ?_;refine Jm rfl (Jq (Z4A (.cons rfl .nil) .nil) (Ja rfl (vS [2] ?_)));refine vR ?_;exact JX.retM1e rfl HasOwn.mem rfl (by unfold takeV;rw[if_pos (show letB (by_ s n)=true from ht13)]) (by rfl);refine vQ ?_;refine Jm rfl (Jq (Zo rfl (Z8i (sb s n)) qA) ?_);refine Ja rfl (vS [0,3,18] ?_);refine yC rfl (fun ht18=>?_) (fun ht18=>?_);refine vQ ?_;refine Jm rfl (Jq (Z4A (.cons rfl .nil) .nil) (Ja rfl (vS [2] ?_)));refine vR ?_;exact JX.retM1e rfl HasOwn.mem rfl (by unfold takeV;rw[if_neg (show ¬letB (by_ s n)=true by rw[show letB (by_ s n)=false from ht13];simp),if_pos (show digB (by_ s n)=true from ht18)]) (by rfl);refine vQ ?_;refine Jm rfl (Jq (Zu rfl rfl) (Ja rfl (vS [0,23] ?_)));refine yC rfl (fun ht23=>?_) (fun ht23=>?_);refine vQ ?_;refine Jm rfl (Jq (Z4A (.cons rfl .nil) .nil) (Ja rfl (vS [2] ?_)));refine vR ?_;exact JX.retM1e rfl HasOwn.mem rfl (by unfold takeV;rw[if_neg (show ¬letB (by_ s n)=true by rw[show letB (by_ s n)=false from ht13];simp),if_neg (show ¬digB (by_ s n)=true by rw[show digB (by_ s n)=false from ht18];simp),if_pos (by rw[<-q39];exact ht23)]) (by rfl);apply yK;refine vN ?_;apply yN;refine Jm rfl (Jq (Z4A (.cons rfl .nil) .nil) (Ja rfl (vS [2] ?_)));refine vR ?_;exact JX.retM1e rfl HasOwn.mem rfl (by unfold takeV;rw[if_neg (show ¬letB (by_ s n)=true by rw[show letB (by_ s n)=false from ht13];simp),if_neg (show ¬digB (by_ s n)=true by rw[show digB (by_ s n)=false from ht18];simp),if_neg (by rw[<-q39];rw[show(((by_ s n).toNat:Int)==39)=false from ht23];simp)]) (by rfl)
theorem ZhM(s:ByteArray):CallF Tryz.prog ZhN [GF] [.is (.string s)] (.tup2 (.rep (SlC T3.cells 3 (lexL s.data.toList).1)) (.is (.int .i64 (lexL s.data.toList).2))):=
CallF.of (fn:=Tryz.f24) Tryz.func24 (n:=39) rfl rfl rfl (fun _ _=>by kernel_rfl) fun E W=>by
 refine vQ ?_;refine Ja rfl (Ja rfl (vP [0] ?_));refine Jm rfl (Jq (Z1T Zd rfl) (Jq (Z13 rfl rfl) (vS [0,10] ?_)));refine yC rfl (fun ht10=>?_) (fun ht10=>?_)
 try simp only[yd,yf]at ht10
 have hx:lexL s.data.toList=([],30):=by unfold lexL;rw[if_pos (by rw[Z18];simpa using ht10)]
 refine vQ ?_;refine Ja rfl (Ja rfl (vS [2,3] ?_));refine vR ?_;exact JX.ret2sub rfl rfl rfl (by rw[hx];exact Sub.slNilC) rfl (Sub.isEq (by rw[hx]))
 try simp only[yd,yf]at ht10
 apply yK
 repeat first|apply yX|apply yB
 have hsz:s.size<=2048:=by have h:=ht10;omega
 have h0:0+runN isSp (dr s 0)<=s.size:=ZaF (p:=isSp) (Nat.zero_le _);refine vQ ?_;refine Jm rfl (Jq (Zg (cs:=[_,_]) ZcL (.cons rfl .nil) rfl rfl) (JO.box rfl rfl fun b13=>(Ja rfl (vP [0,4] ?_))));refine Ja rfl (vP [0,4,5] ?_);refine Jm rfl (JO.md (Z9f rfl rfl (Z5F s 0 qM qM) qU (by simp) .nil) (by rfl) rfl ?_);refine vS [0,4,5] ?_;apply yk
 repeat apply yQ
 refine J.loopG (α:=Nat×List T3×Option (Nat×List Value)×Nat) (fun z=>[(0,.is (.string s)),(4,.is (.pointer (some ⟨b13,0,none⟩))),(5,.is (sliceO z.2.2.1 z.2.1.length z.2.2.2))]) (fun z=>⟨b13,Z1A,.is (sv s z.1)⟩::ownO z.2.2.1 Z1u []) (fun z=>fun _=>True) (fun z=>z.1<=s.size/\(finA z.2.1 (allA (dr s z.1))=lexL s.data.toList/\runN isSp (dr s z.1)=0)/\Grows T3.cells 3 z.2.1 z.2.2.1 z.2.2.2/\z.2.1.length<=z.1) (fun z=>s.size-z.1) (0+runN isSp (dr s 0),[],none,0) [0,4,5] (.cons rfl (.cons rfl (.cons rfl .nil))) rfl (fun _=>trivial) ⟨h0,⟨ZhS hsz,Zih s 0⟩,rfl,by simp⟩ fun⟨i,xs,st,cp⟩ ⟨hi,⟨hr,hsp⟩,hG,hal⟩=>?_;try dsimp only
 try dsimp only at hi
 try dsimp only at hr
 try dsimp only at hsp
 try dsimp only at hG
 try dsimp only at hal
 refine vQ ?_;refine Jm rfl (Jq (Z5 rfl) (Jq (Z0 Zt rfl) (Jq (Z1 Zq rfl rfl) (Jm rfl (Jq (Z1T Zd rfl) (Jq (ZC rfl rfl) (vS [0,4,5,22] ?_)))))));refine yC rfl (fun ht22=>?_) (fun ht22=>?_)
 try simp only[yd,yf]at ht22
 apply yK;refine vN ?_;apply yk;have hlt:i<s.size:=by omega
 have hle:i+(stepL (dr s i)).2<=s.size:=by have:=Z90 (dr s i);rw[Z5i]at this;omega
 refine vQ ?_;refine Jm rfl (JO.md (Zhr rfl rfl (Z9N s i qM) qU (by simp) .nil) (by rfl) rfl ?_);refine JO.md (Zig rfl ((Zhc s i qM qM b13)) qU (by simp) .nil) (by rfl) rfl ?_;refine Jm rfl (Jq (Z39 rfl) (Jq (Z3b rfl) (JO.alloc Z1C rfl fun b6=>(JO.m (Z4 rfl rfl qU qC qO ZI) (by rfl) ?_))));refine Ja rfl (vP [0,4,5,6,7] ?_);refine Jm rfl (Jq (Z3e rfl rfl) (vS [0,4,5,6,7,32] ?_));refine yC rfl (fun ht32=>?_) (fun ht32=>?_);have hx:=ZfP hlt hsp (by simpa using ht32) hr;refine vQ ?_;refine Jm rfl (Ja rfl (Ja rfl (vS [2,3] ?_)));refine vR ?_;exact JX.ret2sub rfl rfl rfl (by rw[hx];exact Sub.slNilC) rfl (Sub.isEq (by rw[hx]));apply yK
 repeat first|apply yX|apply yB
 have he0:(stepL (dr s i)).1.2=0:=by simpa using ht32
 have hp1:1<=(stepL (dr s i)).2:=by rw[Z1D hlt]at he0 ⊢;exact Zbp he0
 refine vQ ?_;refine Jm rfl (Jq (ZR (cs:=[_,_,_]) ZM rfl rfl rfl) (Jq (Zx (cs:=[_,_,_]) Z3J qM qM (.cons rfl .nil) rfl rfl rfl) ?_));refine JO.apP [(stepL (dr s i)).1.1] Z3R T3.len (by repeat(first|exact .here|apply Cx.past|apply Cx.there)) hG rfl rfl (fun L=>Z1M Z12 rfl rfl) (by simp) (by simp;omega) (by simp;omega) rfl (fun st1 cp1 hG1=>?_);refine Ja rfl (vP [0,4,5] ?_);refine Jm rfl (JO.md (Z9f rfl rfl (Z5F s (i+(stepL (dr s i)).2) qM qM) qU (by simp) .nil) (by rfl) rfl ?_);apply yI
 repeat refine JX.normal_block ?_
 refine JX.roundG (x:=⟨i,xs,st,cp⟩) (i+(stepL (dr s i)).2+runN isSp (dr s (i+(stepL (dr s i)).2)),xs++[(stepL (dr s i)).1.1],st1,cp1) ?_ ?_ [0,4,5] ?_ ?_ ?_ ?_
 · exact⟨ZaF (p:=isSp) hle,⟨Zjf hlt hsp he0 hr,Zih s (i+(stepL (dr s i)).2)⟩,hG1,by simp;omega⟩
 · exact(by simp only;omega)
 · exact qS
 · exact qH
 · exact qG
 · exact fun _ _ _=>fun _ _=>trivial
 try simp only[yd,yf]at ht22
 repeat apply yQ
 refine J.exit ?_
 repeat first|refine yH ?_|refine yM rfl ?_|refine yE ?_
 repeat first|apply yX|apply yB
 have hfin:lexL s.data.toList=(xs,0):=by rw[<-hr,Z5h qM];simp[finA,ZeZ]
 refine J.freezeO T3.len hG (e:=Z1u) yV (fun _ h=>h) rfl rfl ?_;refine vQ ?_;refine Jm rfl (Ja rfl (Ja rfl (vS [2,3] ?_)));refine vR ?_;exact JX.ret2sub rfl rfl rfl (by rw[hfin];exact Sub.slOC hG qI) rfl (Sub.isEq (by rw[hfin]))
end Go.Proofs.YtbedigkncjbggaaGreatDoor
set_option maxRecDepth 20000
namespace Go.Proofs.YtbedigkncjbggaaGreatDoor
open Go Go.Vc
def capB(b:UInt8):Bool:=decide (65<=(b.toNat:Int))&&decide ((b.toNat:Int)<=90)
def lowC(q:Bool)(b:UInt8):UInt8:=if !q&&capB b then b+32 else b
theorem ZeR: ∀(f:Nat) (l:List UInt8),(allG f l).1.length<=f
 |0,_=>Nat.le_refl _
 |f+1,l=>by
   unfold allG;cases hd:l.drop (runN isSp l)with
   |nil=>exact Nat.zero_le _
   |cons b r=>
     dsimp only
     split
     · exact Nat.zero_le _
     · split
       · exact Nat.zero_le _
       · have:=ZeR f ((b::r).drop (stepL (b::r)).2)
         simp only[List.length_cons]
         omega
theorem Z9F(l:List UInt8):(lexL l).1.length<=2049:=by
 unfold lexL
 split
 · exact Nat.zero_le _
 · rename_i h
   have:=ZeR (l.length+1) l
   simp at h
   omega
end Go.Proofs.YtbedigkncjbggaaGreatDoor
set_option maxRecDepth 20000
namespace Go.Proofs.YtbedigkncjbggaaGreatDoor
open Go Go.Vc
theorem Z78{p:UInt8->Bool}(h: ∀n:Nat,n<256->p (UInt8.ofNat n)=true)(b:UInt8):p b=true:=by
 have:=h b.toNat b.toNat_lt
 rwa [UInt8.ofNat_toNat]at this
abbrev low(b:UInt8):UInt8:=lowC false b
def lowOK(b:UInt8):Bool:=(isSp (low b)==isSp b)&&(wordB (low b)==wordB b)&&(digB (low b)==digB b)&&(letB (low b)==letB b)&&((low b==39)==(b==39))&&(Lib.upperB (low b)==Lib.upperB b)&&(Lib.lowerB (low b)==Lib.lowerB b)&&(!digB b||low b==b)&&(letB b||low b==b)
theorem ZlQ(b:UInt8):lowOK b=true:=Z78 (p:=lowOK) (by decide+kernel) b
theorem Zn1(b:UInt8):isSp (low b)=isSp b/\wordB (low b)=wordB b/\digB (low b)=digB b/\letB (low b)=letB b/\(low b==39)=(b==39)/\Lib.upperB (low b)=Lib.upperB b/\Lib.lowerB (low b)=Lib.lowerB b/\(digB b=true->low b=b)/\(letB b=false->low b=b):=by
 have h:=ZlQ b;unfold lowOK at h;simp only[Bool.and_eq_true,beq_iff_eq,Bool.or_eq_true,Bool.not_eq_true']at h;obtain⟨⟨⟨⟨⟨⟨⟨⟨h1,h2⟩,h3⟩,h4⟩,h5⟩,h6⟩,h7⟩,h8⟩,h9⟩:=h;refine⟨h1,h2,h3,h4,h5,h6,h7,fun h=>?_,fun h=>?_⟩
 · rcases h8 with h8|h8
   · rw[h]at h8;cases h8
   · exact h8
 · rcases h9 with h9|h9
   · rw[h]at h9;cases h9
   · exact h9
theorem Za4: ∀{a l:List UInt8},a.isPrefixOf l=true->∀x∈a,x∈l
 |[],_,_,x,h=>by cases h
 |_::_,[],h,_,_=>by cases h
 |a::ar,b::br,h,x,hx=>by
   simp only[List.isPrefixOf,Bool.and_eq_true,beq_iff_eq]at h;rcases List.mem_cons.1 hx with rfl|hx
   · rw[h.1];exact List.mem_cons_self
   · exact List.mem_cons_of_mem _ (Za4 h.2 x hx)
theorem Zeh{s sub:List UInt8}(h:Lib.contains s sub=true): ∀x∈sub,x∈s:=fun x hx=>by
 unfold Lib.contains at h;have h:=of_decide_eq_true h;rcases Lib.index_spec s sub with⟨h1,_⟩|⟨i,_,_,h3,_⟩
 · omega
 · exact List.mem_of_mem_drop (Za4 h3 x hx)
theorem Zhh{l:List UInt8}{q:Nat}{b:UInt8}(hb:b∈l.take q)(h:b∉sgB.data.toList):tryL l q=false:=by
 unfold tryL;cases hc:Lib.contains sgB.data.toList (padL (l.take q))
 · simp
 · exact absurd (Zeh hc b (by unfold padL;simp;exact .inr (.inl hb))) h
end Go.Proofs.YtbedigkncjbggaaGreatDoor
set_option maxRecDepth 20000
namespace Go.Proofs.YtbedigkncjbggaaGreatDoor
open Go Go.Vc
end Go.Proofs.YtbedigkncjbggaaGreatDoor
set_option maxRecDepth 100000
namespace Go.Proofs.YtbedigkncjbggaaGreatDoor
open Go Go.Vc
abbrev zs(k:Nat):ByteArray:=bl (List.replicate k 122)
abbrev ys(k:Nat):ByteArray:=bl (39::List.replicate k 121)
def n1:ByteArray:=⟨#[48,48,48,48,48,57,50,50,51,51,55,50,48,51,54,56,53,52,55,55,53,56,48,55]⟩
def n2:ByteArray:=⟨#[57,50,50,51,51,55,50,48,51,54,56,53,52,55,55,53,56,48,56]⟩
def n3:ByteArray:=⟨#[57,50,50,51,51,55,50,48,51,54,56,53,52,55,55,53,56,48,56,97]⟩
def part(i n:Nat):List Value:=List.replicate i (.int .u8 32)++List.replicate (n-i) (.int .u8 0)
end Go.Proofs.YtbedigkncjbggaaGreatDoor
