/- The document's scanner: all tokens. No condition. -/
import Derived.Test.YtbedigkncjbggaaGreatDoorXQ4
import Derived.Test.YtbedigkncjbggaaGreatDoorXG4
import Derived.Lib.ItoaNum
import Derived.Test.YtbedigkncjbggaaGreatDoorXQ1
import Derived.Test.YtbedigkncjbggaaGreatDoorXG7
import Derived.Test.YtbedigkncjbggaaGreatDoorXQ2
import Derived.Shelf.Small.Wraps
import Derived.Shelf.LaysM
import Derived.Shelf.Strconv.Itoa4
import Derived.Shelf.Strings.Replace
import Derived.Lib.AppendIntMem
set_option maxRecDepth 20000
namespace Go.Proofs.YtbedigkncjbggaaGreatDoor
open Go Go.Vc
theorem ZdS(b:UInt8):(classF b.toNat==1)=letB b:=(ZaT b).1
theorem Ze2(b:UInt8):((classF b.toNat==1)||(classF b.toNat==2))=wordB b:=(ZaT b).2.1
theorem ZdQ(b:UInt8):(classF b.toNat==2)=digB b:=(ZaT b).2.2.1
theorem k_sp(b:UInt8):(classF b.toNat==3)=isSp b:=(ZaT b).2.2.2.1
theorem Z9i{s:ByteArray}{i:Nat}{xs:List T3}{X:List T3×Int}{t:T3}{e:Int}{k:Nat}(h:i<s.size)(hsp:isSp (by_ s i)=false)(hst:stepL (dr s i)=((t,e),k))(he:e=0)(hr:finA xs (allA (dr s i))=X):finA (xs++[t]) (allA (dr s (i+k)))=X:=by
 have hs0:runN isSp (dr s i)=0:=Z6c fun _=>hsp;subst he;rw[<-hr,Zan hs0 (Zha h),hst,if_neg (by simp),Zep,Z51]
theorem Z99{s:ByteArray}{i:Nat}{xs:List T3}{X:List T3×Int}{t:T3}{e:Int}{k:Nat}(h:i<s.size)(hsp:isSp (by_ s i)=false)(hst:stepL (dr s i)=((t,e),k))(he:e≠0)(hr:finA xs (allA (dr s i))=X):X=([],e):=by
 have:=ZfP h (Z6c fun _=>hsp) (by rw[hst];exact he) hr;rw[hst]at this;exact this
theorem ZhC{s:ByteArray}{i:Nat}{xs:List T3}{X:List T3×Int}(h:i<s.size)(hsp:isSp (by_ s i)=true)(hr:finA xs (allA (dr s i))=X):finA xs (allA (dr s (i+1)))=X:=by
 rw[<-hr,<-ZaX (dr s i),<-ZaX (dr s (i+1)),Z51,Z51,Z7z h hsp,show i+(runN isSp (dr s (i+1))+1)=i+1+runN isSp (dr s (i+1)) by omega]
theorem ZhT{s:ByteArray}(h:s.size<=2048):finA [] (allA (dr s 0))=lexL s.data.toList:=by
 rw[Zey];unfold lexL;rw[if_neg (by rw[Z18];simp;omega)]
 rfl
theorem Zge{s:ByteArray}{i:Nat}(h:i<s.size)(hl:letB (by_ s i)=true):stepL (dr s i)=(((wordL (s.extract i (i+runN wordB (dr s i))).data.toList).1,(wordL (s.extract i (i+runN wordB (dr s i))).data.toList).2),runN wordB (dr s i)):=by
 show _=(wordL (s.extract i (i+runN wordB (dr s i))).data.toList,runN wordB (dr s i));rw[Z1t,Z1D h,stepL,if_pos hl]
theorem ZdX{s:ByteArray}{i:Nat}(h:i<s.size)(hl:letB (by_ s i)=false)(hd:digB (by_ s i)=true):stepL (dr s i)=(numL (dr s i),runN digB (dr s i)):=by
 rw[Z1D h,stepL,if_neg (by rw[hl];simp),if_pos hd]
theorem Zgf{s:ByteArray}{i:Nat}(h:i<s.size)(hl:letB (by_ s i)=false)(hd:digB (by_ s i)=false)(hq:(by_ s i==39)=true):stepL (dr s i)=((textL (dr s (i+1)) []).1,(textL (dr s (i+1)) []).2+1):=by
 rw[Z1D h,stepL,if_neg (by rw[hl];simp),if_neg (by rw[hd];simp),if_pos hq]
theorem Zg4{s:ByteArray}{i:Nat}(h:i<s.size)(hl:letB (by_ s i)=false)(hd:digB (by_ s i)=false)(hq:(by_ s i==39)=false):stepL (dr s i)=signL (dr s i):=by
 rw[Z1D h,stepL,if_neg (by rw[hl];simp),if_neg (by rw[hd];simp),if_neg (by rw[hq];simp)]
theorem ZjD(s:ByteArray)(n:Nat): ∀b∈(s.extract n (n+runN wordB (dr s n))).data.toList,wordB b=true:=fun b h=>by
 rw[Z1t]at h;exact Z75 wordB _ b h
theorem Zl3{s:ByteArray}{i:Nat}{xs:List T3}{X:List T3×Int}(h:i<s.size)(hsp:isSp (by_ s i)=false)(hl:letB (by_ s i)=false)(hd:digB (by_ s i)=true)(hh:headP letB ((dr s i).drop (runN digB (dr s i)))=true)(hr:finA xs (allA (dr s i))=X):X=([],30):=
 Z99 (t:=t3D) (k:=runN digB (dr s i)) h hsp (by rw[ZdX h hl hd,ZfV hh]) qD hr
theorem Zjp{s:ByteArray}{i:Nat}{xs:List T3}{X:List T3×Int}(h:i<s.size)(hsp:isSp (by_ s i)=false)(hl:letB (by_ s i)=false)(hd:digB (by_ s i)=true)(hh:headP letB ((dr s i).drop (runN digB (dr s i)))=false)(ho:(refNum (s.extract i (i+runN digB (dr s i))).data.toList).2=false)(hr:finA xs (allA (dr s i))=X):X=([],35):=by
 rw[Z1t]at ho;exact Z99 (t:=t3D) (k:=runN digB (dr s i)) h hsp (by rw[ZdX h hl hd,ZcU hh,if_neg (by rw[ho];simp)]) qD hr
theorem Zlu{s:ByteArray}{i:Nat}(h:i<s.size)(hl:letB (by_ s i)=false)(hd:digB (by_ s i)=true)(hh:headP letB ((dr s i).drop (runN digB (dr s i)))=false)(ho:(refNum (s.extract i (i+runN digB (dr s i))).data.toList).2=true):stepL (dr s i)=((⟨3,⟨#[]⟩,(refNum (s.extract i (i+runN digB (dr s i))).data.toList).1⟩,0),runN digB (dr s i)):=by
 rw[Z1t]at ho ⊢;rw[ZdX h hl hd,ZcU hh,if_pos ho]
theorem ZkX{s:ByteArray}{i:Nat}{xs:List T3}{X:List T3×Int}(h:i<s.size)(hsp:isSp (by_ s i)=false)(hl:letB (by_ s i)=false)(hd:digB (by_ s i)=false)(hq:(by_ s i==39)=true)(ht:(decide (quoE (quoP s i)<0)||decide (64<((quoS (quoP s i)).size:Int)))=true)(hr:finA xs (allA (dr s i))=X):X=([],30):=by
 obtain⟨q1,q2⟩:=Z7d (dr s (i+1)) [];refine Z99 (t:=t3D) (k:=(textL (dr s (i+1)) []).2+1) h hsp ?_ qD hr;rw[Zgf h hl hd hq];cases e:quoF (dr s (i+1)) []with
 |none=>rw[q1 e]
 |some r=>
   have e2:quoP s i=some (r.1,i+1+r.2):=by unfold quoP;rw[e];rfl
   rw[e2]at ht;have h3:64<(r.1.length:Int):=by
     simp only[quoE,quoS,Bool.or_eq_true,decide_eq_true_eq,Z29]at ht;rcases ht with ht|ht
     · exact absurd (of_decide_eq_true ht) (Int.not_lt.2 (Int.natCast_nonneg _))
     · first|exact ht|exact of_decide_eq_true ht
   have:textL (dr s (i+1)) []=((t3D,30),r.2):=by
     rw[q2 r e];unfold endT;rw[if_pos (decide_eq_true h3)]
   rw[this]
theorem Zm2{s:ByteArray}{i:Nat}(h:i<s.size)(hl:letB (by_ s i)=false)(hd:digB (by_ s i)=false)(hq:(by_ s i==39)=true)(ht:(decide (quoE (quoP s i)<0)||decide (64<((quoS (quoP s i)).size:Int)))=false):
   ∃acc r,quoP s i=some (acc,i+r)/\1<=r/\stepL (dr s i)=((⟨4,bl acc,0⟩,0),r):=by
 obtain⟨q1,q2⟩:=Z7d (dr s (i+1)) [];cases e:quoF (dr s (i+1)) []with
 |none=>
   have e2:quoP s i=none:=by unfold quoP;rw[e];rfl
   rw[e2]at ht
   simp[quoE]at ht
 |some r=>
   have e2:quoP s i=some (r.1,i+1+r.2):=by unfold quoP;rw[e];rfl
   rw[e2]at ht;have h3: ¬64<(r.1.length:Int):=by
     simp only[quoE,quoS,Bool.or_eq_false_iff,decide_eq_false_iff_not,Z29]at ht;exact ht.2
   refine⟨r.1,r.2+1,by rw[e2,show i+1+r.2=i+(r.2+1) by omega],by omega,?_⟩;rw[Zgf h hl hd hq,q2 r e];unfold endT;rw[if_neg (by rw[decide_eq_false h3];simp)]
theorem Zfk(s:ByteArray)(i:Nat)(h:i<=s.size):(s.extract i s.size).data.toList=dr s i:=by
 have:=Z1t s i (s.size-i);rw[show i+(s.size-i)=s.size by omega]at this;rw[this,List.take_of_length_le (by rw[Z5i];exact Nat.le_refl _)]
theorem Zkn(l:List UInt8): ∃k:Nat,signRF l=(k:Int)/\k<=2:=by
 unfold signRF
 split
 · exact⟨2,rfl,by omega⟩
 · split
   · exact⟨1,rfl,by omega⟩
   · exact⟨0,rfl,by omega⟩
theorem Zem{b:UInt8}(h:isSp b=false):b≠32:=fun e=>by subst e;cases h
theorem Zle{s:ByteArray}{i k:Nat}{xs:List T3}{X:List T3×Int}(h:i<s.size)(hsp:isSp (by_ s i)=false)(hl:letB (by_ s i)=false)(hd:digB (by_ s i)=false)(hq:(by_ s i==39)=false)(hk:signRF (dr s i)=(k:Int))(h0:((k:Int)==0)=true)(hr:finA xs (allA (dr s i))=X):X=([],30):=by
 refine Z99 (t:=t3D) (k:=0) h hsp ?_ qD hr;rw[Zg4 h hl hd hq];have h1:=Z1D h;rw[h1]at hk ⊢;rw[Zg1 (Zem hsp),hk,if_pos (by simpa using h0)]
theorem ZlD{s:ByteArray}{i k:Nat}(h:i<s.size)(hsp:isSp (by_ s i)=false)(hl:letB (by_ s i)=false)(hd:digB (by_ s i)=false)(hq:(by_ s i==39)=false)(hk:signRF (dr s i)=(k:Int))(h0:((k:Int)==0)=false):stepL (dr s i)=((⟨5,s.extract i (i+k),0⟩,0),k):=by
 rw[Zg4 h hl hd hq,ZeD];have h1:=Z1D h;rw[h1]at hk ⊢;rw[Zg1 (Zem hsp),hk,if_neg (by simpa using h0)]
 rfl
theorem Zfy(s:ByteArray):CallTy Tryz.prog ZfJ [.is (.string s)] (.tup2 (.rep (SlC T3.cells 3 (lexL s.data.toList).1)) (.is (.int .i64 (lexL s.data.toList).2))):=
 CallTy.of (fn:=Tryz.f30) Tryz.func30 (n:=156) rfl rfl rfl (fun _ _=>by kernel_rfl) fun E W=>by
 refine vQ ?_;refine Ja rfl (Ja rfl (vP [0] ?_));refine Jm rfl (Jq (Z1T Zd rfl) (Jq (Z13 rfl rfl) (vS [0,17] ?_)));refine yC rfl (fun ht17=>?_) (fun ht17=>?_)
 try simp only[yd,yf]at ht17
 have hx:lexL s.data.toList=([],30):=by unfold lexL;rw[if_pos (by rw[Z18];simpa using ht17)]
 refine vQ ?_;refine Ja rfl (Ja rfl (vS [2,3] ?_));refine vR ?_;exact JX.ret2sub rfl rfl rfl (by rw[hx];exact Sub.slNilC) rfl (Sub.isEq (by rw[hx]))
 try simp only[yd,yf]at ht17
 apply yK
 repeat first|apply yX|apply yB
 have hsz:s.size<=2048:=by omega
 refine vQ ?_;refine Ja rfl (vP [0,4] ?_);refine Ja rfl (vS [0,4,5] ?_);apply yk
 repeat apply yQ
 refine J.loopG (α:=Nat×List T3×Option (Nat×List Value)×Nat) (fun z=>[(0,.is (.string s)),(4,.is (sliceO z.2.2.1 z.2.1.length z.2.2.2)),(5,.is (.int .i64 (z.1:Nat)))]) (fun z=>ownO z.2.2.1 Z1u []) (fun z=>fun _=>True) (fun z=>z.1<=s.size/\finA z.2.1 (allA (dr s z.1))=lexL s.data.toList/\Grows T3.cells 3 z.2.1 z.2.2.1 z.2.2.2/\z.2.1.length<=z.1) (fun z=>s.size-z.1) (0,[],none,0) [0,4,5] (.cons rfl (.cons rfl (.cons rfl .nil))) rfl (fun _=>trivial) ⟨by omega,ZhT hsz,rfl,by simp⟩ fun⟨i,xs,st,cp⟩ ⟨hi,hr,hG,hal⟩=>?_;try dsimp only
 try dsimp only at hi
 try dsimp only at hr
 try dsimp only at hG
 try dsimp only at hal
 refine vQ ?_;refine Jm rfl (Jm rfl (Jq (Z1T Zd rfl) (Jq (ZC rfl rfl) (vS [0,4,5,21] ?_))));refine yC rfl (fun ht21=>?_) (fun ht21=>?_)
 try simp only[yd,yf]at ht21
 apply yK;refine vN ?_;apply yk;have hlt:i<s.size:=by omega
 refine vQ ?_;refine Jm rfl (Jm rfl (Jq (Z1F Zd rfl rfl qM qM) ?_));refine Jq (Zo rfl (Z4o _) (.one rfl .nil)) (Ja rfl (vP [0,4,5,6] ?_));refine Jm rfl (Ja rfl (vS [0,4,5,6,7] ?_));apply yk;refine vQ ?_;refine Jm rfl (Jq (Zu rfl rfl) (Ja rfl (vS [0,4,5,6,7,46] ?_)));refine yC rfl (fun ht46=>?_) (fun ht46=>?_);have hspt:isSp (by_ s i)=true:=by rw[<-k_sp];exact ht46
 refine vQ ?_;refine Jm rfl (Jq (Zv (cc:=((i+1:Nat):Int)) rfl rfl qM qM qM) ?_);refine Ja rfl ?_;apply yI
 repeat refine JX.normal_block ?_
 refine JX.roundG (x:=⟨i,xs,st,cp⟩) (i+1,xs,st,cp) ?_ ?_ [0,4,5] ?_ ?_ ?_ ?_
 · exact⟨by omega,ZhC hlt hspt hr,hG,by dsimp only;omega⟩
 · exact(by simp only;omega)
 · exact qS
 · exact qH
 · exact qG
 · exact fun _ _ _=>fun _ _=>trivial
 have hsp:isSp (by_ s i)=false:=by rw[<-k_sp];exact ht46
 refine vQ ?_;refine Jm rfl (Jq (Zu rfl rfl) (Ja rfl (vS [0,4,5,6,7,51] ?_)));refine yC rfl (fun ht51=>?_) (fun ht51=>?_)
 repeat apply yQ
 apply yk
 repeat apply yQ
 refine J.loopG (α:=Nat) (fun j=>[(0,.is (.string s)),(4,.is (sliceO st xs.length cp)),(5,.is (.int .i64 (j:Nat))),(7,.is (.int .i64 (i:Nat)))]) (fun j=>ownO st Z1u []) (fun j=>fun _=>True) (fun j=>j<=s.size/\j+runN wordB (dr s j)=i+runN wordB (dr s i)) (fun j=>s.size-j) i [0,4,5,7] (.cons rfl (.cons rfl (.cons rfl (.cons rfl .nil)))) rfl (fun _=>trivial) ⟨hi,rfl⟩ fun j ⟨hj,hjr⟩=>?_
 skip
 repeat apply yQ
 refine J.reg0 hmx qK qK ?_;refine yz (Z2 rfl) (yz (Z2 rfl) (yz (Z1T Zd rfl) (yz (ZC rfl rfl) (yz (Z2 rfl) (yg rfl rfl rfl (fun hg=>Z2 (.inl rfl)) (yg rfl rfl rfl (fun hg=>Z2 (.inl rfl)) (yg rfl rfl rfl (fun hg=>Z1F Zd (qR rfl) (qR rfl) qM (by first|(have h:=hg;simp only[decide_eq_true_eq]at h;omega)|(have h:=hg.1;simp only[decide_eq_true_eq]at h;omega)|(simp at hg;omega))) ?_)))))));refine yg rfl rfl rfl (fun hg=>Zo (.inl rfl) (Z4o _) (.one (qR rfl) .nil)) ?_;refine yg rfl rfl rfl (fun hg=>Zu (qR rfl) (.inl rfl)) ?_;refine yg rfl rfl rfl (fun hg=>Z2 (qR rfl)) ?_;refine RT.gg rfl rfl rfl (fun hg=>(Z2 (.inl rfl))) ?_;refine RT.gg rfl rfl rfl (fun hg=>(Z2 (.inl rfl))) ?_;refine RT.gg rfl rfl rfl (fun hg=>(Z1F Zd (qR rfl) (qR rfl) qM (by first|(have h:=hg;simp only[decide_eq_true_eq]at h;omega)|(have h:=hg.1;simp only[decide_eq_true_eq]at h;omega)|(simp at hg;omega)))) ?_;refine RT.gg rfl rfl rfl (fun hg=>(Zo (.inl rfl) (Z4o _) (.one (qR rfl) .nil))) ?_;refine RT.gg rfl rfl rfl (fun hg=>(Zu (qR rfl) (.inl rfl))) ?_;refine yg rfl rfl rfl (fun hg=>ZF (qR rfl) (.inl rfl) (.inl rfl) (fun h=>⟨hg,h⟩)) ?_;refine yz (Zn rfl rfl rfl id) ?_;apply yn;refine FinS.nil0 ?_;refine vS [0,4,5,7,71] ?_;refine yC rfl (fun ht71=>?_) (fun ht71=>?_);apply yK;refine vN ?_;apply yk;have hlj:j<s.size:=by have h:=(Z4d ht71).1;simp only[decide_eq_true_eq]at h;omega
 refine vQ ?_;refine Jm rfl (Jq (Zv (cc:=((j+1:Nat):Int)) rfl rfl qM qM qM) ?_);refine Ja rfl ?_;apply yI
 repeat refine JX.normal_block ?_
 refine JX.roundG (x:=j) (j+1) ?_ ?_ [0,4,5,7] ?_ ?_ ?_ ?_
 · exact⟨by omega,by rw[<-hjr,Z7z hlj (by rw[<-Ze2];exact(Z4d ht71).2)];omega⟩
 · exact qM
 · exact qS
 · exact qH
 · exact qG
 · exact fun _ _ _=>fun _ _=>trivial
 repeat apply yQ
 refine J.exit ?_
 repeat first|refine yH ?_|refine yM rfl ?_|refine yE ?_
 repeat first|apply yX|apply yB
 have he:j=i+runN wordB (dr s i):=by
   rw[<-hjr,Z6c fun h=>by have h2:(decide ((j:Int)<s.size)&&wordB (by_ s j))=false:=(by rw[<-Ze2];exact ht71);simpa [h] using h2]
   rfl
 subst he;have hle:letB (by_ s i)=true:=by rw[<-ZdS];exact ht51
 have hpos:1<=runN wordB (dr s i):=by rw[Z7z hlt (by rw[<-Ze2,Bool.or_eq_true];exact Or.inl (by rw[ZdS];exact hle))];omega
 refine vQ ?_;refine Jm rfl (Jm rfl (Jm rfl (Jq (Z4R Zd rfl rfl rfl qM qM qM) ?_)));refine Jq (Zo rfl (Zel (s.extract i (i+runN wordB (dr s i))) (ZjD s i) (by have h1:=Z4N s i (runN wordB (dr s i));omega)) qA) ?_;refine Jm rfl (Jq (Z39 rfl) (Jq (Z3b rfl) (JO.alloc Z1C rfl fun b8=>(JO.m (Z4 rfl rfl qU qC qO ZI) (by rfl) ?_))));refine Ja rfl (vP [0,4,5,8,9] ?_);refine Jm rfl (Jq (Z3e rfl rfl) (vS [0,4,5,8,9,83] ?_));refine yC rfl (fun ht83=>?_) (fun ht83=>?_);have hx:=Z99 hlt hsp (Zge hlt hle) (by simpa using ht83) hr;refine vQ ?_;refine Jm rfl (Ja rfl (Ja rfl (vS [2,3] ?_)));refine vR ?_;exact JX.ret2sub rfl rfl rfl (by rw[hx];exact Sub.slNilC) rfl (Sub.isEq (by rw[hx]));apply yK;refine vN ?_;apply yN;refine Jm rfl (Jq (ZR (cs:=[_,_,_]) ZM rfl rfl rfl) (Jq (Zx (cs:=[_,_,_]) Z3J qM qM (.cons rfl .nil) rfl rfl rfl) ?_));refine JO.apP [(wordL (s.extract i (i+runN wordB (dr s i))).data.toList).1] Z3R T3.len (by repeat(first|exact .here|apply Cx.past|apply Cx.there)) hG rfl rfl (fun L=>Z1M Z12 rfl rfl) (by simp) (by simp;omega) (by simp;omega) rfl (fun st1 cp1 hG1=>?_);refine Ja rfl ?_;apply yI
 repeat refine JX.normal_block ?_
 refine JX.roundG (x:=⟨i,xs,st,cp⟩) (i+runN wordB (dr s i),xs++[(wordL (s.extract i (i+runN wordB (dr s i))).data.toList).1],st1,cp1) ?_ ?_ [0,4,5] ?_ ?_ ?_ ?_
 · exact⟨ZaF hi,Z9i hlt hsp (Zge hlt hle) (by simpa using ht83) hr,hG1,by simp;omega⟩
 · exact(by simp only;omega)
 · exact qS
 · exact qH
 · exact qG
 · exact fun _ _ _=>fun _ _=>trivial
 have hle:letB (by_ s i)=false:=by rw[<-ZdS];exact ht51
 refine vQ ?_;refine Jm rfl (Jq (Zu rfl rfl) (Ja rfl (vS [0,4,5,7,89] ?_)));refine yC rfl (fun ht89=>?_) (fun ht89=>?_)
 repeat apply yQ
 apply yk
 repeat apply yQ
 refine J.loopG (α:=Nat) (fun j=>[(0,.is (.string s)),(4,.is (sliceO st xs.length cp)),(5,.is (.int .i64 (j:Nat))),(7,.is (.int .i64 (i:Nat)))]) (fun j=>ownO st Z1u []) (fun j=>fun _=>True) (fun j=>j<=s.size/\j+runN digB (dr s j)=i+runN digB (dr s i)) (fun j=>s.size-j) i [0,4,5,7] (.cons rfl (.cons rfl (.cons rfl (.cons rfl .nil)))) rfl (fun _=>trivial) ⟨hi,rfl⟩ fun j ⟨hj,hjr⟩=>?_
 repeat apply yQ
 refine J.reg0 hmx qK qK ?_;refine yz (Z2 rfl) (yz (Z2 rfl) (yz (Z1T Zd rfl) (yz (ZC rfl rfl) (yz (Z2 rfl) (yg rfl rfl rfl (fun hg=>Z2 (.inl rfl)) (yg rfl rfl rfl (fun hg=>Z2 (.inl rfl)) (yg rfl rfl rfl (fun hg=>Z1F Zd (qR rfl) (qR rfl) qM (by first|(have h:=hg;simp only[decide_eq_true_eq]at h;omega)|(have h:=hg.1;simp only[decide_eq_true_eq]at h;omega)|(simp at hg;omega))) ?_)))))));refine yg rfl rfl rfl (fun hg=>Zo (.inl rfl) (Z4o _) (.one (qR rfl) .nil)) ?_;refine yg rfl rfl rfl (fun hg=>Zu (qR rfl) (.inl rfl)) ?_;refine yz (Zn rfl rfl rfl id) ?_;apply yn;refine FinS.nil0 ?_;refine vS [0,4,5,7,102] ?_;refine yC rfl (fun ht102=>?_) (fun ht102=>?_);apply yK;refine vN ?_;apply yk;have hlj:j<s.size:=by have h:=(Z4d ht102).1;simp only[decide_eq_true_eq]at h;omega
 refine vQ ?_;refine Jm rfl (Jq (Zv (cc:=((j+1:Nat):Int)) rfl rfl qM qM qM) ?_);refine Ja rfl ?_;apply yI
 repeat refine JX.normal_block ?_
 refine JX.roundG (x:=j) (j+1) ?_ ?_ [0,4,5,7] ?_ ?_ ?_ ?_
 · exact⟨by omega,by rw[<-hjr,Z7z hlj (by rw[<-ZdQ];exact(Z4d ht102).2)];omega⟩
 · exact qM
 · exact qS
 · exact qH
 · exact qG
 · exact fun _ _ _=>fun _ _=>trivial
 repeat apply yQ
 refine J.exit ?_
 repeat first|refine yH ?_|refine yM rfl ?_|refine yE ?_
 repeat first|apply yX|apply yB
 have he:j=i+runN digB (dr s i):=by
   rw[<-hjr,Z6c fun h=>by have h2:(decide ((j:Int)<s.size)&&digB (by_ s j))=false:=(by rw[<-ZdQ];exact ht102);simpa [h] using h2]
   rfl
 subst he;have hdg:digB (by_ s i)=true:=by rw[<-ZdQ];exact ht89
 have hpos:1<=runN digB (dr s i):=by rw[Z7z hlt hdg];omega
 have hrl:i+runN digB (dr s i)<=s.size:=ZaF hi;have hh:headP letB ((dr s i).drop (runN digB (dr s i)))=(decide (((i+runN digB (dr s i):Nat):Int)<s.size)&&letB (by_ s (i+runN digB (dr s i)))):=by rw[Z51];exact Zgp letB s _
 rw[<-ZdS]at hh
 repeat apply yQ
 refine J.reg0 hmx qK qK ?_;refine yz (Z2 rfl) (yz (Z2 rfl) (yz (Z1T Zd rfl) (yz (ZC rfl rfl) (yz (Z2 rfl) (yg rfl rfl rfl (fun hg=>Z2 (.inl rfl)) (yg rfl rfl rfl (fun hg=>Z2 (.inl rfl)) (yg rfl rfl rfl (fun hg=>Z1F Zd (qR rfl) (qR rfl) qM (by first|(have h:=hg;simp only[decide_eq_true_eq]at h;omega)|(have h:=hg.1;simp only[decide_eq_true_eq]at h;omega)|(simp at hg;omega))) ?_)))))));refine yg rfl rfl rfl (fun hg=>Zo (.inl rfl) (Z4o _) (.one (qR rfl) .nil)) ?_;refine yg rfl rfl rfl (fun hg=>Zu (qR rfl) (.inl rfl)) ?_;refine yz (Zn rfl rfl rfl id) ?_;apply yn;refine FinS.nil0 ?_;refine vS [0,4,5,7,115] ?_;refine yC rfl (fun ht115=>?_) (fun ht115=>?_);have hx:=Zl3 hlt hsp hle hdg (hh.trans ht115) hr;refine vQ ?_;refine Ja rfl (Ja rfl (vS [2,3] ?_));refine vR ?_;exact JX.ret2sub rfl rfl rfl (by rw[hx];exact Sub.slNilC) rfl (Sub.isEq (by rw[hx]));apply yK;refine vN ?_;apply yN;refine Jm rfl (Jm rfl (Jm rfl (Jq (Z4R Zd rfl rfl rfl qM qM qM) ?_)));refine Jq (Zo rfl (ZcJ (s.extract i (i+runN digB (dr s i))) (by have h1:=Z4N s i (runN digB (dr s i));omega)) qA) ?_;refine Jm rfl (Jq (Z39 rfl) (Jq (Z3b rfl) (Ja rfl (Ja rfl (vP [0,4,5,10,11] ?_)))));refine Jm rfl (Jq (Z2e rfl) (vS [0,4,5,10,125] ?_));refine yC rfl (fun ht125=>?_) (fun ht125=>?_);have hx:=Zjp hlt hsp hle hdg (hh.trans ht115) (by simpa using ht125) hr;refine vQ ?_;refine Ja rfl (Ja rfl (vS [2,3] ?_));refine vR ?_;exact JX.ret2sub rfl rfl rfl (by rw[hx];exact Sub.slNilC) rfl (Sub.isEq (by rw[hx]));apply yK
 repeat first|apply yX|apply yB
 have hst:=Zlu hlt hle hdg (hh.trans ht115) (by simpa using ht125);refine vQ ?_;refine Jm rfl (Jm rfl (Jq (Zg (cs:=[_,_,_]) Z1e (.cons rfl (.cons rfl .nil)) rfl rfl) (Jq (Zx (cs:=[_,_,_]) Z3J qM qM (.cons rfl .nil) rfl rfl rfl) ?_)));refine JO.apP [⟨3,⟨#[]⟩,(refNum (s.extract i (i+runN digB (dr s i))).data.toList).1⟩] Z3R T3.len (by repeat(first|exact .here|apply Cx.past|apply Cx.there)) hG rfl rfl (fun L=>Z1M Z12 rfl rfl) (by simp) (by simp;omega) (by simp;omega) rfl (fun st1 cp1 hG1=>?_);refine Ja rfl ?_;apply yI
 repeat refine JX.normal_block ?_
 refine JX.roundG (x:=⟨i,xs,st,cp⟩) (i+runN digB (dr s i),xs++[⟨3,⟨#[]⟩,(refNum (s.extract i (i+runN digB (dr s i))).data.toList).1⟩],st1,cp1) ?_ ?_ [0,4,5] ?_ ?_ ?_ ?_
 · exact⟨ZaF hi,Z9i hlt hsp hst rfl hr,hG1,by simp;omega⟩
 · exact(by simp only;omega)
 · exact qS
 · exact qH
 · exact qG
 · exact fun _ _ _=>fun _ _=>trivial
 have hdg:digB (by_ s i)=false:=by rw[<-ZdQ];exact ht89
 refine vQ ?_;refine Jm rfl (Jm rfl (Jq (Z1F Zd rfl rfl qM qM) ?_));refine Jq (Zu rfl rfl) (Ja rfl (vS [0,4,5,131] ?_));refine yC rfl (fun ht131=>?_) (fun ht131=>?_);have hq39:(by_ s i==39)=true:=by rw[<-q39];exact ht131
 refine vQ ?_;refine Jm rfl (Jm rfl (Jq (Zo rfl (ZcQ s i hlt hsz) qA) ?_));refine Jm rfl (Jq (Z39 rfl) (Jq (Z3b rfl) (Ja rfl (Ja rfl (vS [0,4,12,13] ?_)))));refine J.reg0 hmx qK qK ?_;refine yz (Z2 rfl) (yz (ZC rfl rfl) (yz (Z2 rfl) (yg rfl rfl rfl (fun hg=>Z2 (.inl rfl)) (yg rfl rfl rfl (fun hg=>Z1T Zd (qR rfl)) ?_))));refine yg rfl rfl rfl (fun hg=>Z13 (qR rfl) (.inl rfl)) ?_;refine yz (ZF rfl rfl rfl id) ?_;apply yn;refine FinS.nil0 ?_;refine vS [0,4,12,13,148] ?_;refine yC rfl (fun ht148=>?_) (fun ht148=>?_);have hx:=ZkX hlt hsp hle hdg hq39 ht148 hr;refine vQ ?_;refine Ja rfl (Ja rfl (vS [2,3] ?_));refine vR ?_;exact JX.ret2sub rfl rfl rfl (by rw[hx];exact Sub.slNilC) rfl (Sub.isEq (by rw[hx]));apply yK
 repeat first|apply yX|apply yB
 obtain⟨acc,r,hq,hr1,hst⟩:=Zm2 hlt hle hdg hq39 ht148;have hlr:i+r<=s.size:=by have h:=Z90 (dr s i);rw[hst,Z5i]at h;dsimp only at h;omega
 rw[hq];refine vQ ?_;refine Jm rfl (Jm rfl (Jq (Zg (cs:=[_,_,_]) Z1e (.cons rfl (.cons rfl .nil)) rfl rfl) (Jq (Zx (cs:=[_,_,_]) Z3J qM qM (.cons rfl .nil) rfl rfl rfl) ?_)));refine JO.apP [⟨4,bl acc,0⟩] Z3R T3.len (by repeat(first|exact .here|apply Cx.past|apply Cx.there)) hG rfl rfl (fun L=>Z1M Z12 rfl rfl) (by simp) (by simp;omega) (by simp;omega) rfl (fun st1 cp1 hG1=>?_);refine Ja rfl (vP [0,4,13] ?_);refine Jm rfl (Ja rfl ?_);apply yI
 repeat refine JX.normal_block ?_
 refine JX.roundG (x:=⟨i,xs,st,cp⟩) (i+r,xs++[⟨4,bl acc,0⟩],st1,cp1) ?_ ?_ [0,4,5] ?_ ?_ ?_ ?_
 · exact⟨hlr,Z9i hlt hsp hst rfl hr,hG1,by simp;omega⟩
 · exact(by simp only;omega)
 · exact qS
 · exact qH
 · exact qG
 · exact fun _ _ _=>fun _ _=>trivial
 have hq39:(by_ s i==39)=false:=by rw[<-q39];exact ht131
 obtain⟨k,hk,hk2⟩:=Zkn (dr s i);refine vQ ?_;refine Jm rfl (Jm rfl (Jq (ZfC Zd rfl rfl qM qM) ?_));refine Jq (Zo rfl (Zec (s.extract i s.size) (by rw[<-Z18,Zfk s i hi,Z5i];omega) (by rw[<-Z18,Zfk s i hi,Z5i];omega)) qA) ?_;refine Ja rfl (vS [0,4,5,14] ?_);rw[Zfk s i hi,hk];refine vQ ?_;refine Jm rfl (Jq (Zu rfl rfl) (vS [0,4,5,14,32] ?_));refine yC rfl (fun ht32=>?_) (fun ht32=>?_);have hx:=Zle hlt hsp hle hdg hq39 hk ht32 hr;refine vQ ?_;refine Ja rfl (Ja rfl (vS [2,3] ?_));refine vR ?_;exact JX.ret2sub rfl rfl rfl (by rw[hx];exact Sub.slNilC) rfl (Sub.isEq (by rw[hx]));apply yK
 repeat first|apply yX|apply yB
 have hst:=ZlD hlt hsp hle hdg hq39 hk ht32;have hlr:i+k<=s.size:=by have h:=Z90 (dr s i);rw[hst,Z5i]at h;dsimp only at h;omega
 have hk1:1<=k:=by have h:=ht32;simp at h;omega
 refine vQ ?_;refine Jm rfl (Jm rfl (Jm rfl (Jm rfl (Jm rfl (Jq (Zv (cc:=((i+k:Nat):Int)) rfl rfl qM qM qM) ?_)))));refine Jq (Z4R Zd rfl rfl rfl qM qM qM) ?_;refine Jq (Zg (cs:=[_,_,_]) Z1e (.cons rfl (.cons rfl .nil)) rfl rfl) (Jq (Zx (cs:=[_,_,_]) Z3J qM qM (.cons rfl .nil) rfl rfl rfl) ?_);refine JO.apP [⟨5,s.extract i (i+k),0⟩] Z3R T3.len (by repeat(first|exact .here|apply Cx.past|apply Cx.there)) hG rfl rfl (fun L=>Z1M Z12 rfl rfl) (by simp) (by simp;omega) (by simp;omega) rfl (fun st1 cp1 hG1=>?_);refine Ja rfl (vP [0,4,5,14] ?_);refine Jm rfl (Jm rfl (Jq (Zv (cc:=((i+k:Nat):Int)) rfl rfl qM qM qM) ?_));refine Ja rfl ?_;apply yI
 repeat refine JX.normal_block ?_
 refine JX.roundG (x:=⟨i,xs,st,cp⟩) (i+k,xs++[⟨5,s.extract i (i+k),0⟩],st1,cp1) ?_ ?_ [0,4,5] ?_ ?_ ?_ ?_
 · exact⟨hlr,Z9i hlt hsp hst rfl hr,hG1,by simp;omega⟩
 · exact(by simp only;omega)
 · exact qS
 · exact qH
 · exact qG
 · exact fun _ _ _=>fun _ _=>trivial
 try simp only[yd,yf]at ht21
 repeat apply yQ
 refine J.exit ?_
 repeat first|refine yH ?_|refine yM rfl ?_|refine yE ?_
 repeat first|apply yX|apply yB
 have hfin:lexL s.data.toList=(xs,0):=by rw[<-hr,Z5h qM];simp[finA,ZeZ]
 refine J.freezeO T3.len hG (e:=Z1u) yV (fun _ h=>h) rfl rfl ?_;refine vQ ?_;refine Jm rfl (Ja rfl (Ja rfl (vS [2,3] ?_)));refine vR ?_;exact JX.ret2sub rfl rfl rfl (by rw[hfin];exact Sub.slOC hG qI) rfl (Sub.isEq (by rw[hfin]))
end Go.Proofs.YtbedigkncjbggaaGreatDoor
set_option maxRecDepth 100000
namespace Go.Proofs.YtbedigkncjbggaaGreatDoor
open Go Go.Vc
abbrev dblQ(l:List UInt8):List UInt8:=repL 39 [39,39] l
def showT(x:T3):List UInt8:=if x.k==3 then Lib.itoa x.n else if x.k==4 then 39::(dblQ x.t.data.toList++[39])else x.t.data.toList
def sepL(r:List UInt8):Prop:=r=[]\/ ∃t,r=32::t
def rt(x:T3):Prop:=∃b t,showT x=b::t/\isSp b=false/\ ∀r,sepL r->stepL (showT x++r)=((x,0),(showT x).length)
def tokO(x:T3):Prop:=rt x/\(x.k=3->x.t=⟨#[]⟩/\0<=x.n/\x.n<=9223372036854775807)/\(x.k=4->x.t.size<=64)/\x.t.size<=2048
def lettersOK(b:UInt8):Bool:=(Lib.upperB (Lib.upperB b)==Lib.upperB b)&&(Lib.upperB (Lib.lowerB b)==Lib.upperB b)&&(Lib.lowerB (Lib.lowerB b)==Lib.lowerB b)&&(wordB (Lib.upperB b)==wordB b)&&(wordB (Lib.lowerB b)==wordB b)&&(letB (Lib.upperB b)==letB b)&&(letB (Lib.lowerB b)==letB b)&&(!(wordB b)|| !(isSp b))&&(!(digB b)|| !(letB b))&&(!(letB b)||wordB b)&&(!(digB b)||wordB b)
theorem ZgH(b:UInt8):lettersOK b=true:=Z78 (p:=lettersOK) (by decide+kernel) b
theorem letters(b:UInt8):Lib.upperB (Lib.upperB b)=Lib.upperB b/\Lib.upperB (Lib.lowerB b)=Lib.upperB b/\Lib.lowerB (Lib.lowerB b)=Lib.lowerB b/\wordB (Lib.upperB b)=wordB b/\wordB (Lib.lowerB b)=wordB b/\letB (Lib.upperB b)=letB b/\letB (Lib.lowerB b)=letB b/\(wordB b=true->isSp b=false)/\(digB b=true->letB b=false)/\(letB b=true->wordB b=true)/\(digB b=true->wordB b=true):=by
 have h:=ZgH b;unfold lettersOK at h;simp only[Bool.and_eq_true,beq_iff_eq,Bool.or_eq_true,Bool.not_eq_true']at h;obtain⟨⟨⟨⟨⟨⟨⟨⟨⟨⟨h1,h2⟩,h3⟩,h4⟩,h5⟩,h6⟩,h7⟩,h8⟩,h9⟩,h10⟩,h11⟩:=h;refine⟨h1,h2,h3,h4,h5,h6,h7,fun h=>?_,fun h=>?_,fun h=>?_,fun h=>?_⟩
 · rcases h8 with h8|h8
   · rw[h]at h8;cases h8
   · exact h8
 · rcases h9 with h9|h9
   · rw[h]at h9;cases h9
   · exact h9
 · rcases h10 with h10|h10
   · rw[h]at h10;cases h10
   · exact h10
 · rcases h11 with h11|h11
   · rw[h]at h11;cases h11
   · exact h11
theorem ZmM(w:List UInt8):Lib.toUpperA (Lib.toUpperA w)=Lib.toUpperA w:=by
 unfold Lib.toUpperA;rw[List.map_map];exact List.map_congr_left fun b _=>(letters b).1
theorem ZlX(w:List UInt8):Lib.toUpperA (Lib.toLowerA w)=Lib.toUpperA w:=by
 unfold Lib.toUpperA Lib.toLowerA;rw[List.map_map];exact List.map_congr_left fun b _=>(letters b).2.1
theorem Zkw(w:List UInt8):Lib.toLowerA (Lib.toLowerA w)=Lib.toLowerA w:=by
 unfold Lib.toLowerA;rw[List.map_map];exact List.map_congr_left fun b _=>(letters b).2.2.1
theorem ZcA{p:UInt8->Bool}(h32:p 32=false){r:List UInt8}(hr:sepL r): ∀w:List UInt8,(∀b∈w,p b=true)->runN p (w++r)=w.length
 |[],_=>by
   rcases hr with rfl|⟨t,rfl⟩
   · rfl
   · show runN p (32::t)=0
     rw[runN,if_neg (by rw[h32];simp)]
 |b::w,h=>by
   show runN p (b::(w++r))=_;rw[runN,if_pos (h b List.mem_cons_self),ZcA h32 hr w fun c hc=>h c (List.mem_cons_of_mem _ hc)]
   rfl
theorem Zhq{b:UInt8}{w r:List UInt8}(hl:letB b=true)(hw: ∀c∈b::w,wordB c=true)(hr:sepL r):stepL ((b::w)++r)=(wordL (b::w),(b::w).length):=by
 have h1:runN wordB ((b::w)++r)=(b::w).length:=ZcA (by rfl) hr _ hw;have h2:((b::w)++r).take (b::w).length=b::w:=List.take_left;rw[show(b::w)++r=b::(w++r)from rfl]at h1 h2 ⊢;rw[stepL,if_pos hl,h1,h2]
theorem ZfO{x:T3}{b:UInt8}{w:List UInt8}(hs:showT x=b::w)(hl:letB b=true)(hw: ∀c∈b::w,wordB c=true)(hx:wordL (b::w)=(x,0)):rt x:=
 ⟨b,w,hs,(letters b).2.2.2.2.2.2.2.1 (hw b List.mem_cons_self),fun r hr=>by rw[hs,Zhq hl hw hr,hx]⟩
theorem Zff{f:UInt8->UInt8}(hf: ∀b,wordB (f b)=wordB b){w:List UInt8}(h: ∀b∈w,wordB b=true): ∀b∈w.map f,wordB b=true:=fun b hb=>by
 obtain⟨c,hc,rfl⟩:=List.mem_map.1 hb;rw[hf];exact h c hc
theorem Zk1{b:UInt8}{w:List UInt8}(hl:letB b=true)(hw: ∀c∈b::w,wordB c=true)(hsz:(b::w).length<=2048)(he:(wordL (b::w)).2=0):tokO (wordL (b::w)).1:=by
 by_cases hc:Lib.contains kwB.data.toList (padL (Lib.toUpperA (b::w)))=true
 · have e:wordL (b::w)=(⟨1,bl (Lib.toUpperA (b::w)),0⟩,0):=by unfold wordL;rw[if_pos hc]
   rw[e];refine⟨ZfO (b:=Lib.upperB b) (w:=Lib.toUpperA w) (by show(bl (Lib.toUpperA (b::w))).data.toList=_;rw[Z1O];rfl) (by rw[(letters b).2.2.2.2.2.1];exact hl) (Zff (fun c=>(letters c).2.2.2.1) hw) ?_,fun h=>(by simp at h),fun h=>(by simp at h),by show(bl _).size<=2048;rw[Z29,Zco];exact hsz⟩;show wordL (Lib.toUpperA (b::w))=_;unfold wordL;rw[ZmM,if_pos hc]
 · by_cases h32:32<((b::w).length:Int)
   · have e:wordL (b::w)=(t3D,30):=by unfold wordL;rw[if_neg hc,if_pos (decide_eq_true h32)]
     rw[e]at he;cases he
   · have e:wordL (b::w)=(⟨2,bl (Lib.toLowerA (b::w)),0⟩,0):=by unfold wordL;rw[if_neg hc,if_neg (by rw[decide_eq_false h32];simp)]
     rw[e];refine⟨ZfO (b:=Lib.lowerB b) (w:=Lib.toLowerA w) (by show(bl (Lib.toLowerA (b::w))).data.toList=_;rw[Z1O];rfl) (by rw[(letters b).2.2.2.2.2.2.1];exact hl) (Zff (fun c=>(letters c).2.2.2.2.1) hw) ?_,fun h=>(by simp at h),fun h=>(by simp at h),by show(bl _).size<=2048;rw[Z29,Ze7];exact hsz⟩;show wordL (Lib.toLowerA (b::w))=_;unfold wordL;rw[ZlX,if_neg hc,Ze7,if_neg (by rw[decide_eq_false h32];simp),Zkw]
theorem Zhp{d:Nat}(h:d<10):((UInt8.ofNat (48+d)).toNat:Int)=48+d:=by
 rw[UInt8.toNat_ofNat_of_lt' (by show 48+d<256;omega)]
 omega
theorem ZfZ{d:Nat}(h:d<10):digB (UInt8.ofNat (48+d))=true:=by
 unfold digB digitF;rw[Zhp h]
 simp
 omega
theorem Zkd(u:Nat): ∀b∈Lib.decDigits u,digB b=true:=by
 induction u using Nat.strongRecOn with
 |_ u ih=>
   intro b hb;rw[Lib.decDigits]at hb
   split at hb
   · rename_i h
     rw[List.mem_singleton]at hb;subst hb;exact ZfZ h
   · rename_i h
     rcases List.mem_append.1 hb with hb|hb
     · exact ih (u / 10) qM b hb
     · rw[List.mem_singleton]at hb
       subst hb;exact ZfZ qM
theorem Zlw(u:Nat): ∃b t,Lib.decDigits u=b::t:=by
 cases h:Lib.decDigits u with
 |cons b t=>exact⟨b,t,rfl⟩
 |nil=>
   rw[Lib.decDigits]at h
   split at h
   · cases h
   · simp at h
theorem Zfg{u:Nat}{m:Int}(h:(u:Int)<=9223372036854775807)(hm:m=(u / 10:Nat)):numStep (m,0) (UInt8.ofNat (48+u % 10))=((u:Int),0):=by
 have hd:u % 10<10:=Nat.mod_lt _ qD;have e0:((UInt8.ofNat (48+u % 10)).toNat:Int)=48+(u % 10:Nat):=Zhp hd;have e8:IntKind.u8.wrap (((UInt8.ofNat (48+u % 10)).toNat:Int)-48)=((u % 10:Nat):Int):=by rw[e0,w8];omega
 have ei:IntKind.i64.wrap ((u % 10:Nat):Int)=((u % 10:Nat):Int):=Z1H qM qM;have em:IntKind.i64.wrap (9223372036854775807-((u % 10:Nat):Int))=9223372036854775807-((u % 10:Nat):Int):=Z1H qM qM;have eq:IntKind.i64.wrap ((9223372036854775807-((u % 10:Nat):Int)).tdiv 10)=(9223372036854775807-((u % 10:Nat):Int)) / 10:=by
   rw[Int.tdiv_eq_ediv_of_nonneg qM];exact Z1H qM qM
 have e2:IntKind.i64.wrap (IntKind.i64.wrap (10*m)+((u % 10:Nat):Int))=u:=by
   rw[Z1H (n:=10*m) qM qM,Z1H qM qM]
   omega
 unfold numStep;rw[e8,ei,em,eq];simp only;rw[e2,if_neg (by rw[decide_eq_false qM];simp)]
theorem Zj3(u:Nat)(h:(u:Int)<=9223372036854775807):(Lib.decDigits u).foldl numStep (0,0)=((u:Int),0):=by
 induction u using Nat.strongRecOn with
 |_ u ih=>
   rw[Lib.decDigits]
   split
   · rename_i h10
     have:=Zfg (u:=u) (m:=0) h (by rw[Nat.div_eq_of_lt h10];rfl);rw[Nat.mod_eq_of_lt h10]at this;exact this
   · rename_i h10
     rw[List.foldl_append,ih (u / 10) qM qM];exact Zfg h rfl
theorem Zmd{m:Int}(h0:0<=m)(h1:m<=9223372036854775807):rt ⟨3,⟨#[]⟩,m⟩:=by
 obtain⟨u,rfl⟩: ∃u:Nat,m=u:=⟨m.toNat,by omega⟩;have hs:showT ⟨3,⟨#[]⟩,(u:Int)⟩=Lib.decDigits u:=by
   show Lib.itoa (u:Int)=_;unfold Lib.itoa;rw[if_neg qM]
   rfl
 obtain⟨b,t,hb⟩:=Zlw u;have hd:=Zkd u;refine⟨b,t,hs.trans hb,?_,fun r hr=>?_⟩
 · have:=hd b (by rw[hb];exact List.mem_cons_self)
   exact(letters b).2.2.2.2.2.2.2.1 ((letters b).2.2.2.2.2.2.2.2.2.2 this)
 · rw[hs]
   have hdb:digB b=true:=hd b (by rw[hb];exact List.mem_cons_self);have hlb:letB b=false:=(letters b).2.2.2.2.2.2.2.2.1 hdb;have hrun:runN digB (Lib.decDigits u++r)=(Lib.decDigits u).length:=ZcA (by rfl) hr _ hd;have hst:stepL (Lib.decDigits u++r)=(numL (Lib.decDigits u++r),runN digB (Lib.decDigits u++r)):=by
     rw[hb];show stepL (b::(t++r))=_;rw[stepL,if_neg (by rw[hlb];simp),if_pos hdb]
     rfl
   have hh:headP letB r=false:=by
     rcases hr with rfl|⟨t,rfl⟩<;>rfl
   have hn:numL (Lib.decDigits u++r)=(⟨3,⟨#[]⟩,(u:Int)⟩,0):=by
     unfold numL numE;rw[hrun,List.drop_left,List.take_left,hh,Zj3 u h1]
     rfl
   rw[hst,hn,hrun]
theorem Zlk{b:UInt8}{l:List UInt8}(he:(numL (b::l)).2=0):tokO (numL (b::l)).1:=by
 have hl:headP letB ((b::l).drop (runN digB (b::l)))=false:=by
   cases h:headP letB ((b::l).drop (runN digB (b::l)))
   · rfl
   · rw[ZfV h]at he
     cases he
 have h:=ZaL ((b::l).take (runN digB (b::l))) 0 (Z75 digB (b::l)) (Int.le_refl _) qD;have hr:=ZcU hl;unfold refNum at hr;cases hg:refG ((b::l).take (runN digB (b::l))) 0 with
 |none=>
   rw[hg]at hr;rw[hr]at he;cases he
 |some v=>
   rw[hg]at hr;obtain⟨h1,h2,h3⟩:=h.2 v hg;have e:numL (b::l)=(⟨3,⟨#[]⟩,v⟩,0):=by
     rw[hr];simp only[if_true];rw[Z1H qM qM]
   rw[e];exact⟨Zmd h2 h3,fun _=>⟨rfl,h2,h3⟩,fun h=>(by simp at h),Nat.zero_le _⟩
theorem Zbu{r:List UInt8}(hr:sepL r): ∀a c:List UInt8,textL (dblQ a++39::r) c=(endT (c++a),(dblQ a).length+1)
 |[],c=>by
   show textL (39::r) c=_;rw[List.append_nil];rcases hr with rfl|⟨t,rfl⟩<;>rfl
 |x::a,c=>by
   by_cases hx:(x==39)=true
   · have e:x=39:=by simpa using hx
     subst e;have ih:=Zbu hr a (c++[39]);show textL (39::39::(dblQ a++39::r)) c=_;have h2:(dblQ (39::a)).length=(dblQ a).length+2:=by rw[dblQ,Z6I,if_pos (show((39:UInt8)==39)=true by decide),List.length_append];exact Nat.add_comm 2 _
     rw[textL,if_pos (show((39:UInt8)==39)=true by decide),if_neg qD,ih,h2]
     simp
   · have hx:(x==39)=false:=by simpa using hx
     have e:dblQ (x::a)=x::dblQ a:=by rw[dblQ,Z6I,if_neg (by rw[hx];simp)];rfl
     rw[e];show textL (x::(dblQ a++39::r)) c=_;rw[ZbV _ _ _ hx,Zbu hr a (c++[x])]
     simp
theorem ZkH{l:List UInt8}(he:(textL l []).1.2=0):tokO (textL l []).1.1:=by
 obtain⟨q1,q2⟩:=Z7d l [];cases hq:quoF l []with
 |none=>rw[q1 hq]at he;cases he
 |some r=>
   have e:=q2 r hq
   by_cases h64:64<(r.1.length:Int)
   · have:endT r.1=(t3D,30):=by unfold endT;rw[if_pos (decide_eq_true h64)]
     rw[e,this]at he;cases he
   · have e2:endT r.1=(⟨4,bl r.1,0⟩,0):=by unfold endT;rw[if_neg (by rw[decide_eq_false h64];simp)]
     rw[e,e2];have hs:showT ⟨4,bl r.1,0⟩=39::(dblQ r.1++[39]):=by
       show 39::(dblQ (bl r.1).data.toList++[39])=_;rw[Z1O]
     refine⟨⟨39,_,hs,by rfl,fun t ht=>?_⟩,fun h=>(by simp at h),fun _=>by show(bl r.1).size<=64;rw[Z29];omega,by show(bl r.1).size<=2048;rw[Z29];omega⟩;rw[hs];have h3:=Zbu ht r.1 [];have e3:(39::(dblQ r.1++[39]))++t=39::(dblQ r.1++39::t):=by simp
     rw[e3,stepL,if_neg (by decide+kernel),if_neg (by decide+kernel),if_pos (show((39:UInt8)==39)=true by decide),h3,List.nil_append,e2]
     simp
theorem Zla{b:UInt8}{l:List UInt8}(hl:letB b=false)(hd:digB b=false)(hq:(b==39)=false)(hsp:isSp b=false)(he:(signL (b::l)).1.2=0):tokO (signL (b::l)).1.1:=by
 have hst: ∀t,stepL (b::t)=signL (b::t):=fun t=>by
   rw[stepL,if_neg (by rw[hl];simp),if_neg (by rw[hd];simp),if_neg (by rw[hq];simp)]
 by_cases h2:tryL (b::l) 2=true
 · cases l with
   |nil=>unfold tryL at h2;simp at h2
   |cons c l=>
     have e:signL (b::c::l)=((⟨5,bl [b,c],0⟩,0),2):=by unfold signL;rw[if_pos h2];rfl
     rw[e];have ht: ∀t,tryL (b::c::t) 2=tryL [b,c] 2:=fun t=>by unfold tryL;simp
     refine⟨⟨b,[c],rfl,hsp,fun r _=>?_⟩,fun h=>(by simp at h),fun h=>(by simp at h),by show(bl [b,c]).size<=2048;rw[Z29];simp⟩;show stepL (b::c::r)=_;rw[hst];unfold signL;rw[if_pos (by rw[ht,<-ht l];exact h2)]
     rfl
 · have h2:tryL (b::l) 2=false:=by simpa using h2
   by_cases h1:tryL (b::l) 1=true
   · have e:signL (b::l)=((⟨5,bl [b],0⟩,0),1):=by unfold signL;rw[if_neg (by rw[h2];simp),if_pos h1];rfl
     rw[e];have ht: ∀t,tryL (b::t) 1=tryL [b] 1:=fun t=>by unfold tryL;simp
     refine⟨⟨b,[],rfl,hsp,fun r hr=>?_⟩,fun h=>(by simp at h),fun h=>(by simp at h),by show(bl [b]).size<=2048;rw[Z29];simp⟩;show stepL (b::r)=_;have h3:tryL (b::r) 2=false:=by
       rcases hr with rfl|⟨t,rfl⟩
       · unfold tryL;simp
       · have:tryL (b::32::t) 2=tryL [b,32] 2:=by unfold tryL;simp
         rw[this,Ziz (Zem hsp)]
         simp
     rw[hst];unfold signL;rw[if_neg (by rw[h3];simp),if_pos (by rw[ht,<-ht l];exact h1)]
     rfl
   · have e:signL (b::l)=((t3D,30),0):=by unfold signL;rw[if_neg (by rw[h2];simp),if_neg h1]
     rw[e]at he;cases he
theorem Zk2{b:UInt8}{l:List UInt8}(hsp:isSp b=false)(hsz:(b::l).length<=2048)(he:(stepL (b::l)).1.2=0):tokO (stepL (b::l)).1.1:=by
 by_cases h1:letB b=true
 · have hb:wordB b=true:=(letters b).2.2.2.2.2.2.2.2.2.1 h1
   have hrun:runN wordB (b::l)=runN wordB l+1:=by rw[runN,if_pos hb]
   have hst:stepL (b::l)=(wordL (b::l.take (runN wordB l)),runN wordB (b::l)):=by
     rw[stepL,if_pos h1,hrun,List.take_succ_cons]
   rw[hst]at he ⊢;refine Zk1 h1 (fun c hc=>Z75 wordB (b::l) c (by rw[hrun,List.take_succ_cons];exact hc)) ?_ he;simp only[List.length_cons,List.length_take]at hsz ⊢
   omega
 have h1:letB b=false:=by simpa using h1
 by_cases h2:digB b=true
 · have hst:stepL (b::l)=(numL (b::l),runN digB (b::l)):=by rw[stepL,if_neg (by rw[h1];simp),if_pos h2]
   rw[hst]at he ⊢;exact Zlk he
 have h2:digB b=false:=by simpa using h2
 by_cases h3:(b==39)=true
 · have hst:stepL (b::l)=((textL l []).1,(textL l []).2+1):=by rw[stepL,if_neg (by rw[h1];simp),if_neg (by rw[h2];simp),if_pos h3]
   rw[hst]at he ⊢;exact ZkH he
 have h3:(b==39)=false:=by simpa using h3
 have hst:stepL (b::l)=signL (b::l):=by rw[stepL,if_neg (by rw[h1];simp),if_neg (by rw[h2];simp),if_neg (by rw[h3];simp)]
 rw[hst]at he ⊢;exact Zla h1 h2 h3 hsp he
theorem Zgw: ∀(l:List UInt8) {b:UInt8} {r:List UInt8},l.drop (runN isSp l)=b::r->isSp b=false
 |[],_,_,h=>by simp[runN]at h
 |c::l,b,r,h=>by
   by_cases hc:isSp c=true
   · rw[runN,if_pos hc,List.drop_succ_cons]at h
     exact Zgw l h
   · rw[runN,if_neg hc,List.drop_zero]at h
     injection h with h1 h2
     subst h1
     simpa using hc
theorem Zg2: ∀(f:Nat) (l:List UInt8),l.length<=2048->∀x∈(allG f l).1,tokO x
 |0,_,_,x,h=>by cases h
 |f+1,l,hl,x,h=>by
   unfold allG at h;cases hd:l.drop (runN isSp l)with
   |nil=>rw[hd]at h;cases h
   |cons b r=>
     rw[hd]at h;dsimp only at h;have hlen:(b::r).length<=2048:=by rw[<-hd,List.length_drop];omega
     split at h
     · cases h
     · rename_i he
       split at h
       · cases h
       · rcases List.mem_cons.1 h with rfl|h
         · exact Zk2 (Zgw l hd) hlen (by simpa using he)
         · exact Zg2 f _ (by rw[List.length_drop];omega) x h
theorem ZjX(l:List UInt8): ∀x∈(lexL l).1,tokO x:=by
 unfold lexL
 split
 · intro x h;cases h
 · rename_i h
   exact Zg2 _ l (by simp at h;omega)
theorem Zgo: ∀(k u:Nat),u<10 ^ (k+1)->Lib.nDigits u<=k+1
 |0,u,h=>by rw[Lib.nDigits_small (by simpa using h)];exact Nat.le_refl _
 |k+1,u,h=>by
   by_cases h10:u<10
   · rw[Lib.nDigits_small h10];omega
   · rw[Lib.nDigits_big h10]
     have:=Zgo k (u / 10) (by rw[Nat.pow_succ]at h;omega)
     omega
theorem Zbo{n:Int}(h0:0<=n)(h1:n<=9223372036854775807):(Lib.itoa n).length<=19:=by
 unfold Lib.itoa;rw[if_neg qM,Lib.decDigits_length];exact Zgo 18 _ (by have:(10:Nat) ^ (18+1)=10000000000000000000:=qD;omega)
end Go.Proofs.YtbedigkncjbggaaGreatDoor
namespace Go.Pz
open Go Go.Vc
abbrev agv(cs:List Value):Value:=.agg cs.toArray
theorem Zdk{x:Ex}{cs:List Value}{w:World}(h:ExR x (.agg cs.toArray) w): ∃k vk vn vs tb nm sl a len cap,cs=exCells k vk vn vs tb nm sl a len cap:=by
 obtain⟨k,vk,vn,vs,tb,nm,sl,a,len,cap,e⟩:=Z6l h;exact⟨k,vk,vn,vs,tb,nm,sl,a,len,cap,Z54 e⟩
theorem Z7B{x:Ex}{cs:List Value}{w:World}(h:ExR x (.agg cs.toArray) w):cs.length=8:=by
 obtain⟨k,vk,vn,vs,tb,nm,sl,a,len,cap,rfl⟩:=Zdk h;rfl
theorem ZbH{x:Ex}{cs:List Value}{w:World}(h:ExR x (.agg cs.toArray) w): ∀u∈cs,u.oneCell'=true:=by
 obtain⟨k,vk,vn,vs,tb,nm,sl,a,len,cap,rfl⟩:=Zdk h;intro u hu;simp only[exCells,List.mem_cons,List.mem_nil_iff,or_false]at hu;rcases hu with rfl|rfl|rfl|rfl|rfl|rfl|rfl|rfl<;>rfl
def exE:Enc Ex where
 sz:=8
 R x cs w:=ExR x (.agg cs.toArray) w
 v:=agv
 pos:=by decide
 len:=Z7B
 one:=ZbH
 nu h:=by
   obtain⟨k,n,h0⟩:=Z5E h;exact⟨_,h0,by simp[undef]⟩
 inj _ _ h:=Z54 h
def itE:Enc Itm where
 sz:=9
 R x cs w:=∃es,cs= .bool x.all::es/\ExR x.ex (.agg es.toArray) w
 v:=agv
 pos:=by decide
 len:=by rintro x cs w ⟨es,rfl,h⟩;simp[Z7B h]
 one:=by
   rintro x cs w ⟨es,rfl,h⟩ u hu;rcases List.mem_cons.1 hu with rfl|hu
   · rfl
   · exact ZbH h u hu
 nu:=by rintro x cs w ⟨es,rfl,h⟩;exact⟨_,rfl,by simp[undef]⟩
 inj _ _ h:=Z54 h
def kyE:Enc Ky where
 sz:=9
 R x cs w:=∃es,cs=es++[.bool x.desc]/\ExR x.ex (.agg es.toArray) w
 v:=agv
 pos:=by decide
 len:=by rintro x cs w ⟨es,rfl,h⟩;simp[Z7B h]
 one:=by
   rintro x cs w ⟨es,rfl,h⟩ u hu;rcases List.mem_append.1 hu with hu|hu
   · exact ZbH h u hu
   · rw[List.mem_singleton.1 hu];rfl
 nu:=by
   rintro x cs w ⟨es,rfl,h⟩;obtain⟨k,n,h0⟩:=Z5E h;exact⟨_,by rw[List.getElem?_append_left (by rw[Z7B h];decide)];exact h0,by simp[undef]⟩
 inj _ _ h:=Z54 h
def Col.cells(c:Col):List Value:=[.string c.nm,.int .i64 c.ty,.bool c.nn,.bool c.un]
def coE:Enc Col where
 sz:=4
 R x cs _:=cs=x.cells
 v:=agv
 pos:=by decide
 len:=by rintro x cs w rfl;rfl
 one:=by
   rintro x cs w rfl u hu;simp only[Col.cells,List.mem_cons,List.mem_nil_iff,or_false]at hu;rcases hu with rfl|rfl|rfl|rfl<;>rfl
 nu:=by rintro x cs w rfl;exact⟨_,rfl,by simp[undef]⟩
 inj _ _ h:=Z54 h
abbrev hdv(cs:List Value):Value:=cs.headD undef
theorem Zg5{cs cs':List Value}(h:cs.length=1)(h':cs'.length=1)(e:hdv cs=hdv cs'):cs=cs':=by
 match cs,cs',h,h' with
 |[a],[b],_,_=>simpa [hdv] using e
def stE:Enc ByteArray where
 sz:=1
 R x cs _:=cs=[.string x]
 v:=hdv
 pos:=by decide
 len:=by rintro x cs w rfl;rfl
 one:=by rintro x cs w rfl u hu;rw[List.mem_singleton.1 hu];rfl
 nu:=by rintro x cs w rfl;exact⟨_,rfl,by simp[undef]⟩
 inj:=Zg5
theorem Z8E{xs:List Ex}{v:Value}{w:World}(h:ExsR xs v w): ∃a len cap,v= .slice a len cap:=by
 obtain⟨a,len,cap,e,_⟩:=h;exact⟨a,len,cap,e⟩
def rwE:Enc (List Ex) where
 sz:=1
 R x cs w:=∃v,cs=[v]/\ExsR x v w
 v:=hdv
 pos:=by decide
 len:=by rintro x cs w ⟨v,rfl,h⟩;rfl
 one:=by
   rintro x cs w ⟨v,rfl,h⟩ u hu;obtain⟨a,len,cap,rfl⟩:=Z8E h;rw[List.mem_singleton.1 hu];rfl
 nu:=by
   rintro x cs w ⟨v,rfl,h⟩;obtain⟨a,len,cap,rfl⟩:=Z8E h;exact⟨_,rfl,by simp[undef]⟩
 inj:=Zg5
def srE:Enc Src where
 sz:=3
 R x cs w:=∃v,cs=[.string x.tb,.string x.nm,v]/\ExsR x.on v w
 v:=agv
 pos:=by decide
 len:=by rintro x cs w ⟨v,rfl,h⟩;rfl
 one:=by
   rintro x cs w ⟨v,rfl,h⟩ u hu;obtain⟨a,len,cap,rfl⟩:=Z8E h;simp only[List.mem_cons,List.mem_nil_iff,or_false]at hu;rcases hu with rfl|rfl|rfl<;>rfl
 nu:=by rintro x cs w ⟨v,rfl,h⟩;exact⟨_,rfl,by simp[undef]⟩
 inj _ _ h:=Z54 h
theorem Cel.kids{ps:List (Cel exE)}{a:Option Addr}{len:Nat}{w:World}(h:RowG Cel.cs 8 ps a len w)(hF:CelF exE ps w):KidsR (ps.map Cel.x) a len w:=by
 obtain⟨hl,hk⟩:=h;refine⟨by simp[hl],fun hn=>?_⟩;obtain⟨b,o,ha,hr⟩:=hk hn;refine⟨b,o,ha,Z7Y (ps.map Cel.x) (ps.map Cel.cs) b o w (by simp) (fun i x cs hx hc=>?_) fun j v hj=>?_⟩
 · rw[List.getElem?_map]at hx hc
   cases hp:ps[i]? with
   |none=>rw[hp]at hx;cases hx
   |some p=>
     rw[hp]at hx hc;injection hx with hx
     injection hc with hc
     subst hx hc;exact⟨p.h,hF p (List.mem_of_getElem? hp)⟩
 · rw[<-List.flatMap_def]at hj
   obtain⟨x,hx,hu⟩:=Zcq (enc:=Cel.cs) (sz:=8) (fun x:Cel exE=>x.h) qM hj;have:=hr _ x hx _ v hu
   rwa [show o+8*(j / 8)+j % 8=o+j by rw[Nat.add_assoc,Nat.div_add_mod]]at this
theorem SlE.exs{G:GoS}{xs:List Ex}{v:Value}{w:World}(h:SlE exE G xs v w):ExsR xs v w:=by
 obtain⟨ps,a,len,cap,rfl,rfl,_,h4,h5,_⟩:=h;exact⟨a,len,cap,rfl,Cel.kids h4 h5⟩
theorem ZmR(x:Ex)(v:Value)(w:World):exE.T x v w↔ExR x v w:=by
 constructor
 · rintro⟨cs,rfl,h⟩;exact h
 · intro h
   obtain⟨k,vk,vn,vs,tb,nm,sl,a,len,cap,e⟩:=Z6l h;exact⟨_,e,by show ExR x (Value.agg (exCells k vk vn vs tb nm sl a len cap).toArray) w;rw[<-e];exact h⟩
theorem Z8Z(x:Ex):Ty.rep (ExR x)=Ty.rep (exE.T x):=by
 congr 1;funext v w;exact propext (ZmR x v w).symm
end Go.Pz
set_option maxRecDepth 20000
namespace Go.Proofs.YtbedigkncjbggaaGreatDoor
open Go Go.Vc Go.Shelf
def Zbe:Go.Shelf.Ren:=⟨fun|156=>44|165=>80|166=>81|169=>82|240=>129|241=>130|276=>147|277=>148|n=>n,fun|31=>24|9=>9|3=>3|4=>4|0=>0|20=>20|72=>118|76=>122|70=>116|37=>37|75=>121|127=>160|164=>172|5=>5|80=>72|n=>n,fun|n=>n⟩
theorem lays156:Go.Proofs.Lays.n156 Tryz.prog Zbe:={
 mixed:=by kernel_rfl
 f156:=Tryz.func44.trans (congrArg some qK)
 f165:=Tryz.func80.trans (congrArg some qK)
 f166:=Tryz.func81.trans (congrArg some qK)
 f169:=Tryz.func82.trans (congrArg some qK)
 f240:=Tryz.func129.trans (congrArg some qK)
 f241:=Tryz.func130.trans (congrArg some qK)
 f276:=Tryz.func147.trans (congrArg some qK)
 f277:=Tryz.func148.trans (congrArg some qK)
 t0:=Tryz.underlying0
 a0:=Tryz.isAgg0
 z0:=Tryz.sizeOf0
 v0:=Tryz.zeroValue0
 t3:=Tryz.underlying3
 a3:=Tryz.isAgg3
 z3:=Tryz.sizeOf3
 v3:=Tryz.zeroValue3
 t4:=Tryz.underlying4
 a4:=Tryz.isAgg4
 z4:=Tryz.sizeOf4
 v4:=Tryz.zeroValue4
 t9:=Tryz.underlying9
 a9:=Tryz.isAgg9
 z9:=Tryz.sizeOf9
 v9:=Tryz.zeroValue9
 t20:=Tryz.underlying20
 a20:=Tryz.isAgg20
 z20:=Tryz.sizeOf20
 v20:=Tryz.zeroValue20
 t31:=Tryz.underlying24
 a31:=Tryz.isAgg24
 z31:=Tryz.sizeOf24
 v31:=Tryz.zeroValue24
 t37:=Tryz.underlying37
 a37:=Tryz.isAgg37
 z37:=Tryz.sizeOf37
 v37:=Tryz.zeroValue37
 t70:=Tryz.underlying116
 a70:=Tryz.isAgg116
 z70:=Tryz.sizeOf116
 v70:=Tryz.zeroValue116
 t72:=Tryz.underlying118
 a72:=Tryz.isAgg118
 z72:=Tryz.sizeOf118
 v72:=Tryz.zeroValue118
 t75:=Tryz.underlying121
 a75:=Tryz.isAgg121
 z75:=Tryz.sizeOf121
 v75:=Tryz.zeroValue121
 t76:=Tryz.underlying122
 a76:=Tryz.isAgg122
 z76:=Tryz.sizeOf122
 v76:=Tryz.zeroValue122
 t127:=Tryz.underlying160
 a127:=Tryz.isAgg160
 z127:=Tryz.sizeOf160
 v127:=Tryz.zeroValue160
 t164:=Tryz.underlying172
 a164:=Tryz.isAgg172
 z164:=Tryz.sizeOf172
 v164:=Tryz.zeroValue172}
theorem extra156:Builder.Extra Tryz.prog Zbe:={
 sizeBuilder:=by kernel_rfl
 liesBuilder:=by kernel_rfl
 t5:=Tryz.underlying5
 a5:=Tryz.isAgg5
 z5:=Tryz.sizeOf5
 v5:=Tryz.zeroValue5
 infoByte:=by kernel_rfl
 cellsByte:=by kernel_rfl
 sizeByte:=by kernel_rfl
 neB5:=by decide}
open Go.RowKit in
def Zmv:Go.Shelf.Ren:=⟨fun|214=>136|n=>n,fun|4=>4|9=>9|n=>n,fun|n=>n⟩
open Go.RowKit in
def Zfz:Go.Shelf.Ren:=⟨fun|121=>94|214=>136|n=>n,fun|4=>4|9=>9|n=>n,fun|n=>n⟩
theorem lays121:Go.Proofs.Lays.n121 Tryz.prog Zfz:={
 mixed:=by kernel_rfl
 f121:=Tryz.func94.trans (congrArg some qK)
 f214:=Tryz.func136.trans (congrArg some qK)
 t4:=Tryz.underlying4
 a4:=Tryz.isAgg4
 z4:=Tryz.sizeOf4
 v4:=Tryz.zeroValue4
 t9:=Tryz.underlying9
 a9:=Tryz.isAgg9
 z9:=Tryz.sizeOf9
 v9:=Tryz.zeroValue9}
open Go.RowKit in
def ZdV:Go.Shelf.Ren:=⟨fun|171=>90|243=>131|246=>132|283=>149|284=>150|285=>151|286=>152|129=>167|317=>166|318=>168|319=>169|320=>170|337=>179|338=>180|n=>n,fun|3=>3|9=>9|2=>2|4=>4|171=>175|0=>0|53=>136|37=>37|5=>5|173=>178|212=>193|51=>194|20=>20|213=>195|46=>161|232=>225|233=>226|n=>n,fun|17=>2|18=>7|19=>8|n=>n⟩
theorem laysM171:Go.Proofs.LaysM.n171 Tryz.prog ZdV:={
 mixed:=by kernel_rfl
 f129:=Tryz.func167.trans (congrArg some qK)
 f171:=Tryz.func90.trans (congrArg some qK)
 f243:=Tryz.func131.trans (congrArg some qK)
 f246:=Tryz.func132.trans (congrArg some qK)
 f283:=Tryz.func149.trans (congrArg some qK)
 f284:=Tryz.func150.trans (congrArg some qK)
 f285:=Tryz.func151.trans (congrArg some qK)
 f286:=Tryz.func152.trans (congrArg some qK)
 f317:=Tryz.func166.trans (congrArg some qK)
 f318:=Tryz.func168.trans (congrArg some qK)
 f319:=Tryz.func169.trans (congrArg some qK)
 f320:=Tryz.func170.trans (congrArg some qK)
 f337:=Tryz.func179.trans (congrArg some qK)
 f338:=Tryz.func180.trans (congrArg some qK)
 t0:=Tryz.underlying0
 a0:=Tryz.isAgg0
 z0:=Tryz.sizeOf0
 v0:=Tryz.zeroValue0
 t2:=Tryz.underlying2
 a2:=Tryz.isAgg2
 z2:=Tryz.sizeOf2
 v2:=Tryz.zeroValue2
 t3:=Tryz.underlying3
 a3:=Tryz.isAgg3
 z3:=Tryz.sizeOf3
 v3:=Tryz.zeroValue3
 t4:=Tryz.underlying4
 a4:=Tryz.isAgg4
 z4:=Tryz.sizeOf4
 v4:=Tryz.zeroValue4
 t5:=Tryz.underlying5
 a5:=Tryz.isAgg5
 z5:=Tryz.sizeOf5
 v5:=Tryz.zeroValue5
 t9:=Tryz.underlying9
 a9:=Tryz.isAgg9
 z9:=Tryz.sizeOf9
 v9:=Tryz.zeroValue9
 t20:=Tryz.underlying20
 a20:=Tryz.isAgg20
 z20:=Tryz.sizeOf20
 v20:=Tryz.zeroValue20
 t37:=Tryz.underlying37
 a37:=Tryz.isAgg37
 z37:=Tryz.sizeOf37
 v37:=Tryz.zeroValue37
 t46:=Tryz.underlying161
 a46:=Tryz.isAgg161
 z46:=Tryz.sizeOf161
 v46:=Tryz.zeroValue161
 t51:=Tryz.underlying194
 a51:=Tryz.isAgg194
 z51:=Tryz.sizeOf194
 v51:=Tryz.zeroValue194
 t53:=Tryz.underlying136
 a53:=Tryz.isAgg136
 z53:=Tryz.sizeOf136
 v53:=Tryz.zeroValue136
 t171:=Tryz.underlying175
 a171:=Tryz.isAgg175
 z171:=Tryz.sizeOf175
 v171:=Tryz.zeroValue175
 t173:=Tryz.underlying178
 a173:=Tryz.isAgg178
 z173:=Tryz.sizeOf178
 v173:=Tryz.zeroValue178
 t212:=Tryz.underlying193
 a212:=Tryz.isAgg193
 z212:=Tryz.sizeOf193
 v212:=Tryz.zeroValue193
 t213:=Tryz.underlying195
 a213:=Tryz.isAgg195
 z213:=Tryz.sizeOf195
 t232:=Tryz.underlying225
 a232:=Tryz.isAgg225
 z232:=Tryz.sizeOf225
 v232:=Tryz.zeroValue225
 t233:=Tryz.underlying226
 a233:=Tryz.isAgg226
 z233:=Tryz.sizeOf226
 v233:=Tryz.zeroValue226
 g17:=by kernel_rfl
 g18:=by kernel_rfl
 g19:=by kernel_rfl
 i0:=by kernel_rfl
 i2:=by kernel_rfl
 i3:=by kernel_rfl
 i4:=by kernel_rfl
 i5:=by kernel_rfl
 i9:=by kernel_rfl
 i20:=by kernel_rfl
 i37:=by kernel_rfl
 i46:=by kernel_rfl
 i51:=by kernel_rfl
 i53:=by kernel_rfl
 i171:=by kernel_rfl
 i173:=by kernel_rfl
 i212:=by kernel_rfl
 i232:=by kernel_rfl
 i233:=by kernel_rfl
 m17:=by kernel_rfl
 m18:=by kernel_rfl
 m19:=by kernel_rfl}
open Go.RowKit Go.Sort Go.Lib in
def ZdT:Go.Shelf.Ren:=⟨fun|173=>92|246=>132|283=>149|284=>150|285=>151|286=>152|129=>167|317=>166|318=>168|319=>169|320=>170|337=>179|338=>180|n=>n,fun|2=>2|3=>3|9=>9|4=>4|171=>175|0=>0|53=>136|37=>37|5=>5|173=>178|212=>193|51=>194|20=>20|213=>195|46=>161|232=>225|233=>226|n=>n,fun|17=>2|18=>7|19=>8|n=>n⟩
theorem laysM173:Go.Proofs.LaysM.n173 Tryz.prog ZdT:={
 mixed:=by kernel_rfl
 f129:=Tryz.func167.trans (congrArg some qK)
 f173:=Tryz.func92.trans (congrArg some qK)
 f246:=Tryz.func132.trans (congrArg some qK)
 f283:=Tryz.func149.trans (congrArg some qK)
 f284:=Tryz.func150.trans (congrArg some qK)
 f285:=Tryz.func151.trans (congrArg some qK)
 f286:=Tryz.func152.trans (congrArg some qK)
 f317:=Tryz.func166.trans (congrArg some qK)
 f318:=Tryz.func168.trans (congrArg some qK)
 f319:=Tryz.func169.trans (congrArg some qK)
 f320:=Tryz.func170.trans (congrArg some qK)
 f337:=Tryz.func179.trans (congrArg some qK)
 f338:=Tryz.func180.trans (congrArg some qK)
 t0:=Tryz.underlying0
 a0:=Tryz.isAgg0
 z0:=Tryz.sizeOf0
 v0:=Tryz.zeroValue0
 t2:=Tryz.underlying2
 a2:=Tryz.isAgg2
 z2:=Tryz.sizeOf2
 v2:=Tryz.zeroValue2
 t3:=Tryz.underlying3
 a3:=Tryz.isAgg3
 z3:=Tryz.sizeOf3
 v3:=Tryz.zeroValue3
 t4:=Tryz.underlying4
 a4:=Tryz.isAgg4
 z4:=Tryz.sizeOf4
 v4:=Tryz.zeroValue4
 t5:=Tryz.underlying5
 a5:=Tryz.isAgg5
 z5:=Tryz.sizeOf5
 v5:=Tryz.zeroValue5
 t9:=Tryz.underlying9
 a9:=Tryz.isAgg9
 z9:=Tryz.sizeOf9
 v9:=Tryz.zeroValue9
 t20:=Tryz.underlying20
 a20:=Tryz.isAgg20
 z20:=Tryz.sizeOf20
 v20:=Tryz.zeroValue20
 t37:=Tryz.underlying37
 a37:=Tryz.isAgg37
 z37:=Tryz.sizeOf37
 v37:=Tryz.zeroValue37
 t46:=Tryz.underlying161
 a46:=Tryz.isAgg161
 z46:=Tryz.sizeOf161
 v46:=Tryz.zeroValue161
 t51:=Tryz.underlying194
 a51:=Tryz.isAgg194
 z51:=Tryz.sizeOf194
 v51:=Tryz.zeroValue194
 t53:=Tryz.underlying136
 a53:=Tryz.isAgg136
 z53:=Tryz.sizeOf136
 v53:=Tryz.zeroValue136
 t171:=Tryz.underlying175
 a171:=Tryz.isAgg175
 z171:=Tryz.sizeOf175
 v171:=Tryz.zeroValue175
 t173:=Tryz.underlying178
 a173:=Tryz.isAgg178
 z173:=Tryz.sizeOf178
 v173:=Tryz.zeroValue178
 t212:=Tryz.underlying193
 a212:=Tryz.isAgg193
 z212:=Tryz.sizeOf193
 v212:=Tryz.zeroValue193
 t213:=Tryz.underlying195
 a213:=Tryz.isAgg195
 z213:=Tryz.sizeOf195
 t232:=Tryz.underlying225
 a232:=Tryz.isAgg225
 z232:=Tryz.sizeOf225
 v232:=Tryz.zeroValue225
 t233:=Tryz.underlying226
 a233:=Tryz.isAgg226
 z233:=Tryz.sizeOf226
 v233:=Tryz.zeroValue226
 g17:=by kernel_rfl
 g18:=by kernel_rfl
 g19:=by kernel_rfl
 i0:=by kernel_rfl
 i2:=by kernel_rfl
 i3:=by kernel_rfl
 i4:=by kernel_rfl
 i5:=by kernel_rfl
 i9:=by kernel_rfl
 i20:=by kernel_rfl
 i37:=by kernel_rfl
 i46:=by kernel_rfl
 i51:=by kernel_rfl
 i53:=by kernel_rfl
 i171:=by kernel_rfl
 i173:=by kernel_rfl
 i212:=by kernel_rfl
 i232:=by kernel_rfl
 i233:=by kernel_rfl
 m17:=by kernel_rfl
 m18:=by kernel_rfl
 m19:=by kernel_rfl}
open Go.RowKit Go.Sort Go.Lib in
def Zb8:Go.Shelf.Ren:=⟨fun|155=>95|154=>137|138=>158|165=>80|143=>159|166=>81|197=>153|169=>82|195=>174|218=>175|240=>129|241=>130|219=>176|260=>171|276=>147|277=>148|217=>138|225=>184|224=>185|267=>186|266=>160|314=>190|n=>n,fun|9=>9|3=>3|4=>4|72=>118|0=>0|76=>122|105=>180|21=>21|5=>5|70=>116|20=>20|37=>37|75=>121|127=>160|164=>172|46=>161|119=>187|139=>210|138=>209|146=>231|51=>194|80=>72|n=>n,fun|1=>1|3=>5|4=>6|n=>n⟩
theorem lays155:Go.Proofs.Lays.n155 Tryz.prog Zb8:={
 mixed:=by kernel_rfl
 f138:=Tryz.func158.trans (congrArg some qK)
 f143:=Tryz.func159.trans (congrArg some qK)
 f154:=Tryz.func137.trans (congrArg some qK)
 f155:=Tryz.func95.trans (congrArg some qK)
 f165:=Tryz.func80.trans (congrArg some qK)
 f166:=Tryz.func81.trans (congrArg some qK)
 f169:=Tryz.func82.trans (congrArg some qK)
 f195:=Tryz.func174.trans (congrArg some qK)
 f197:=Tryz.func153.trans (congrArg some qK)
 f217:=Tryz.func138.trans (congrArg some qK)
 f218:=Tryz.func175.trans (congrArg some qK)
 f219:=Tryz.func176.trans (congrArg some qK)
 f224:=Tryz.func185.trans (congrArg some qK)
 f225:=Tryz.func184.trans (congrArg some qK)
 f240:=Tryz.func129.trans (congrArg some qK)
 f241:=Tryz.func130.trans (congrArg some qK)
 f260:=Tryz.func171.trans (congrArg some qK)
 f266:=Tryz.func160.trans (congrArg some qK)
 f267:=Tryz.func186.trans (congrArg some qK)
 f276:=Tryz.func147.trans (congrArg some qK)
 f277:=Tryz.func148.trans (congrArg some qK)
 f314:=Tryz.func190.trans (congrArg some qK)
 t0:=Tryz.underlying0
 a0:=Tryz.isAgg0
 z0:=Tryz.sizeOf0
 v0:=Tryz.zeroValue0
 t3:=Tryz.underlying3
 a3:=Tryz.isAgg3
 z3:=Tryz.sizeOf3
 v3:=Tryz.zeroValue3
 t4:=Tryz.underlying4
 a4:=Tryz.isAgg4
 z4:=Tryz.sizeOf4
 v4:=Tryz.zeroValue4
 t5:=Tryz.underlying5
 a5:=Tryz.isAgg5
 z5:=Tryz.sizeOf5
 v5:=Tryz.zeroValue5
 t9:=Tryz.underlying9
 a9:=Tryz.isAgg9
 z9:=Tryz.sizeOf9
 v9:=Tryz.zeroValue9
 t20:=Tryz.underlying20
 a20:=Tryz.isAgg20
 z20:=Tryz.sizeOf20
 v20:=Tryz.zeroValue20
 t21:=Tryz.underlying21
 a21:=Tryz.isAgg21
 z21:=Tryz.sizeOf21
 v21:=Tryz.zeroValue21
 t37:=Tryz.underlying37
 a37:=Tryz.isAgg37
 z37:=Tryz.sizeOf37
 v37:=Tryz.zeroValue37
 t46:=Tryz.underlying161
 a46:=Tryz.isAgg161
 z46:=Tryz.sizeOf161
 v46:=Tryz.zeroValue161
 t51:=Tryz.underlying194
 a51:=Tryz.isAgg194
 z51:=Tryz.sizeOf194
 v51:=Tryz.zeroValue194
 t70:=Tryz.underlying116
 a70:=Tryz.isAgg116
 z70:=Tryz.sizeOf116
 v70:=Tryz.zeroValue116
 t72:=Tryz.underlying118
 a72:=Tryz.isAgg118
 z72:=Tryz.sizeOf118
 v72:=Tryz.zeroValue118
 t75:=Tryz.underlying121
 a75:=Tryz.isAgg121
 z75:=Tryz.sizeOf121
 v75:=Tryz.zeroValue121
 t76:=Tryz.underlying122
 a76:=Tryz.isAgg122
 z76:=Tryz.sizeOf122
 v76:=Tryz.zeroValue122
 t105:=Tryz.underlying180
 a105:=Tryz.isAgg180
 z105:=Tryz.sizeOf180
 v105:=Tryz.zeroValue180
 t119:=Tryz.underlying187
 a119:=Tryz.isAgg187
 z119:=Tryz.sizeOf187
 t127:=Tryz.underlying160
 a127:=Tryz.isAgg160
 z127:=Tryz.sizeOf160
 v127:=Tryz.zeroValue160
 t138:=Tryz.underlying209
 a138:=Tryz.isAgg209
 z138:=Tryz.sizeOf209
 v138:=Tryz.zeroValue209
 t139:=Tryz.underlying210
 a139:=Tryz.isAgg210
 z139:=Tryz.sizeOf210
 v139:=Tryz.zeroValue210
 t146:=Tryz.underlying231
 a146:=Tryz.isAgg231
 z146:=Tryz.sizeOf231
 v146:=Tryz.zeroValue231
 t164:=Tryz.underlying172
 a164:=Tryz.isAgg172
 z164:=Tryz.sizeOf172
 v164:=Tryz.zeroValue172
 g1:=by kernel_rfl
 g3:=by kernel_rfl
 g4:=by kernel_rfl}
theorem extra155:Builder.Extra Tryz.prog Zb8:={
 sizeBuilder:=by kernel_rfl
 liesBuilder:=by kernel_rfl
 t5:=Tryz.underlying5
 a5:=Tryz.isAgg5
 z5:=Tryz.sizeOf5
 v5:=Tryz.zeroValue5
 infoByte:=by kernel_rfl
 cellsByte:=by kernel_rfl
 sizeByte:=by kernel_rfl
 neB5:=by decide}
open Go.RowKit Go.Lib in
def TF(w:World):Prop:=Lib.TabIs Tryz.prog w "internal/strconv.uint64pow10" .u64 Lib.pow10Tab
theorem Z9z(b:Bool):CallTy Tryz.prog Z9C [.is (.bool b)] (.is (.string ⟨(Lib.formatBool b).toArray⟩)):=
 .ofShelf0 (ws:=[.bool b]) (fun _ _=>by kernel_rfl) fun w=>Any.strconv_FormatBool lays121 b w
theorem Za8(n:Int)(h0: -9223372036854775808<=n)(h1:n<=9223372036854775807):CallF Tryz.prog Za6 [TF] [.is (.int .i64 n),.is (.int .i64 10)] (.is (.string ⟨(Lib.itoa n).toArray⟩)):=
 .ofShelf (ws:=[.int .i64 n,.int .i64 10]) (fun _ _=>by kernel_rfl) fun w hw=>
  (Any.strconv_FormatInt_10 laysM173 n h0 h1 w (hw TF (by simp))).mono fun e w' ⟨h1,k,os,h2⟩=>⟨h1,h2 ▸ Lib.below_grow _ w (Nat.le_refl _) k os⟩
theorem Z8L(n:Int)(h0: -9223372036854775808<=n)(h1:n<=9223372036854775807):CallF Tryz.prog ZcP [TF] [.is (.int .i64 n)] (.is (.string ⟨(Lib.itoa n).toArray⟩)):=
 .ofShelf (ws:=[.int .i64 n]) (fun _ _=>by kernel_rfl) fun w hw=>
  (Any.strconv_Itoa laysM171 n h0 h1 w (hw TF (by simp))).mono fun e w' ⟨h1,k,os,h2⟩=>⟨h1,h2 ▸ Lib.below_grow _ w (Nat.le_refl _) k os⟩
theorem Z9G(s:ByteArray)(c:UInt8)(new:ByteArray)(hs:s.size<=2048)(hn:new.size<=2)(hne:([c]==new.data.toList)=false):CallF Tryz.prog Z9s [GF] [.is (.string s),.is (.string ⟨#[c]⟩),.is (.string new)] (.is (.string ⟨(repL c new.data.toList s.data.toList).toArray⟩)):=by
 rw[<-Zch c _ _ hne];refine .ofShelf (ws:=[.string s,.string ⟨#[c]⟩,.string new]) (fun _ _=>by kernel_rfl) fun w hw=>?_;obtain⟨m,hm⟩:=hw GF (by simp);have hc:Lib.countB s ⟨#[c]⟩<=s.data.toList.length:=ZaM c s.data.toList;rw[Z18]at hc;have hp:Lib.countB s ⟨#[c]⟩*new.size<=2048*2:=Nat.mul_le_mul qM hn;exact Any.strings_ReplaceAll lays155 extra155 s ⟨#[c]⟩ new m w qM hm (by show 1<=1;omega) qM
theorem Z33(xs:List ByteArray)(sep:ByteArray)(hn:xs.length<=140737488355328)(hl:(Lib.join (xs.map (·.data.toList)) sep.data.toList).length<=140737488355328):CallTy Tryz.prog Z6i [.rep (SlE Pz.stE noS xs),.is (.string sep)] (.is (.string ⟨(Lib.join (xs.map (·.data.toList)) sep.data.toList).toArray⟩)):=
 ⟨fun _ _=>by kernel_rfl,fun E w vs hw ht=>by
   obtain⟨v,rfl,hv⟩: ∃v,vs=[v,.string sep]/\Pers E w (SlE Pz.stE noS xs v):=by
     cases vs with
     |nil=>exact ht.elim
     |cons v vs=>
       obtain⟨h1,h2⟩:=ht;cases vs with
       |nil=>exact h2.elim
       |cons u vs=>
         obtain⟨h3,h4⟩:=h2;cases vs with
         |nil=>exact⟨v,by rw[show u=_ from h3],h1⟩
         |cons _ _=>exact h4.elim
   obtain⟨ps,a,len,cap,rfl,rfl,hlc,⟨hlen,hR⟩,hF,_⟩:=hv.now
   by_cases h0:len=0
   · subst h0
     have hps:ps=[]:=List.length_eq_zero_iff.1 hlen;subst hps;refine Calls.mono (Any.strings_Join_none lays156 extra156 a cap sep w) ?_;rintro e w' ⟨rfl,rfl⟩;exact⟨_,rfl,.refl _ _,rfl⟩
   · obtain⟨b,o,rfl,hr⟩:=hR h0
     have hat: ∀(j:Nat) (x:ByteArray),(ps.map Cel.x)[j]? =some x->w.cell? ⟨b,o+j,none⟩=some (.string x):=fun j x hj=>by
       rw[List.getElem?_map]at hj;obtain⟨p,hp,rfl⟩:=Option.map_eq_some_iff.1 hj;have h1:=hr j p hp;have h2:p.cs=[.string p.x]:=hF p (List.mem_of_getElem? hp);rw[h2]at h1;have h3:=h1 0 _ rfl;rw[show o+Pz.stE.sz*j+0=o+j by show o+1*j+0=_;omega]at h3;exact h3
     have hbk:b<w.heap.size:=by
       cases ps with
       |nil=>simp at hlen;omega
       |cons p ps=>
         have h9:=hat 0 p.x rfl;unfold World.cell? at h9;cases hb:w.heap[b]? with
         |none=>simp[hb]at h9
         |some ob=>exact Z1d hb
     have:=Any.strings_Join lays156 extra156 b o cap (ps.map Cel.x) sep w hat hbk hn (by rw[List.length_map];omega) hl;rw[List.length_map,hlen]at this;refine Calls.mono this ?_;rintro e w' ⟨rfl,hb⟩;exact⟨_,rfl,.of_below hb,rfl⟩⟩
end Go.Proofs.YtbedigkncjbggaaGreatDoor
