/- The scanner: texts. No condition. -/
import Derived.Test.YtbedigkncjbggaaDoorXQ7
import Derived.Test.YtbedigkncjbggaaDoorXG3
import Derived.Test.YtbedigkncjbggaaDoorXG7
import Derived.Test.YtbedigkncjbggaaDoorXQ3
import Derived.Test.YtbedigkncjbggaaDoorXQ2
import Derived.Test.YtbedigkncjbggaaDoorXQ1
set_option maxRecDepth 20000
namespace Go.Proofs.YtbedigkncjbggaaDoor
open Go Go.Vc
theorem q39(b:UInt8):((b.toNat:Int)==39)=(b==39):=by
 have h1:(39:UInt8).toNat=39:=rfl;refine Bool.eq_iff_iff.2 ⟨fun h=>?_,fun h=>?_⟩
 · have h:(b.toNat:Int)=39:=by simpa using h
   have:b=39:=UInt8.toNat_inj.1 (by rw[h1];omega)
   simp[this]
 · have h:b=39:=by simpa using h
   subst h
   rfl
theorem Zcp{s:ByteArray}{i:Nat}(h:s.size<=i)(acc:List UInt8):textL (dr s i) acc=((t3D,30),0):=by rw[Z6F h];rfl
theorem ZaN(b:UInt8)(l acc:List UInt8)(hb:(b==39)=false):textL (b::l) acc=((textL l (acc++[b])).1,(textL l (acc++[b])).2+1):=by
 cases l with
 |nil=>simp[textL,hb]
 |cons c l=>rw[textL,if_neg (by rw[hb];simp)]
theorem Zde{s:ByteArray}{i:Nat}(h:i<s.size)(acc:List UInt8)(hb:(by_ s i==39)=false):textL (dr s i) acc=((textL (dr s (i+1)) (acc++[by_ s i])).1,(textL (dr s (i+1)) (acc++[by_ s i])).2+1):=by
 rw[Z20 h,ZaN _ _ _ hb]
theorem Zcz{s:ByteArray}{i:Nat}(h:i+1<s.size)(acc:List UInt8)(hb:(by_ s i==39)=true)(hc:(by_ s (i+1)==39)=true):
  textL (dr s i) acc=((textL (dr s (i+1+1)) (acc++[by_ s (i+1)])).1,(textL (dr s (i+1+1)) (acc++[by_ s (i+1)])).2+2):=by
 rw[Z20 (by omega:i<s.size),Z20 h,textL,if_pos hb,if_neg (by simp[bne,hc])]
theorem ZcK{s:ByteArray}{i:Nat}(h:i<s.size)(acc:List UInt8)(hb:(by_ s i==39)=true)(hc:(((i+1:Nat):Int)==(s.size:Int)|| !(by_ s (i+1)==39))=true):textL (dr s i) acc=(endT acc,1):=by
 by_cases h1:i+1<s.size
 · have hc:(by_ s (i+1)==39)=false:=by
     rw[beq_eq_false_iff_ne.2 qM,Bool.false_or]at hc
     simpa using hc
   rw[Z20 h,Z20 h1,textL,if_pos hb,if_pos (by simp[bne,hc])]
 · rw[Z20 h,Z6F qM,textL,if_pos hb]
theorem Z6a(s:ByteArray)(n:Nat)(hn:n<s.size)(hs:s.size<=2048):CallM Tryd.prog Z3v ZJ (sv s n) [GF] [] (sv s (n+1+(textL (dr s (n+1)) []).2)) (.tup2 (.is (tv (textL (dr s (n+1)) []).1.1)) (.is (.int .i64 (textL (dr s (n+1)) []).1.2))):=
CallM.of (fn:=Tryd.f28) Tryd.func28 (n:=88) rfl rfl rfl (fun _ _=>by kernel_rfl) fun E W b0=>by
 refine vQ ?_;refine JO.alloc Z1C rfl fun b2=>(Ja rfl (vP [0,2] ?_));refine Ja rfl (vP [0,2,4] ?_);refine Jm rfl (Jq (Z3 rfl) (Jq (Z0 Z6 rfl) (Jq (Z5 Zy rfl rfl) (Jq (ZB (cc:=((n+1:Nat):Int)) rfl rfl qM qM qM) ?_))));refine Jq (Z3 rfl) (Jq (Z0 Z6 rfl) (JO.m (Zc (cs':=[_,_]) rfl rfl qU rfl rfl rfl rfl Z30) (by rfl) ?_));refine vS [0,2,4] ?_;apply yk
 repeat apply yQ
 refine J.loopG (α:=Nat×List UInt8×Option (Nat×List Value)×Nat) (fun z=>[(0,.is (.pointer (some ⟨b0,0,none⟩))),(2,.is (.pointer (some ⟨b2,0,none⟩))),(4,.is (sliceO z.2.2.1 z.2.1.length z.2.2.2))]) (fun z=>⟨b2,Z1r,.is (tv t3D)⟩::⟨b0,ZJ,.is (sv s z.1)⟩::ownO z.2.2.1 Z2k []) (fun z=>fun _=>True) (fun z=>z.1<=s.size/\((textL (dr s z.1) z.2.1).1=(textL (dr s (n+1)) []).1/\z.1+(textL (dr s z.1) z.2.1).2=n+1+(textL (dr s (n+1)) []).2)/\Grows bC 1 z.2.1 z.2.2.1 z.2.2.2/\z.2.1.length<=z.1) (fun z=>s.size-z.1) (n+1,[],none,0) [0,2,4] (.cons rfl (.cons rfl (.cons rfl .nil))) rfl (fun _=>trivial) ⟨by omega,⟨rfl,rfl⟩,rfl,by simp⟩ fun⟨i,acc,st,cp⟩ ⟨hi,⟨hr1,hr2⟩,hG,hal⟩=>?_;try dsimp only
 try dsimp only at hi
 try dsimp only at hr1
 try dsimp only at hr2
 try dsimp only at hG
 try dsimp only at hal
 repeat apply yQ
 refine J.reg0 hmx qK qK ?_;refine yz (Z1 rfl) (yz (Z3 rfl) (yz (Z0 Z6 rfl) (yz (Z5 Zy rfl rfl) (yz (Z1 rfl) (yz (Z3 rfl) (yz (Z0 Zv rfl) (yz (Z5 ZC rfl rfl) (yz (Z2Q Zi rfl) (yz (Z1o rfl rfl) ?_)))))))));apply yn;refine FinS.nil0 ?_;refine vS [0,2,4,21] ?_;refine yC rfl (fun ht21=>?_) (fun ht21=>?_)
 try simp only[yd,yf]at ht21
 apply yK;refine vN ?_;apply yk
 repeat apply yQ
 refine J.reg0 hmx qK qK ?_;refine yz (Z1 rfl) (yz (Z3 rfl) (yz (Z0 Zv rfl) (yz (Z5 ZC rfl rfl) (yz (Z1 rfl) (yz (Z3 rfl) (yz (Z0 Z6 rfl) (yz (Z5 Zy rfl rfl) (yz (Z2h Zi rfl rfl qM qM) ?_))))))));refine yz (ZT rfl rfl) ?_;apply yn;refine FinS.nil0 ?_;refine vS [0,2,4,38] ?_;refine yC rfl (fun ht38=>?_) (fun ht38=>?_);have hb39:(by_ s i==39)=true:=(by rw[<-q39];first|exact ht38|simpa using ht38);refine vQ ?_;refine Jm rfl (Jq (Z3 rfl) (Jq (Z0 Z6 rfl) (Jq (Z5 Zy rfl rfl) (Jq (ZB (cc:=((i+1:Nat):Int)) rfl rfl qM qM qM) ?_))));refine Jq (Z3 rfl) (Jq (Z0 Z6 rfl) (JO.m (Zc (cs':=[_,_]) rfl rfl qU rfl rfl rfl rfl Z30) (by rfl) ?_));refine vS [0,2,4] ?_;refine J.reg0 hmx qK qK ?_;refine yz (Z1 rfl) (yz (Z3 rfl) (yz (Z0 Z6 rfl) (yz (Z5 Zy rfl rfl) (yz (Z1 rfl) (yz (Z3 rfl) (yz (Z0 Zv rfl) (yz (Z5 ZC rfl rfl) (yz (Z2Q Zi rfl) (yz (ZT rfl rfl) (yz (Z1 rfl) (yg rfl rfl rfl (fun hg=>Z1 (.inl rfl)) ?_)))))))))));refine yg rfl rfl rfl (fun hg=>Z3 (qR rfl)) ?_;refine yg rfl rfl rfl (fun hg=>Z0 Zv (qR rfl)) ?_;refine yg rfl rfl rfl (fun hg=>Z5 ZC (qR rfl) rfl) ?_;refine yg rfl rfl rfl (fun hg=>Z1 (.inl rfl)) (yg rfl rfl rfl (fun hg=>Z3 (qR rfl)) ?_);refine yg rfl rfl rfl (fun hg=>Z0 Z6 (qR rfl)) ?_;refine yg rfl rfl rfl (fun hg=>Z5 Zy (qR rfl) rfl) ?_;refine yg rfl rfl rfl (fun hg=>Z2h Zi (qR rfl) (qR rfl) (by simp at hg;omega) (by simp at hg;omega)) ?_;refine yg rfl rfl rfl (fun hg=>Z2O (qR rfl) (.inl rfl)) ?_;refine yz (Z1g rfl rfl rfl id) ?_;apply yn;refine FinS.nil0 ?_;refine vS [0,2,4,67] ?_;refine yC rfl (fun ht67=>?_) (fun ht67=>?_);have htx:=ZcK qM acc hb39 (show(((i+1:Nat):Int)==(s.size:Int)|| !(by_ s (i+1)==39))=true by rw[<-q39];exact ht67);rw[htx]at hr1 hr2;refine J.freezeOM Z9d hG (e:=Z2k) yV (fun q h=>⟨_,List.mem_cons_of_mem _ List.mem_cons_self,h.symm⟩) rfl rfl ?_;obtain⟨cap2,hso⟩:=Zc6 hG;rw[hso];refine vQ ?_;refine Jm rfl (Jq (ZS Z2w rfl) (Jq (Z1U rfl rfl) (vS [2,4,70] ?_)));refine yC rfl (fun ht70=>?_) (fun ht70=>?_)
 try simp only[yd,yf]at ht70
 refine vQ ?_;refine Jq (Zo (cs:=[_,_,_]) ZX .nil rfl rfl) (JO.m (Z2 rfl rfl qU qC qO ZN) (by rfl) ?_);refine Ja rfl (vS [2,3] ?_);refine vR ?_;exact JX.retMC1is rfl HasOwn.mem rfl ZF HasOwn.mem rfl rfl (by rw[<-hr1];unfold endT;rw[if_pos (decide_eq_true ht70)];rfl) (by rw[<-hr1];unfold endT;rw[if_pos (decide_eq_true ht70)]) (by rw[<-hr2])
 try simp only[yd,yf]at ht70
 apply yK;refine vN ?_;apply yN;refine Jm rfl (Jq (Zdv Z2w Z4v Zi rfl qI) ?_);refine Jq (Zo (cs:=[_,_,_]) ZX (.cons rfl (.cons rfl .nil)) rfl rfl) (JO.m (Z2 rfl rfl qU qC qO ZN) (by rfl) ?_);refine Ja rfl (vS [2,3] ?_);refine vR ?_;exact JX.retMC1is rfl HasOwn.mem rfl ZF HasOwn.mem rfl rfl (by rw[<-hr1];unfold endT;rw[if_neg (by rw[decide_eq_false ht70];simp)]) (by rw[<-hr1];unfold endT;rw[if_neg (by rw[decide_eq_false ht70];simp)]) (by rw[<-hr2]);apply yK
 repeat first|apply yX|apply yB
 have hlt2:i+1<s.size:=(by have h:=ht67;simp only[Bool.or_eq_false_iff,beq_eq_false_iff_ne]at h;omega);have hc39:(by_ s (i+1)==39)=true:=(by have h:=(Bool.or_eq_false_iff.1 ht67).2;rw[<-q39];exact(show(sb s (i+1)==39)=true by simpa using h))
 repeat apply yQ
 refine J.regS 11 hmx qK qK ?_;refine yz (Z1 rfl) (yz (Z1 rfl) (yz (Z3 rfl) (yz (Z0 Zv rfl) (yz (Z5 ZC rfl rfl) (yz (Z1 rfl) (yz (Z3 rfl) (yz (Z0 Z6 rfl) (yz (Z5 Zy rfl rfl) (yz (Z2h Zi rfl rfl qM qM) ?_)))))))));refine yz (ZD (cs:=[_]) Z7n qM qM (.cons rfl .nil) rfl rfl rfl) ?_;apply yn;refine FinS.tail0 ?_;refine JO.apP [by_ s (i+1)] Z7t Z9d (by repeat(first|exact .here|apply Cx.past|apply Cx.there)) hG rfl rfl (fun L=>Z72 Z2w rfl rfl) (by simp) (by simp;omega) (by simp;omega) rfl (fun st1 cp1 hG1=>?_);refine Ja rfl (vP [0,2,4] ?_);refine Jm rfl (Jq (Z3 rfl) (Jq (Z0 Z6 rfl) (Jq (Z5 Zy rfl rfl) (Jq (ZB (cc:=((i+1+1:Nat):Int)) rfl rfl qM qM qM) ?_))));refine Jq (Z3 rfl) (Jq (Z0 Z6 rfl) (JO.m (Zc (cs':=[_,_]) rfl rfl qU rfl rfl rfl rfl Z30) (by rfl) ?_));apply yI
 repeat refine JX.normal_block ?_
 refine JX.roundG (x:=⟨i,acc,st,cp⟩) (i+1+1,acc++[by_ s (i+1)],st1,cp1) ?_ ?_ [0,2,4] ?_ ?_ ?_ ?_
 · exact⟨by omega,by have h:=Zcz hlt2 acc hb39 hc39;rw[h]at hr1 hr2;exact⟨hr1,(by dsimp only;omega)⟩,hG1,by simp;omega⟩
 · exact(by simp only;omega)
 · exact qS
 · exact qH
 · exact qG
 · exact fun _ _ _=>fun _ _=>trivial
 apply yK
 repeat first|apply yX|apply yB
 have hb39:(by_ s i==39)=false:=(by rw[<-q39];first|exact ht38|simpa using ht38)
 repeat apply yQ
 refine J.regS 11 hmx qK qK ?_;refine yz (Z1 rfl) (yz (Z1 rfl) (yz (Z3 rfl) (yz (Z0 Zv rfl) (yz (Z5 ZC rfl rfl) (yz (Z1 rfl) (yz (Z3 rfl) (yz (Z0 Z6 rfl) (yz (Z5 Zy rfl rfl) (yz (Z2h Zi rfl rfl qM qM) ?_)))))))));refine yz (ZD (cs:=[_]) Z7n qM qM (.cons rfl .nil) rfl rfl rfl) ?_;apply yn;refine FinS.tail0 ?_;refine JO.apP [by_ s i] Z7t Z9d (by repeat(first|exact .here|apply Cx.past|apply Cx.there)) hG rfl rfl (fun L=>Z72 Z2w rfl rfl) (by simp) (by simp;omega) (by simp;omega) rfl (fun st1 cp1 hG1=>?_);refine Ja rfl (vP [0,2,4] ?_);refine Jm rfl (Jq (Z3 rfl) (Jq (Z0 Z6 rfl) (Jq (Z5 Zy rfl rfl) (Jq (ZB (cc:=((i+1:Nat):Int)) rfl rfl qM qM qM) ?_))));refine Jq (Z3 rfl) (Jq (Z0 Z6 rfl) (JO.m (Zc (cs':=[_,_]) rfl rfl qU rfl rfl rfl rfl Z30) (by rfl) ?_));apply yI
 repeat refine JX.normal_block ?_
 refine JX.roundG (x:=⟨i,acc,st,cp⟩) (i+1,acc++[by_ s i],st1,cp1) ?_ ?_ [0,2,4] ?_ ?_ ?_ ?_
 · exact⟨by omega,by have h:=Zde qM acc hb39;rw[h]at hr1 hr2;exact⟨hr1,(by dsimp only;omega)⟩,hG1,by simp;omega⟩
 · exact(by simp only;omega)
 · exact qS
 · exact qH
 · exact qG
 · exact fun _ _ _=>fun _ _=>trivial
 try simp only[yd,yf]at ht21
 repeat apply yQ
 refine J.exit ?_
 repeat first|refine yH ?_|refine yM rfl ?_|refine yE ?_
 repeat first|apply yX|apply yB
 rw[Zcp qM acc]at hr1 hr2;refine vQ ?_;refine Jq (Zo (cs:=[_,_,_]) ZX .nil rfl rfl) (JO.m (Z2 rfl rfl qU qC qO ZN) (by rfl) ?_);refine Ja rfl (vS [2,3] ?_);refine vR ?_;exact JX.retMC1is rfl HasOwn.mem rfl ZF HasOwn.mem rfl rfl (by rw[<-hr1];rfl) (by rw[<-hr1]) (by rw[<-hr2];rfl)
end Go.Proofs.YtbedigkncjbggaaDoor
set_option maxRecDepth 20000
namespace Go.Proofs.YtbedigkncjbggaaDoor
open Go Go.Vc
theorem Z7B: ∀(l acc:List UInt8),(textL l acc).2<=l.length
 |[],_=>by simp[textL]
 |[b],acc=>by
   unfold textL
   split<;>simp
 |b::c::l,acc=>by
   have h1:=Z7B l (acc++[c]);have h2:=Z7B (c::l) (acc++[b]);unfold textL
   split
   · split
     · simp
     · simp only[List.length_cons];omega
   · simp only[List.length_cons]at h2 ⊢;omega
theorem Zcl(l:List UInt8):(signL l).2<=l.length:=by
 unfold signL tryL
 split
 · rename_i h
   simp only[Bool.and_eq_true,decide_eq_true_eq]at h;exact h.1
 · split
   · rename_i h
     simp only[Bool.and_eq_true,decide_eq_true_eq]at h;exact h.1
   · exact Nat.zero_le _
theorem Z8g(l:List UInt8):(stepL l).2<=l.length:=by
 cases l with
 |nil=>exact Nat.zero_le _
 |cons b l=>
   rw[stepL]
   split
   · exact Z74 _ _
   · split
     · exact Z74 _ _
     · split
       · have:=Z7B l []
         simp only[List.length_cons]
         omega
       · exact Zcl _
theorem Z7K{b:UInt8}{l:List UInt8}(h:(stepL (b::l)).1.2=0):1<=(stepL (b::l)).2:=by
 rw[stepL]at h ⊢
 by_cases h1:letB b=true
 · rw[if_pos h1]
   have:wordB b=true:=by unfold wordB;rw[h1];rfl
   show 1<=runN wordB (b::l);unfold runN;rw[if_pos this]
   omega
 rw[if_neg h1]at h ⊢
 by_cases h2:digB b=true
 · rw[if_pos h2]
   show 1<=runN digB (b::l);unfold runN;rw[if_pos h2]
   omega
 rw[if_neg h2]at h ⊢
 by_cases h3:(b==39)=true
 · rw[if_pos h3]
   exact Nat.le_add_left _ _
 rw[if_neg h3]at h ⊢;unfold signL at h ⊢
 split at h
 · rename_i h4;rw[if_pos h4];exact Nat.le_of_ble_eq_true rfl
 · rename_i h4
   rw[if_neg h4]
   split at h
   · rename_i h5;rw[if_pos h5];exact Nat.le_refl _
   · cases h
theorem Z6Q: ∀(f g:Nat) (l:List UInt8),l.length<f->l.length<g->allG f l=allG g l
 |0,_,_,h,_=>absurd h qM
 |_+1,0,_,_,h=>absurd h qM
 |f+1,g+1,l,hf,hg=>by
   unfold allG;cases hd:l.drop (runN isSp l)with
   |nil=>rfl
   |cons b r=>
     dsimp only;have hl:(b::r).length<=l.length:=by rw[<-hd,List.length_drop];omega
     by_cases he:(stepL (b::r)).1.2=0
     · have hp:=Z7K he
       have hle:=Z8g (b::r);have:=Z6Q f g ((b::r).drop (stepL (b::r)).2) (by rw[List.length_drop];omega) (by rw[List.length_drop];omega);rw[this]
     · rw[if_pos (by simpa using he),if_pos (by simpa using he)]
def allA(l:List UInt8):List T3×Int:=allG (l.length+1) l
def finA(xs:List T3)(r:List T3×Int):List T3×Int:=if(r.2 != 0)then([],r.2)else(xs++r.1,0)
theorem Zcs:allA []=([],0):=rfl
theorem Zan(l:List UInt8):allA (l.drop (runN isSp l))=allA l:=by
 have h1: ∀l:List UInt8,runN isSp (l.drop (runN isSp l))=0:=fun l=>by
   induction l with
   |nil=>rfl
   |cons b l ih=>
     by_cases hb:isSp b=true
     · have:runN isSp (b::l)=runN isSp l+1:=by rw[runN,if_pos hb]
       rw[this,List.drop_succ_cons];exact ih
     · have:runN isSp (b::l)=0:=by rw[runN,if_neg hb]
       rw[this,List.drop_zero];exact this
 unfold allA;rw[Z6Q ((l.drop (runN isSp l)).length+1) (l.length+1) _ qM (by rw[List.length_drop];omega)];show allG (l.length+1) (l.drop (runN isSp l))=allG (l.length+1) l;rw[allG,allG,h1 l,List.drop_zero]
theorem Zds(l:List UInt8):runN isSp (l.drop (runN isSp l))=0:=by
 induction l with
 |nil=>rfl
 |cons b l ih=>
   by_cases hb:isSp b=true
   · have:runN isSp (b::l)=runN isSp l+1:=by rw[runN,if_pos hb]
     rw[this,List.drop_succ_cons];exact ih
   · have:runN isSp (b::l)=0:=by rw[runN,if_neg hb]
     rw[this,List.drop_zero];exact this
theorem Z8x{l:List UInt8}(h0:runN isSp l=0)(hl:l≠[]):
   allA l=if((stepL l).1.2 != 0)then([],(stepL l).1.2)else finA [(stepL l).1.1] (allA (l.drop (stepL l).2)):=by
 cases l with
 |nil=>exact absurd rfl hl
 |cons b r=>
   have e:allA (b::r)=allG ((b::r).length+1) (b::r):=rfl;rw[e,allG,h0,List.drop_zero];dsimp only
   by_cases he:(stepL (b::r)).1.2=0
   · have hb:((stepL (b::r)).1.2 != 0)=false:=by simp[he]
     rw[hb];simp only[Bool.false_eq_true,if_false];have hp:=Z7K he;have hle:=Z8g (b::r);rw[Z6Q (b::r).length (((b::r).drop (stepL (b::r)).2).length+1) _ (by rw[List.length_drop];omega) qM]
     rfl
   · rw[if_pos (by simpa using he),if_pos (by simpa using he)]
theorem Zcy(xs ys:List T3)(r:List T3×Int):finA xs (finA ys r)=finA (xs++ys) r:=by
 unfold finA
 by_cases h:(r.2 != 0)=true
 · rw[if_pos h,if_pos h];simp only;rw[if_pos h]
 · rw[if_neg h,if_neg h]
   simp
theorem ZcJ: ∀(f:Nat) (l:List UInt8),(allG f l).2≠0->(allG f l).1=[]
 |0,_,h=>absurd rfl h
 |f+1,l,h=>by
   unfold allG at h ⊢;cases hd:l.drop (runN isSp l)with
   |nil=>rfl
   |cons b r=>
     rw[hd]at h;dsimp only at h ⊢
     split at h
     · rename_i h1;rw[if_pos h1]
     · rename_i h1
       rw[if_neg h1]
       split at h
       · rename_i h2;rw[if_pos h2]
       · exact absurd rfl h
theorem Zcu(l:List UInt8):finA [] (allA l)=allA l:=by
 unfold finA
 by_cases h:((allA l).2 != 0)=true
 · rw[if_pos h]
   have h2:(allA l).2≠0:=by simpa using h
   have:=ZcJ _ _ h2;exact Prod.ext this.symm rfl
 · rw[if_neg h]
   have:(allA l).2=0:=by simpa using h
   exact Prod.ext rfl this.symm
theorem Zba{s:ByteArray}(h:s.size<=2048):finA [] (allA (dr s (0+runN isSp (dr s 0))))=lexL s.data.toList:=by
 rw[Zcu,<-Z5N,Zan];unfold lexL;rw[if_neg (by rw[Z1v];simp;omega)]
 rfl
theorem Zc4(s:ByteArray)(i:Nat):runN isSp (dr s (i+runN isSp (dr s i)))=0:=by
 rw[<-Z5N];exact Zds _
theorem ZcU{s:ByteArray}{i:Nat}(h:i<s.size):dr s i≠[]:=by rw[Z20 h];simp
theorem Zcc{s:ByteArray}{i:Nat}{xs:List T3}{X:List T3×Int}(h:i<s.size)(hsp:runN isSp (dr s i)=0)(he:(stepL (dr s i)).1.2=0)(hr:finA xs (allA (dr s i))=X):
  finA (xs++[(stepL (dr s i)).1.1]) (allA (dr s (i+(stepL (dr s i)).2+runN isSp (dr s (i+(stepL (dr s i)).2)))))=X:=by
 rw[<-Z5N s (i+(stepL (dr s i)).2),Zan,<-Z5N s i,<-Zcy,<-hr,Z8x hsp (ZcU h),if_neg (by simp[he])]
theorem Zdf{s:ByteArray}{i:Nat}{xs:List T3}{X:List T3×Int}(h:i<s.size)(hsp:runN isSp (dr s i)=0)(he:(stepL (dr s i)).1.2≠0)(hr:finA xs (allA (dr s i))=X):X=([],(stepL (dr s i)).1.2):=by
 rw[<-hr,Z8x hsp (ZcU h),if_pos (by simpa using he)];unfold finA;rw[if_pos (by simpa using he)]
def takeV(x:UInt8)(b:Nat):Value:=.func (.func (if letB x then Z3q else if digB x then Z32 else if x==39 then Z3v else Z3w)) #[.pointer (some ⟨b,0,none⟩)] #[]
theorem Zbl(s:ByteArray)(n:Nat)(hn:n<s.size)(hs:s.size<=2048)(b:Nat):
   MethV Tryd.prog b (takeV (by_ s n) b) ZJ (sv s n) [GF] [] (sv s (n+(stepL (dr s n)).2)) (.tup2 (.is (tv (stepL (dr s n)).1.1)) (.is (.int .i64 (stepL (dr s n)).1.2))):=by
 have e:=Z20 hn;unfold takeV
 by_cases h1:letB (by_ s n)=true
 · rw[if_pos h1]
   have hst:stepL (dr s n)=(wordL ((dr s n).take (runN wordB (dr s n))),runN wordB (dr s n)):=by
     rw[e,stepL,if_pos h1]
   rw[hst];exact⟨_,rfl,Z68 s n hn hs⟩
 rw[if_neg h1]
 by_cases h2:digB (by_ s n)=true
 · rw[if_pos h2]
   have hst:stepL (dr s n)=(numL (dr s n),runN digB (dr s n)):=by
     rw[e,stepL,if_neg h1,if_pos h2]
   rw[hst];exact⟨_,rfl,Z5d s n hn hs⟩
 rw[if_neg h2]
 by_cases h3:(by_ s n==39)=true
 · rw[if_pos h3]
   have hst:stepL (dr s n)=((textL (dr s (n+1)) []).1,(textL (dr s (n+1)) []).2+1):=by
     rw[e,stepL,if_neg h1,if_neg h2,if_pos h3]
   rw[hst];have:=Z6a s n hn hs;rw[show n+1+(textL (dr s (n+1)) []).2=n+((textL (dr s (n+1)) []).2+1) by omega]at this;exact⟨_,rfl,this⟩
 rw[if_neg h3];have hst:stepL (dr s n)=signL (dr s n):=by
   rw[e,stepL,if_neg h1,if_neg h2,if_neg h3]
 rw[hst];exact⟨_,rfl,Z5Y s n hn hs⟩
end Go.Proofs.YtbedigkncjbggaaDoor
set_option maxRecDepth 20000
namespace Go.Proofs.YtbedigkncjbggaaDoor
open Go Go.Vc
theorem Z62(s:ByteArray)(n:Nat)(hn:n<s.size):CallMR Tryd.prog Z6l ZJ (sv s n) [GF] [] (sv s n) (fun b=>.is (takeV (by_ s n) b)):=
CallMR.of (fn:=Tryd.f13) Tryd.func13 (n:=30) rfl rfl rfl (fun _ _=>by kernel_rfl) fun E W b0=>by
 refine vQ ?_;refine Ja rfl (vS [0] ?_);refine J.reg0 hmx qK qK ?_;refine yz (Z1 rfl) (yz (Z3 rfl) (yz (Z0 Zv rfl) (yz (Z5 ZC rfl rfl) (yz (Z1 rfl) (yz (Z3 rfl) (yz (Z0 Z6 rfl) (yz (Z5 Zy rfl rfl) (yz (Z2h Zi rfl rfl qM qM) ?_))))))));refine yz (Z2i rfl) ?_;apply yn;refine FinS.nil0 ?_;refine vS [0,3] ?_;apply yk;refine vQ ?_;refine Jm rfl (Jq (ZV rfl (Z4I (sb s n)) qA) ?_);refine Ja rfl (vS [0,3,13] ?_);refine yC rfl (fun ht13=>?_) (fun ht13=>?_);refine vQ ?_;refine Jm rfl (Jq (Z28 (.cons rfl .nil) .nil) (Ja rfl (vS [2] ?_)));refine vR ?_;exact JX.retM1e rfl HasOwn.mem rfl (by unfold takeV;rw[if_pos (show letB (by_ s n)=true from ht13)]) (by rfl);refine vQ ?_;refine Jm rfl (Jq (ZV rfl (Z5i (sb s n)) qA) ?_);refine Ja rfl (vS [0,3,18] ?_);refine yC rfl (fun ht18=>?_) (fun ht18=>?_);refine vQ ?_;refine Jm rfl (Jq (Z28 (.cons rfl .nil) .nil) (Ja rfl (vS [2] ?_)));refine vR ?_;exact JX.retM1e rfl HasOwn.mem rfl (by unfold takeV;rw[if_neg (show ¬letB (by_ s n)=true by rw[show letB (by_ s n)=false from ht13];simp),if_pos (show digB (by_ s n)=true from ht18)]) (by rfl);refine vQ ?_;refine Jm rfl (Jq (ZT rfl rfl) (Ja rfl (vS [0,23] ?_)));refine yC rfl (fun ht23=>?_) (fun ht23=>?_);refine vQ ?_;refine Jm rfl (Jq (Z28 (.cons rfl .nil) .nil) (Ja rfl (vS [2] ?_)));refine vR ?_;exact JX.retM1e rfl HasOwn.mem rfl (by unfold takeV;rw[if_neg (show ¬letB (by_ s n)=true by rw[show letB (by_ s n)=false from ht13];simp),if_neg (show ¬digB (by_ s n)=true by rw[show digB (by_ s n)=false from ht18];simp),if_pos (by rw[<-q39];exact ht23)]) (by rfl);apply yK;refine vN ?_;apply yN;refine Jm rfl (Jq (Z28 (.cons rfl .nil) .nil) (Ja rfl (vS [2] ?_)));refine vR ?_;exact JX.retM1e rfl HasOwn.mem rfl (by unfold takeV;rw[if_neg (show ¬letB (by_ s n)=true by rw[show letB (by_ s n)=false from ht13];simp),if_neg (show ¬digB (by_ s n)=true by rw[show digB (by_ s n)=false from ht18];simp),if_neg (by rw[<-q39];rw[show(((by_ s n).toNat:Int)==39)=false from ht23];simp)]) (by rfl)
theorem Zbi(s:ByteArray):CallF Tryd.prog Zbw [GF] [.is (.string s)] (.tup2 (.rep (SlC T3.cells 3 (lexL s.data.toList).1)) (.is (.int .i64 (lexL s.data.toList).2))):=
CallF.of (fn:=Tryd.f6) Tryd.func6 (n:=39) rfl rfl rfl (fun _ _=>by kernel_rfl) fun E W=>by
 refine vQ ?_;refine Ja rfl (Ja rfl (vP [0] ?_));refine Jm rfl (Jq (Z2Q Zi rfl) (Jq (Z1U rfl rfl) (vS [0,10] ?_)));refine yC rfl (fun ht10=>?_) (fun ht10=>?_)
 try simp only[yd,yf]at ht10
 have hx:lexL s.data.toList=([],30):=by unfold lexL;rw[if_pos (by rw[Z1v];simpa using ht10)]
 refine vQ ?_;refine Ja rfl (Ja rfl (vS [2,3] ?_));refine vR ?_;exact JX.ret2sub rfl rfl rfl (by rw[hx];exact Sub.slNilC) rfl (Sub.isEq (by rw[hx]))
 try simp only[yd,yf]at ht10
 apply yK
 repeat first|apply yX|apply yB
 have hsz:s.size<=2048:=by have h:=ht10;omega
 have h0:0+runN isSp (dr s 0)<=s.size:=ZbN (p:=isSp) (Nat.zero_le _);refine vQ ?_;refine Jm rfl (Jq (Zo (cs:=[_,_]) Z8h (.cons rfl .nil) rfl rfl) (JO.box rfl rfl fun b13=>(Ja rfl (vP [0,4] ?_))));refine Ja rfl (vP [0,4,5] ?_);refine Jm rfl (JO.md (Z6e rfl rfl (Z3c s 0 qM qM) qU (by simp) .nil) (by rfl) rfl ?_);refine vS [0,4,5] ?_;apply yk
 repeat apply yQ
 refine J.loopG (α:=Nat×List T3×Option (Nat×List Value)×Nat) (fun z=>[(0,.is (.string s)),(4,.is (.pointer (some ⟨b13,0,none⟩))),(5,.is (sliceO z.2.2.1 z.2.1.length z.2.2.2))]) (fun z=>⟨b13,ZJ,.is (sv s z.1)⟩::ownO z.2.2.1 Z1r []) (fun z=>fun _=>True) (fun z=>z.1<=s.size/\(finA z.2.1 (allA (dr s z.1))=lexL s.data.toList/\runN isSp (dr s z.1)=0)/\Grows T3.cells 3 z.2.1 z.2.2.1 z.2.2.2/\z.2.1.length<=z.1) (fun z=>s.size-z.1) (0+runN isSp (dr s 0),[],none,0) [0,4,5] (.cons rfl (.cons rfl (.cons rfl .nil))) rfl (fun _=>trivial) ⟨h0,⟨Zba hsz,Zc4 s 0⟩,rfl,by simp⟩ fun⟨i,xs,st,cp⟩ ⟨hi,⟨hr,hsp⟩,hG,hal⟩=>?_;try dsimp only
 try dsimp only at hi
 try dsimp only at hr
 try dsimp only at hsp
 try dsimp only at hG
 try dsimp only at hal
 refine vQ ?_;refine Jm rfl (Jq (Z3 rfl) (Jq (Z0 Z6 rfl) (Jq (Z5 Zy rfl rfl) (Jm rfl (Jq (Z2Q Zi rfl) (Jq (Z1o rfl rfl) (vS [0,4,5,22] ?_)))))));refine yC rfl (fun ht22=>?_) (fun ht22=>?_)
 try simp only[yd,yf]at ht22
 apply yK;refine vN ?_;apply yk;have hlt:i<s.size:=by omega
 have hle:i+(stepL (dr s i)).2<=s.size:=by have:=Z8g (dr s i);rw[Z6M]at this;omega
 refine vQ ?_;refine Jm rfl (JO.md (Zbq rfl rfl (Z62 s i qM) qU (by simp) .nil) (by rfl) rfl ?_);refine JO.md (Zb5 rfl ((Zbl s i qM qM b13)) qU (by simp) .nil) (by rfl) rfl ?_;refine Jm rfl (Jq (Z1m rfl) (Jq (Z1l rfl) (JO.alloc Z1C rfl fun b6=>(JO.m (Z2 rfl rfl qU qC qO ZN) (by rfl) ?_))));refine Ja rfl (vP [0,4,5,6,7] ?_);refine Jm rfl (Jq (Z2O rfl rfl) (vS [0,4,5,6,7,32] ?_));refine yC rfl (fun ht32=>?_) (fun ht32=>?_);have hx:=Zdf hlt hsp (by simpa using ht32) hr;refine vQ ?_;refine Jm rfl (Ja rfl (Ja rfl (vS [2,3] ?_)));refine vR ?_;exact JX.ret2sub rfl rfl rfl (by rw[hx];exact Sub.slNilC) rfl (Sub.isEq (by rw[hx]));apply yK
 repeat first|apply yX|apply yB
 have he0:(stepL (dr s i)).1.2=0:=by simpa using ht32
 have hp1:1<=(stepL (dr s i)).2:=by rw[Z20 hlt]at he0 ⊢;exact Z7K he0
 refine vQ ?_;refine Jm rfl (Jq (Z18 (cs:=[_,_,_]) ZF rfl rfl rfl) (Jq (ZD (cs:=[_,_,_]) Z80 qM qM (.cons rfl .nil) rfl rfl rfl) ?_));refine JO.apP [(stepL (dr s i)).1.1] Z7T T3.len (by repeat(first|exact .here|apply Cx.past|apply Cx.there)) hG rfl rfl (fun L=>Z72 ZG rfl rfl) (by simp) (by simp;omega) (by simp;omega) rfl (fun st1 cp1 hG1=>?_);refine Ja rfl (vP [0,4,5] ?_);refine Jm rfl (JO.md (Z6e rfl rfl (Z3c s (i+(stepL (dr s i)).2) qM qM) qU (by simp) .nil) (by rfl) rfl ?_);apply yI
 repeat refine JX.normal_block ?_
 refine JX.roundG (x:=⟨i,xs,st,cp⟩) (i+(stepL (dr s i)).2+runN isSp (dr s (i+(stepL (dr s i)).2)),xs++[(stepL (dr s i)).1.1],st1,cp1) ?_ ?_ [0,4,5] ?_ ?_ ?_ ?_
 · exact⟨ZbN (p:=isSp) hle,⟨Zcc hlt hsp he0 hr,Zc4 s (i+(stepL (dr s i)).2)⟩,hG1,by simp;omega⟩
 · exact(by simp only;omega)
 · exact qS
 · exact qH
 · exact qG
 · exact fun _ _ _=>fun _ _=>trivial
 try simp only[yd,yf]at ht22
 repeat apply yQ
 refine J.exit ?_
 repeat first|refine yH ?_|refine yM rfl ?_|refine yE ?_
 repeat first|apply yX|apply yB
 have hfin:lexL s.data.toList=(xs,0):=by rw[<-hr,Z6F qM];simp[finA,Zcs]
 refine J.freezeO T3.len hG (e:=Z1r) yV (fun _ h=>h) rfl rfl ?_;refine vQ ?_;refine Jm rfl (Ja rfl (Ja rfl (vS [2,3] ?_)));refine vR ?_;exact JX.ret2sub rfl rfl rfl (by rw[hfin];exact Sub.slOC hG qI) rfl (Sub.isEq (by rw[hfin]))
end Go.Proofs.YtbedigkncjbggaaDoor
set_option maxRecDepth 20000
namespace Go.Proofs.YtbedigkncjbggaaDoor
open Go Go.Vc
def capB(b:UInt8):Bool:=decide (65<=(b.toNat:Int))&&decide ((b.toNat:Int)<=90)
def lowC(q:Bool)(b:UInt8):UInt8:=if !q&&capB b then b+32 else b
theorem Z9k: ∀(f:Nat) (l:List UInt8),(allG f l).1.length<=f
 |0,_=>Nat.le_refl _
 |f+1,l=>by
   unfold allG;cases hd:l.drop (runN isSp l)with
   |nil=>exact Nat.zero_le _
   |cons b r=>
     dsimp only
     split
     · exact Nat.zero_le _
     · split
       · exact Nat.zero_le _
       · have:=Z9k f ((b::r).drop (stepL (b::r)).2)
         simp only[List.length_cons]
         omega
theorem Z9D(l:List UInt8):(lexL l).1.length<=2049:=by
 unfold lexL
 split
 · exact Nat.zero_le _
 · rename_i h
   have:=Z9k (l.length+1) l
   simp at h
   omega
end Go.Proofs.YtbedigkncjbggaaDoor
set_option maxRecDepth 20000
namespace Go.Proofs.YtbedigkncjbggaaDoor
open Go Go.Vc
open Go.Pz
abbrev zSt:Ty:=.is (stV st0 nilv nilv nilv nilv nilv nilv nilv nilv nilv)
theorem SrZero{N:Nat}{L:List Own}{Φ:List (World->Prop)}:Sub L Φ zSt (.rep (StR N st0)):=Sub.st rfl fun X w hf w' hk=>⟨Ze (FrS.nil _),Ze (FrS.nil _),Ze trivial,Ze trivial,Ze trivial,Ze (FrS.nil _),Z1e,Ze trivial,Z1e⟩
theorem ZaV(w:World):(zeroValue 46).run Tryd.prog w= .ok (.agg #[]) w:=by
 have hz:=Z3E;unfold zeroOf at hz;cases hq:Tryd.prog.info? 46 with
 |none=>rw[hq]at hz;cases hz
 |some i=>
   rw[hq]at hz;simp only[Option.bind_some]at hz
   simp[zeroValue,typeInfo,hq,hz]
def RecS(b2 b3:Nat)(T2:Ty)(e3:Int)(u u':FrameMode)(T2':Ty)(e3':Int):Prop:=CallRec Tryd.prog Z1F [⟨b2,Zs,T2⟩,⟨b3,Z1s,.is (.int .i64 e3)⟩] ([.pointer (some ⟨b2,0,none⟩),.pointer (some ⟨b3,0,none⟩)].map Ty.is) u u' [⟨b2,Zs,T2'⟩,⟨b3,Z1s,.is (.int .i64 e3')⟩]
theorem Zbj(b2 b3:Nat)(T2:Ty)(h2:T2.out=true)(e3:Int):RecS b2 b3 T2 e3 .returning .returning T2 e3:=
 CallRec.of (fn:=Tryd.f7) .none Tryd.func7 rfl (n:=11) rfl rfl rfl (fun _ _=>by kernel_rfl) fun E W hb0=>by
 refine Jq (Zab (d:=.struct #[]) qK rfl ZaV rfl) ?_;refine Jm rfl (Jq (Z1m rfl) (Jq (Z1l rfl) (JO.alloc Z3E rfl fun b4=>(JO.m (Z2 rfl rfl qU qC qO Z5T) (by rfl) ?_))));refine Ja rfl (vP [0,1,3] ?_);refine Jm rfl (vS [0,1,9] ?_);refine yC rfl (fun ht9=>?_) (fun ht9=>?_)
 · cases ht9
 · apply yK
   refine JX.normal_ret ?_;exact JX.retL0 (Lr:=[_]) rfl () trivial (List.perm_append_comm (l₁:=[_]) (l₂:=[_,_])) (by simp[h2,Ty.out]) hb0 rfl
theorem Z8p(b2 b3:Nat)(T2:Ty)(h2:Cnt T2 14)(e3:Int):RecS b2 b3 T2 e3 (.panicking flt) (.panicking [{v:=.iface Z5Q (.agg #[]),recovered:=true}]) zSt 30:=
 CallRec.of (fn:=Tryd.f7) .some Tryd.func7 rfl (n:=11) rfl rfl rfl (fun _ _=>by kernel_rfl) fun E W hb0=>by
 refine Jq (Za6 (d:=.struct #[]) qK rfl rfl) ?_;refine Jm rfl (Jq (Z1m rfl) (Jq (Z1l rfl) (JO.alloc Z3E rfl fun b4=>(JO.m (Z2 rfl rfl qU qC qO Z5T) (by rfl) ?_))));refine Ja rfl (vP [0,1,3] ?_);refine Jm rfl (vS [0,1,9] ?_);refine yC rfl (fun ht9=>?_) (fun ht9=>?_)
 · repeat apply yQ
   apply yN;refine Jq (Zo (cs:=[_,_,_,_,_,_,_,_,_,_,_,_,_,_]) Z1y .nil rfl rfl) (JO.m (Z2 rfl rfl qU h2 (by exact ZQ rfl rfl) Zk) (by rfl) ?_);refine JO.m (Z2 rfl rfl qU (by exact ZQ rfl rfl) (by exact ZQ rfl rfl) Z2I) (by rfl) ?_;apply yI;refine JX.normal_ret ?_;exact JX.retL0 (Lr:=[_]) rfl () trivial (List.perm_append_comm (l₁:=[_]) (l₂:=[_,_])) rfl hb0 rfl
 · cases ht9
theorem Z89(b:Nat)(a:Option Addr)(cap:Nat):CallP Tryd.prog Z2r [⟨b,Z1H,.is (.agg #[.slice a 0 cap])⟩] [] [.is (.pointer (some ⟨b,0,none⟩))] True flt (fun _:Unit=>False) (fun _=>[]) (fun _=>.is (.tuple #[])):=
 CallP.of (fn:=Tryd.f8) Tryd.func8 (n:=43) rfl rfl rfl (fun _ _=>by kernel_rfl) fun E W hb0=>by
 refine vQ ?_;refine JO.alloc ZE rfl fun b2=>(vS [0,2] ?_);refine J.regS 17 hmx qK qK ?_;refine yz (Z1 rfl) (yz (Z1 rfl) (yz (Z3 rfl) (yz (Z0 Z8 rfl) (yz (Z5 Zj rfl rfl) (yz (ZS ZG rfl) (yz (Z1U rfl rfl) (yz (Z1 rfl) (yg rfl rfl rfl (fun hg=>Z1 (.inl rfl)) (yg rfl rfl rfl (fun hg=>Z3 (qR rfl)) ?_)))))))));refine yg rfl rfl rfl (fun hg=>Z0 Z8 (qR rfl)) ?_;refine yg rfl rfl rfl (fun hg=>Z5 Zj (qR rfl) rfl) ?_;refine RT.g (T:=.is (.bool true)) rfl rfl rfl (fun hg=>absurd hg qD) ?_;refine RT.g (T:=.is (.bool true)) rfl rfl rfl (fun hg=>absurd hg qD) ?_;refine RT.g (T:=.is (.bool true)) rfl rfl rfl (fun hg=>absurd hg qD) ?_;refine RT.g (T:=.is (.bool true)) rfl rfl rfl (fun hg=>absurd hg qD) ?_;refine yz (Zz rfl rfl rfl id) ?_;apply yn;refine FinS.tail0 ?_;refine JO.callPK (Lr:=_) (Zb (.pointer (some ⟨b,0,none⟩)) _) rfl (Z1b _) Z13 qA (fun hbad=>?_) ?_
 · exact JX.pnI trivial
 intro z hz;exact absurd hz qD
theorem ZdP(ts:List T3)(bb oo cap:Nat):Value.slice (some ⟨bb,oo,none⟩) ts.length cap=Tk.sl ⟨ts,bb,oo,cap⟩ ts:=by
 have hk:Tk.k ⟨ts,bb,oo,cap⟩ ts=0:=Nat.sub_self _;have hj:Tk.j ⟨ts,bb,oo,cap⟩ ts=0:=by unfold Tk.j;rw[hk];split<;>rfl
 show _=Value.slice (some ⟨bb,oo+3*Tk.j ⟨ts,bb,oo,cap⟩ ts,none⟩) ts.length (cap-Tk.k ⟨ts,bb,oo,cap⟩ ts);rw[hk,hj];rfl
theorem Zdx{l:List T3×Int}(h: ¬l.2=0):readS l=(st0,l.2):=by unfold readS;rw[if_neg (by simpa using h)]
theorem ZaQ{l:List T3×Int}(h:l.2=0)(hn:wholeP l.1=none):readS l=(st0,30):=by unfold readS;rw[if_pos (by simpa using h)];unfold readT;rw[hn]
theorem Ze8{l:List T3×Int}{s:Pz.St}(h:l.2=0)(hn:wholeP l.1=some s)(hd:deepS s=true):readS l=(st0,31):=by unfold readS;rw[if_pos (by simpa using h)];unfold readT;rw[hn];simp only;rw[if_pos hd]
theorem ZdQ{l:List T3×Int}{s:Pz.St}(h:l.2=0)(hn:wholeP l.1=some s)(hd:deepS s=false):readS l=(s,0):=by unfold readS;rw[if_pos (by simpa using h)];unfold readT;rw[hn];simp only;rw[if_neg (by rw[hd];decide)]
theorem Zce{ts:List T3}(h:stmtP (exprP (ts.length+1)) ts=none):wholeP ts=none:=by unfold wholeP;rw[h];rfl
theorem ZbM{ts:List T3}{z:Pz.St×List T3}(h:stmtP (exprP (ts.length+1)) ts=some z)(hs: ¬(skT 5 Z5P z.2).length=0):wholeP ts=none:=by
 unfold wholeP;rw[h,Option.bind_some];split
 · rename_i h2;rw[h2]at hs;exact absurd rfl hs
 · rfl
theorem Zbm{ts:List T3}{z:Pz.St×List T3}(h:stmtP (exprP (ts.length+1)) ts=some z)(hs:(skT 5 Z5P z.2).length=0):wholeP ts=some z.1:=by
 unfold wholeP;rw[h,Option.bind_some];rw[List.length_eq_zero_iff.1 hs]
section
variable{P:Program}{c:Ctx}{K:List (Nat×Ty)}{L:List Own}{Φ:List (World->Prop)}{Q:Exit->Act->World->Prop}
theorem Z3M{α:Type}{En:Enc α}{G:GoS}{xs:List α}{v:Value}{w:World}(h:SlE En G xs v w):v.oneCell'=true:=by obtain⟨ps,a,len,cap,_,rfl,_⟩:=h;rfl
theorem Z9x{xs:List Ex}{v:Value}{w:World}(h:ExsR xs v w):v.oneCell'=true:=by obtain⟨a,len,cap,rfl,_⟩:=h;rfl
theorem J.openOwnSt{N b:Nat}{e:TypeId}{st:Pz.St}{y:Code}(hj: ∀vc vn vr vi vf vw vg vo vs:Value,(∀u∈[vc,vn,vr,vi,vf,vw,vg,vo,vs],u.oneCell'=true)->J P c K (⟨b,e,.is (stV st vc vn vr vi vf vw vg vo vs)⟩::L) (SlE coE (FC N) st.cols vc::SlE stE (FN N) st.names vn::SlE rwE noS st.rows vr::SlE itE noS st.items vi::SlE srE noS st.from_ vf::SlE exE (FX N) st.where_ vw::ExsR st.group vg::SlE kyE noS st.order vo::ExsR st.sets vs::Φ) y Q):J P c K (⟨b,e,.rep (StR N st)⟩::L) Φ y Q:=by
 refine⟨fun X a w hs=>?_⟩;obtain⟨hb,v,hv,hp⟩:=hs.l _ List.mem_cons_self;obtain⟨vc,vn,vr,vi,vf,vw,vg,vo,vs,rfl,h1,h2,h3,h4,h5,h6,h7,h8,h9⟩:=ZdN (show Pers X w (StR N st v)from hp);refine(hj vc vn vr vi vf vw vg vo vs ?_).out X a w ⟨hs.n,hs.d,hs.wf,hs.k,?_,hs.ld,?_,hs.x,hs.xs,hs.keeps,?_⟩
 · intro u hu
   simp only[List.mem_cons,List.mem_nil_iff,or_false]at hu;rcases hu with rfl|rfl|rfl|rfl|rfl|rfl|rfl|rfl|rfl
   · exact Z3M h1.now
   · exact Z3M h2.now
   · exact Z3M h3.now
   · exact Z3M h4.now
   · exact Z3M h5.now
   · exact Z3M h6.now
   · exact Z9x h7.now
   · exact Z3M h8.now
   · exact Z9x h9.now
 · intro o ho
   rcases List.mem_cons.1 ho with rfl|ho
   · exact⟨hb,_,hv,rfl⟩
   · exact hs.l o (List.mem_cons_of_mem _ ho)
 · intro F hF
   simp only[List.mem_cons]at hF;rcases hF with rfl|rfl|rfl|rfl|rfl|rfl|rfl|rfl|rfl|hF<;>first|assumption|exact hs.f F hF
 · intro o ho
   rcases List.mem_cons.1 ho with rfl|ho
   · exact hs.may ⟨b,e,.rep (StR N st)⟩ List.mem_cons_self
   · exact hs.may o (List.mem_cons_of_mem _ ho)
end
theorem Z8f{st:Pz.St}{vc vn vr vi vf vw vg vo vs:Value}(h: ∀u∈[vc,vn,vr,vi,vf,vw,vg,vo,vs],u.oneCell'=true):Cnt (.is (stV st vc vn vr vi vf vw vg vo vs)) 14:=ZQ rfl (by
 simp only[List.mem_cons,List.mem_nil_iff,or_false,forall_eq_or_imp,forall_eq]at h
 simp[Value.cells,h]
 all_goals exact⟨rfl,rfl,rfl,rfl,rfl⟩)
abbrev lx(s:ByteArray):List T3×Int:=lexL s.data.toList
theorem Z8S(N:Nat)(s:ByteArray):CallL Tryd.prog Z2q (Z:=Unit) [] [NH N,GF,AF] [.is (.string s)] (fun _=>True) (fun _=>[]) (fun _=>.tup2 (.rep (StR N (readS (lx s)).1)) (.is (.int .i64 (readS (lx s)).2))):=
CallL.ofD (N:=N) List.mem_cons_self (fn:=Tryd.f5) Tryd.func5 (n:=34) rfl rfl rfl (fun _ _=>by kernel_rfl) fun E W hNW hb0=>by
 refine vQ ?_;refine JO.alloc ZE rfl fun b2=>(JO.alloc Z9n rfl fun b3=>(vP [0,2,3] ?_));refine Jm rfl (Jq (Z1J rfl (Zbi _) (by simp) (.one rfl .nil)) ?_);refine Jm rfl (Jq (Z1m rfl) (Jq (Z1l rfl) (Ja rfl (JO.m (Z2 rfl rfl qU qC qO Z2I) (by rfl) ?_))));refine vP [2,3,4] ?_;refine Jq (Z5 Z1D rfl rfl) (Jq (Z2O rfl rfl) (vS [2,3,4,12] ?_));refine yC rfl (fun ht12=>?_) (fun ht12=>?_)
 repeat apply yQ
 refine J.regSm 2 3 ([⟨b3,Z1s,.is (.int .i64 (lx s).2)⟩,⟨b2,Zs,zSt⟩]) ([⟨b3,Z1s,.is (.int .i64 (lx s).2)⟩]) rfl rfl rfl rfl hmx qK rfl rfl qK (fun E w h m hm=>h m (by rw[List.mem_singleton.1 hm];exact List.mem_cons_self)) (fun E w h m hm=>h m (by rw[List.mem_singleton.1 hm];exact List.mem_cons_self)) ?_;refine yz (Zo (cs:=[_,_,_,_,_,_,_,_,_,_,_,_,_,_]) Z1y .nil rfl rfl) (yz (Z5 Z1D rfl rfl) ?_);refine RT.store (BigOb.store rfl (Z2 rfl rfl qU (by exact ZQ rfl rfl) (by exact ZQ rfl rfl) Zk)) ?_;apply yn;refine JO.m (Z2 rfl rfl qU qC qO Z2I) (by rfl) ?_;refine vS [2,3] ?_;refine vR ?_;refine JX.ret0D ?_;exact JX.retLCC (Lr:=_) (A:=.rep (StR N st0)) (B:=.int .i64 (lx s).2) rfl () trivial (.refl _) rfl hb0 rfl rfl Zm Z1D qI qI (Z11 rfl) rfl rfl SrZero (by show Ty.tup2 (.rep (StR N (readS (lx s)).1)) (.is (.int .i64 (readS (lx s)).2))=_;rw[Zdx (l:=lx s) (by simpa using ht12)]);apply yK
 repeat first|apply yX|apply yB
 have hq:(lx s).2=0:=by first|exact ht12|simpa using ht12
 refine vQ ?_;refine Jq (Z28 .nil (.cons rfl (.cons rfl .nil))) (JO.defer rfl (vS [2,3,4] ?_));refine J.openSlC (s:=4) rfl (fun a len cap bb oo hl ha hlc=>?_);have h9:(lx s).1.length<=2049:=Z9D _
 by_cases hn:(lx s).1=[]
 · have hz0:(lx s).1=[]:=hn
   refine vQ ?_;refine Jm rfl (Jq (Zo (cs:=[_]) Z51 (.cons rfl .nil) rfl rfl) (JO.box rfl rfl fun b18=>(Ja rfl (vP [2,3,5] ?_))));refine Jm rfl ?_;refine JO.callPK (Lr:=[_,_]) (Z89 b18 a cap) rfl (by rw[show len=0 by rw[<-hl,hn];rfl];exact .refl _) Z13 qA (fun _=>?_) (fun _ h=>h.elim)
   (repeat(first|refine JX.pan_pass ?_|refine JX.pan_block ?_))
   refine JX.panD (f:=Z1F) (cap:=[.pointer (some ⟨b2,0,none⟩),.pointer (some ⟨b3,0,none⟩)]) (L0:=[⟨b2,Zs,zSt⟩,⟨b3,Z1s,.is (.int .i64 (lx s).2)⟩]) (Lr:=[]) (Z8p b2 b3 _ (by exact ZQ rfl rfl) _) rfl (.swap _ _ _) ?_;exact JX.retLCC (Lr:=_) (A:=.rep (StR N st0)) (B:=.int .i64 30) rfl () trivial (.refl _) rfl hb0 rfl rfl Zm Z1D qI qI (Z11 rfl) rfl rfl SrZero (by show Ty.tup2 (.rep (StR N (readS (lx s)).1)) (.is (.int .i64 (readS (lx s)).2))=_;rw[ZaQ hq (by rw[hz0];rfl)])
 have ha2:=ha (by rw[<-hl];exact fun h=>hn (List.length_eq_zero_iff.1 h));subst ha2 hl;rw[ZdP];refine vQ ?_;refine Jm rfl (Jq (Zo (cs:=[_]) Z51 (.cons rfl .nil) rfl rfl) (JO.box rfl rfl fun b18=>(Ja rfl (vP [2,3,5] ?_))));refine Jm rfl ?_;refine JO.callPK (Lr:=[_,_]) (Z47 N ⟨(lx s).1,bb,oo,cap⟩ hlc h9 b18 (lx s).1 (List.suffix_refl _) ((lx s).1.length+1) (Nat.lt_succ_self _)) rfl (.refl _) qF qA (fun hbad=>?_) ?_
 · (repeat(first|refine JX.pan_pass ?_|refine JX.pan_block ?_))
   refine JX.panD (f:=Z1F) (cap:=[.pointer (some ⟨b2,0,none⟩),.pointer (some ⟨b3,0,none⟩)]) (L0:=[⟨b2,Zs,zSt⟩,⟨b3,Z1s,.is (.int .i64 (lx s).2)⟩]) (Lr:=[]) (Z8p b2 b3 _ (by exact ZQ rfl rfl) _) rfl (.swap _ _ _) ?_;exact JX.retLCC (Lr:=_) (A:=.rep (StR N st0)) (B:=.int .i64 30) rfl () trivial (.refl _) rfl hb0 rfl rfl Zm Z1D qI qI (Z11 rfl) rfl rfl SrZero (by show Ty.tup2 (.rep (StR N (readS (lx s)).1)) (.is (.int .i64 (readS (lx s)).2))=_;rw[ZaQ hq (Zce hbad)])
 intro z hz;have hzs:z.2<:+(lx s).1:=ZcM (Z29 _) hz;refine vD ?_;refine JO.m (Z2 rfl rfl qU (by exact ZQ rfl rfl) (by exact Z1z) Zk) (by rfl) ?_;refine vP [2,3,5] ?_;refine Jm rfl (JO.callK (Lr:=[_,_]) (Zh ⟨(lx s).1,bb,oo,cap⟩ hlc b18 z.2 hzs Z5P) rfl (.refl _) qF qA ?_);intro _ _;refine vD ?_;refine vP [2,3,5] ?_;refine Jm rfl (Jm rfl (Jq (Z3 rfl) (Jq (Z0 Z8 rfl) (Jq (Z5 Zj rfl rfl) (Jq (ZS ZG rfl) (Jq (ZT rfl rfl) ?_))))));refine JO.callPK (Lr:=_) (Zb (.pointer (some ⟨b18,0,none⟩)) _) rfl (Z1b _) qF qA (fun hbad=>?_) ?_
 · (repeat(first|refine JX.pan_pass ?_|refine JX.pan_block ?_))
   refine JX.panD (f:=Z1F) (cap:=[.pointer (some ⟨b2,0,none⟩),.pointer (some ⟨b3,0,none⟩)]) (L0:=[⟨b2,Zs,.rep (StR N z.1)⟩,⟨b3,Z1s,.is (.int .i64 (lx s).2)⟩]) (Lr:=[_]) (Z8p b2 b3 _ Z1z _) rfl (List.reverse_perm _).symm ?_;exact JX.retLCC (Lr:=_) (A:=.rep (StR N st0)) (B:=.int .i64 30) rfl () trivial (.refl _) rfl hb0 rfl rfl Zm Z1D qI qI (Z11 rfl) rfl rfl SrZero (by show Ty.tup2 (.rep (StR N (readS (lx s)).1)) (.is (.int .i64 (readS (lx s)).2))=_;rw[ZaQ hq (ZbM hz (by simpa using hbad))])
 intro _ hw0;refine vD ?_;refine vS [2,3] ?_;refine J.front b2 (by repeat(first|exact .here|apply Front.there)) ?_;refine J.openOwnSt fun vc vn vr vi vf vw vg vo vs h1c=>?_;have hwp:wholeP (lx s).1=some z.1:=Zbm hz (by simpa using hw0);refine vQ ?_;refine JO.callK (Lr:=[_,_]) (Za1 N b2 z.1 vc vn vr vi vf vw vg vo vs (Z9H hz) (fun x hx=>Nat.le_trans (Zat (Z29 _) (Z8l _) (Nat.le_refl _) hz x hx) qM)) rfl (.refl _) qF qA ?_;intro _ _;refine vD ?_;refine vS [2,3,31] ?_;refine yC rfl (fun ht31=>?_) (fun ht31=>?_);refine vQ ?_;refine Jq (Zo (cs:=[_,_,_,_,_,_,_,_,_,_,_,_,_,_]) Z1y .nil rfl rfl) (JO.m (Z2 rfl rfl qU (by exact Z8f h1c) (by exact ZQ rfl rfl) Zk) (by rfl) ?_);refine JO.m (Z2 rfl rfl qU qC qO Z2I) (by rfl) ?_;refine vS [2,3] ?_;refine vR ?_;refine JX.retD (f:=Z1F) (cap:=[.pointer (some ⟨b2,0,none⟩),.pointer (some ⟨b3,0,none⟩)]) (L0:=[⟨b2,Zs,zSt⟩,⟨b3,Z1s,.is (.int .i64 31)⟩]) (Lr:=[_]) (Zbj b2 b3 _ rfl _) (.cons _ (.swap _ _ _)) ?_;exact JX.retLCC (Lr:=_) (A:=.rep (StR N st0)) (B:=.int .i64 31) rfl () trivial (.refl _) rfl hb0 rfl rfl Zm Z1D qI qI (Z11 rfl) rfl rfl SrZero (by show Ty.tup2 (.rep (StR N (readS (lx s)).1)) (.is (.int .i64 (readS (lx s)).2))=_;rw[Ze8 hq hwp ht31]);apply yK;refine vN ?_;apply yN;refine Jq (Z18 (cs:=[_,_,_,_,_,_,_,_,_,_,_,_,_,_]) Zm rfl rfl rfl) (JO.m (Z2 rfl rfl qU (by exact Z8f h1c) (by exact Z8f h1c) Zk) (by rfl) ?_);refine JO.m (Z2 rfl rfl qU qC qO Z2I) (by rfl) ?_;refine vS [2,3] ?_;refine vR ?_;refine JX.retD (f:=Z1F) (cap:=[.pointer (some ⟨b2,0,none⟩),.pointer (some ⟨b3,0,none⟩)]) (L0:=[⟨b2,Zs,.is (stV z.1 vc vn vr vi vf vw vg vo vs)⟩,⟨b3,Z1s,.is (.int .i64 0)⟩]) (Lr:=[_]) (Zbj b2 b3 _ rfl _) (.cons _ (.swap _ _ _)) ?_;exact JX.retLCC (Lr:=_) (A:=.rep (StR N z.1)) (B:=.int .i64 0) rfl () trivial (.refl _) rfl hb0 rfl rfl Zm Z1D qI qI (Z11 rfl) rfl rfl (Sub.st rfl fun X w hf w' hk=>⟨hf _ qI w' hk,hf _ qI w' hk,hf _ qI w' hk,hf _ qI w' hk,hf _ qI w' hk,hf _ qI w' hk,hf _ qI w' hk,hf _ qI w' hk,hf _ qI w' hk⟩) (by show Ty.tup2 (.rep (StR N (readS (lx s)).1)) (.is (.int .i64 (readS (lx s)).2))=_;rw[ZdQ hq hwp ht31])
end Go.Proofs.YtbedigkncjbggaaDoor
set_option maxRecDepth 20000
namespace Go.Proofs.YtbedigkncjbggaaDoor
open Go Go.Vc
abbrev low(b:UInt8):UInt8:=lowC false b
end Go.Proofs.YtbedigkncjbggaaDoor
set_option maxRecDepth 20000
namespace Go.Proofs.YtbedigkncjbggaaDoor
open Go Go.Vc
end Go.Proofs.YtbedigkncjbggaaDoor
set_option maxRecDepth 20000
namespace Go.Proofs.YtbedigkncjbggaaDoor
open Go Go.Vc
structure Sep (c:UInt8):Prop where
 wd:wordB c=false
 dg:digB c=false
 lt:letB c=false
 nq:(c==39)=false
 sg: ∀b l,tryL (b::c::l) 2=false
section
variable{c:UInt8}(hc:Sep c)
include hc in
include hc in
include hc in
include hc in
include hc in
end
end Go.Proofs.YtbedigkncjbggaaDoor
set_option maxRecDepth 20000
namespace Go.Proofs.YtbedigkncjbggaaDoor
open Go Go.Vc Go.Pz
abbrev prS(l:List UInt8):St×Int:=readS (lexL l)
theorem ZaG{l:List UInt8}(h:(lexL l).2≠0):prS l=(st0,(lexL l).2):=by
 show readS _=_;unfold readS;rw[if_neg (by simpa using h)]
theorem ZbT{l:List UInt8}(h:(lexL l).2=0):prS l=readT (lexL l).1:=by
 show readS _=_;unfold readS;rw[if_pos (by simpa using h)]
theorem Zcf{ts:List T3}(h:(readT ts).2=0): ∃s r,stmtP (exprP (ts.length+1)) ts=some (s,r)/\skT 5 Z5P r=[]/\deepS s=false/\readT ts=(s,0):=by
 unfold readT at h ⊢
 split at h
 · cases h
 rename_i s hs
 split at h
 · cases h
 rename_i hd;unfold wholeP at hs;obtain⟨z,h1,h2⟩:=bnd hs
 split at h2
 · rename_i h3;injection h2 with h2;subst h2
   exact⟨z.1,z.2,h1,h3,by simpa using hd,by rw[if_neg hd]⟩
 · cases h2
instance:DecidableEq T3:=fun a b=>decidable_of_iff (a.k=b.k/\a.t=b.t/\a.n=b.n) ⟨fun⟨h1,h2,h3⟩=>by cases a;cases b;simp_all,fun h=>by subst h;exact⟨rfl,rfl,rfl⟩⟩
theorem ZdR{l:List UInt8}(h:(prS l).2=0):(lexL l).2=0:=by
 by_cases e:(lexL l).2=0
 · exact e
 · rw[ZaG e]at h;exact absurd h e
end Go.Proofs.YtbedigkncjbggaaDoor
set_option maxRecDepth 20000
namespace Go.Pz
open Go Go.Vc
abbrev sg(s:ByteArray):T3:=⟨5,s,0⟩
end Go.Pz
set_option maxRecDepth 20000
namespace Go.Proofs.YtbedigkncjbggaaDoor
open Go Go.Vc
open Go.Pz
theorem c_PF(N:Nat)(s:ByteArray):CallF Tryd.prog Z2q [NH N,GF,AF] [.is (.string s)] (.tup2 (.rep (StR N (prS s.data.toList).1)) (.is (.int .i64 (prS s.data.toList).2))):=CallL.toF (Z8S N s) rfl
abbrev aw1:ByteArray:=⟨#[115,101,108,101,99,116,32,42,32,102,114,111,109,32,116,32,119,104,101,114,101,32,97,32,61,32,49,32,97,110,100,32,110,111,116,32,98]⟩
abbrev aw2:ByteArray:=⟨#[97,32,60,32,98,32,60,32,99]⟩
theorem Ze4: ∃S0:Pz.St,S0.kind=4/\(∃y,S0.items=[y]/\y.all=true)/\(∃x,S0.where_=[x]/\x.K=16)/\S0.limit= -1/\CallF Tryd.prog Z2q [NH 0,GF,AF] [.is (.string aw1)] (.tup2 (.rep (StR 0 S0)) (.is (.int .i64 0))):=by
 have h0:(prS aw1.data.toList).2=0:=by decide+kernel
 have h1:(prS aw1.data.toList).1.kind=4:=by decide+kernel
 have h2:(match (prS aw1.data.toList).1.items with|[y]=>y.all|_=>false)=true:=by decide+kernel
 have h3:(match (prS aw1.data.toList).1.where_ with|[x]=>x.K==16|_=>false)=true:=by decide+kernel
 have h4:(prS aw1.data.toList).1.limit= -1:=by decide+kernel
 have hc:=c_PF 0 aw1
 generalize prS aw1.data.toList=p at h0 h1 h2 h3 h4 hc
 obtain⟨S0,e⟩:=p;dsimp only at h0 h1 h2 h3 h4 hc;subst h0;refine⟨S0,h1,?_,?_,h4,hc⟩
 · split at h2
   · rename_i y hy;exact⟨y,hy,h2⟩
   · cases h2
 · split at h3
   · rename_i x hx;exact⟨x,hx,by simpa using h3⟩
   · cases h3
theorem Zee: ∃S0:Pz.St,CallF Tryd.prog Z2q [NH 0,GF,AF] [.is (.string aw2)] (.tup2 (.rep (StR 0 S0)) (.is (.int .i64 30))):=by
 have h0:(prS aw2.data.toList).2=30:=by decide+kernel
 have hc:=c_PF 0 aw2
 generalize prS aw2.data.toList=p at h0 hc
 obtain⟨S0,e⟩:=p;dsimp only at h0 hc;subst h0;exact⟨S0,hc⟩
theorem Zdq{ps:List (Cel exE)}{l:List Ex}(h: ∃w,CelF exE ps w)(hm:ps.map Cel.x=l){i:Nat}(hi:i<ps.length)(hi':i<l.length):(ps[i].cs)[0]? =some (.int .i64 (l[i]).K):=by
 obtain⟨w,hw⟩:=h;subst hm;have h1:ExR ps[i].x (.agg (ps[i].cs).toArray) w:=hw _ (List.getElem_mem hi)
 generalize ps[i].cs=cs at h1
 rw[List.getElem_map]
 generalize ps[i].x=x at h1
 cases x;unfold ExR at h1;obtain⟨a,len,cap,e,_⟩:=h1;rw[Z2U e];rfl
theorem Z8U:CallF Tryd.prog Z8O [NH 0,GF,AF] [] (.is (.bool true)):=
CallF.of (fn:=Tryd.f4) Tryd.func4 (n:=56) rfl rfl rfl (fun _ _=>by kernel_rfl) fun E W=>by
 obtain⟨S1,hk1,⟨y1,hy1,hy2⟩,⟨x1,hx1,hx2⟩,hlim,hP1⟩:=Ze4;obtain⟨S2,hP2⟩:=Zee;refine vQ ?_;refine Ja rfl ?_;apply yI
 repeat first|apply yX|apply yB
 refine yL [] .nil (vQ ?_);refine Jq (Z1J rfl hP1 qF qA) ?_;refine Jm rfl (Jq (Z1m rfl) (Jq (Z1l rfl) (JO.alloc ZE rfl fun b1=>(JO.m (Z2 rfl rfl qU (by exact ZQ rfl rfl) (by exact Z1z) Zk) (by rfl) ?_))));refine Ja rfl (vP [1,2] ?_);refine Jq (Z1J rfl hP2 qF qA) ?_;refine Jm rfl (Jq (Z1m rfl) (Jq (Z1l rfl) (JO.alloc ZE rfl fun b3=>(JO.m (Z2 rfl rfl qU (by exact ZQ rfl rfl) (by exact Z1z) Zk) (by rfl) ?_))));refine Ja rfl (vS [1,2,4] ?_);refine J.front b1 (by repeat(first|exact .here|apply Front.there)) ?_;refine J.openOwnSt fun vc vn vr vi vf vw vg vo vs h1c=>?_;refine J.shapeE (xs:=S1.items) (v:=vi) qI (fun pi ai li ci bi oi_ hpi hvi hli hai=>?_);refine J.shapeE (xs:=S1.where_) (v:=vw) qI (fun pw aw lw cw bw ow_ hpw hvw hlw haw=>?_);refine J.pureF (F:=CelF itE pi) qI (fun pui=>?_);refine J.pureF (F:=CelF exE pw) qI (fun puw=>?_);subst hvi hvw;rw[hy1]at hpi;rw[hx1]at hpw;have li1:li=1:=by rw[<-hli,<-List.length_map (f:=Cel.x),hpi];rfl
 have lw1:lw=1:=by rw[<-hlw,<-List.length_map (f:=Cel.x),hpw];rfl
 repeat apply yQ
 refine J.reg0 hmx qK qK ?_;refine yz (Z1 rfl) (yz (ZT rfl rfl) (yz (Z1 rfl) (yg rfl rfl rfl (fun hg=>Z0 Z6s (.inl rfl)) (yg rfl rfl rfl (fun hg=>Z5 Zy (qR rfl) rfl) ?_))));refine yg rfl rfl rfl (fun hg=>ZT (qR rfl) (.inl rfl)) ?_;refine yz (Zz rfl rfl rfl id) (yz (Z1 rfl) (yg rfl rfl rfl (fun hg=>Z0 Z36 (.inl rfl)) (yg rfl rfl rfl (fun hg=>Z5 Z3G (qR rfl) rfl) ?_)));refine yg rfl rfl rfl (fun hg=>ZS Z3y (qR rfl)) ?_;refine yg rfl rfl rfl (fun hg=>ZT (qR rfl) (.inl rfl)) ?_;refine yz (Zz rfl rfl rfl id) (yz (Z1 rfl) (yg rfl rfl rfl (fun hg=>Z0 Z36 (.inl rfl)) (yg rfl rfl rfl (fun hg=>Z5 Z3G (qR rfl) rfl) ?_)));refine yg rfl rfl rfl (fun hg=>Zq Z5X (qR rfl) (hai qM) (.inl rfl) qM qM) ?_;refine yg rfl rfl rfl (fun hg=>Z0 Z8R (qR rfl)) ?_;refine yg rfl rfl rfl (fun hg=>Z1h (sz:=9) (i:=0) (j:=0) (enc:=@Cel.cs _ itE) (y:=pi[0]) (u:=.bool y1.all) Zdj (qR rfl) qI (hai qM) (List.getElem?_eq_getElem (by omega:0<pi.length)) rfl (ZcX (l:=[y1]) pui hpi qM Nat.zero_lt_one)) ?_;refine yz (Zz rfl rfl rfl id) (yz (Z1 rfl) (yg rfl rfl rfl (fun hg=>Z0 Z2s (.inl rfl)) (yg rfl rfl rfl (fun hg=>Z5 ZW (qR rfl) rfl) ?_)));refine yg rfl rfl rfl (fun hg=>ZS ZY (qR rfl)) ?_;refine yg rfl rfl rfl (fun hg=>ZT (qR rfl) (.inl rfl)) ?_;refine yz (Zz rfl rfl rfl id) (yz (Z1 rfl) (yg rfl rfl rfl (fun hg=>Z0 Z2s (.inl rfl)) (yg rfl rfl rfl (fun hg=>Z5 ZW (qR rfl) rfl) ?_)));refine yg rfl rfl rfl (fun hg=>Zq Z2R (qR rfl) (haw qM) (.inl rfl) qM qM) ?_;refine yg rfl rfl rfl (fun hg=>Z0 Z92 (qR rfl)) ?_;refine yg rfl rfl rfl (fun hg=>Z1h (sz:=8) (i:=0) (j:=0) (enc:=@Cel.cs _ exE) (y:=pw[0]) (u:=.int .i64 x1.K) Zy (qR rfl) qI (haw qM) (List.getElem?_eq_getElem (by omega:0<pw.length)) rfl (Zdq (l:=[x1]) puw hpw qM Nat.zero_lt_one)) ?_;refine yg rfl rfl rfl (fun hg=>ZT (qR rfl) (.inl rfl)) ?_;refine yz (Zz rfl rfl rfl id) (yz (Z1 rfl) (yg rfl rfl rfl (fun hg=>Z0 Z5U (.inl rfl)) (yg rfl rfl rfl (fun hg=>Z5 Zy (qR rfl) rfl) ?_)));refine yg rfl rfl rfl (fun hg=>ZT (qR rfl) (.inl rfl)) ?_;refine yz (Zz rfl rfl rfl id) (yz (Z1 rfl) (yg rfl rfl rfl (fun hg=>Z1 (.inl rfl)) (yg rfl rfl rfl (fun hg=>ZT (qR rfl) (.inl rfl)) ?_)));refine yz (Zz rfl rfl rfl id) (yz (Z2i rfl) ?_);apply yn;refine FinS.nil0 ?_;refine vS [0] ?_;refine vR ?_;exact JX.ret1is rfl rfl (by simp[hk1,li1,hy2,lw1,hx2,hlim])
end Go.Proofs.YtbedigkncjbggaaDoor
set_option maxRecDepth 20000
namespace Go.Proofs.YtbedigkncjbggaaDoor
open Go Go.Vc Go.Pz
end Go.Proofs.YtbedigkncjbggaaDoor
set_option maxRecDepth 20000
namespace Go.Proofs.YtbedigkncjbggaaDoor
open Go Go.Vc
open Go.Pz
theorem Zbx{ts:List T3}(h:(readT ts).2≠0):(readT ts).1=st0:=by
 unfold readT at h ⊢
 split
 · rfl
 · rename_i s hs
   rw[hs]at h;dsimp only at h ⊢
   split
   · rfl
   · rename_i hd;rw[if_neg hd]at h;exact absurd rfl h
theorem Zdb{l:List UInt8}(h:(prS l).2≠0):(prS l).1=st0:=by
 by_cases he:(lexL l).2=0
 · rw[ZbT he]at h ⊢;exact Zbx h
 · rw[ZaG he]
theorem Z6W(l:List UInt8):SmS (prS l).1/\ ∀x∈exsOf (prS l).1,ect x<=4096:=by
 by_cases h:(prS l).2=0
 · have he:=ZdR h
   rw[ZbT he]at h ⊢;obtain⟨s,r,h1,_,_,h4⟩:=Zcf h;rw[h4];refine⟨Z9H h1,fun x hx=>?_⟩;have:=Zat (Z29 _) (Z8l _) (Nat.le_refl _) h1 x hx;have:=Z9D l
   omega
 · rw[Zdb h]
   refine⟨⟨Nat.zero_le _,(fun x hx=>by cases hx),Nat.zero_le _,Nat.zero_le _,(fun x hx=>by cases hx),Nat.zero_le _,Nat.zero_le _,Nat.zero_le _,Nat.zero_le _,Nat.zero_le _,Nat.zero_le _⟩,fun x hx=>by simp[exsOf,st0]at hx⟩
theorem Z1a(a b:ByteArray):a++b=bl (a.data.toList++b.data.toList):=by
 apply ByteArray.ext;apply Array.ext'
 simp
theorem c_PL(N:Nat)(l:List UInt8):CallF Tryd.prog Z2q [NH N,GF,AF] [.is (.string (bl l))] (.tup2 (.rep (StR N (prS l).1)) (.is (.int .i64 (prS l).2))):=c_PF N (bl l)
theorem ZcG{ps:List (Cel rwE)}{l:List (List Ex)}(h: ∃w,CelF rwE ps w)(hm:ps.map Cel.x=l): ∃a cap,∀hi:0<ps.length,(ps[0]'hi).cs=[.slice a (l.headD []).length cap]:=by
 by_cases hi:0<ps.length
 · have hl:0<l.length:=by rw[<-hm,List.length_map];exact hi
   obtain⟨a,cap,e⟩:=Zdu h hm hi hl;refine⟨a,cap,fun _=>?_⟩;rw[e];cases l with
   |nil=>cases hl
   |cons a r=>rfl
 · exact⟨none,0,fun h=>absurd h hi⟩
end Go.Proofs.YtbedigkncjbggaaDoor
set_option maxRecDepth 20000
namespace Go.Proofs.YtbedigkncjbggaaDoor
open Go Go.Vc Go.Pz
def colL:Nat->List UInt8
 |0=>[]
 |i+1=>(if 0<i then colL i++[44,32]else colL i)++[97,32,105,110,116]
def oneL:Nat->List UInt8
 |0=>[]
 |i+1=>(if 0<i then oneL i++[44]else oneL i)++[49]
def rowL:Nat->List UInt8
 |0=>[40,49,41]
 |i+1=>rowL i++[44,40,49,41]
def jnL:Nat->List UInt8
 |0=>[]
 |i+1=>jnL i++[32,106,111,105,110,32,117,32,111,110,32,49]
abbrev lsA(k:Nat):List UInt8:=[99,114,101,97,116,101,32,116,97,98,108,101,32,116,32,40]++colL k++[41]
abbrev lsB(k:Nat):List UInt8:=[105,110,115,101,114,116,32,105,110,116,111,32,116,32,118,97,108,117,101,115,32,40]++oneL k++[41]
abbrev lsC(k:Nat):List UInt8:=[115,101,108,101,99,116,32]++oneL k++[32,102,114,111,109,32,116,32,111,114,100,101,114,32,98,121,32]++oneL k
abbrev lsD(k:Nat):List UInt8:=[105,110,115,101,114,116,32,105,110,116,111,32,116,32,118,97,108,117,101,115,32]++rowL (k+16)
abbrev lsX(k:Nat):List UInt8:=[115,101,108,101,99,116,32,42,32,102,114,111,109,32,116]++jnL (k-12)
def okLA(k:Nat)(r:St×Int):Bool:=((r.2==0)==decide (k<=16))&&(!(decide (k<=16))||r.1.cols.length==k)
def okLB(k:Nat)(r:St×Int):Bool:=((r.2==0)==decide (k<=16))&&(!(decide (k<=16))||(match r.1.rows with|x::_=>x.length==k|_=>false))
def okLC(k:Nat)(r:St×Int):Bool:=((r.2==0)==decide (k<=16))&&(!(decide (k<=16))||r.1.order.length==k)
def okLD(k:Nat)(r:St×Int):Bool:=((r.2==0)==decide (k+17<=32))&&(!(r.2==0)||r.1.rows.length==k+17)
def okLX(k:Nat)(r:St×Int):Bool:=((r.2==0)==decide (k<=15))&&(!(r.2==0)||r.1.from_.length+11==k)
theorem Zbt:[14,15,16,17].all (fun k=>okLA k (prS (lsA k))&&(okLB k (prS (lsB k))&&(okLC k (prS (lsC k))&&(okLD k (prS (lsD k))&&okLX k (prS (lsX k))))))=true:=by decide+kernel
theorem Zd4{k:Nat}(h:14<=k/\k<=17):okLA k (prS (lsA k))=true/\okLB k (prS (lsB k))=true/\okLC k (prS (lsC k))=true/\okLD k (prS (lsD k))=true/\okLX k (prS (lsX k))=true:=by
 have:=List.all_eq_true.1 Zbt k (by simp only[List.mem_cons,List.mem_nil_iff,or_false];omega)
 simpa [Bool.and_eq_true] using this
theorem Z67: ∀k,(colL k).length<=7*k
 |0=>Nat.le_refl _
 |k+1=>by
   have:=Z67 k;unfold colL
   split
   · simp only[List.length_append,List.length_cons,List.length_nil];omega
   · simp only[List.length_append,List.length_cons,List.length_nil];omega
theorem Z5Z: ∀k,(oneL k).length<=2*k
 |0=>Nat.le_refl _
 |k+1=>by
   have:=Z5Z k;unfold oneL
   split
   · simp only[List.length_append,List.length_cons,List.length_nil];omega
   · simp only[List.length_append,List.length_cons,List.length_nil];omega
theorem Z6g: ∀k,(rowL k).length=3+4*k
 |0=>rfl
 |k+1=>by
   have:=Z6g k;unfold rowL;simp only[List.length_append,List.length_cons,List.length_nil];omega
theorem Z7a: ∀k,(jnL k).length=12*k
 |0=>rfl
 |k+1=>by
   have:=Z7a k;unfold jnL;simp only[List.length_append,List.length_cons,List.length_nil];omega
end Go.Proofs.YtbedigkncjbggaaDoor
