/- value.Ok, value.Show. No condition. -/
import Derived.Test.YtbedigkncjbggaaGreatDoorXQ5
import Derived.Test.YtbedigkncjbggaaGreatDoorXQ3
import Derived.Test.YtbedigkncjbggaaGreatDoorXG4
import Derived.Test.YtbedigkncjbggaaGreatDoorXQ1
import Derived.Test.YtbedigkncjbggaaGreatDoorXQ2
set_option maxRecDepth 20000
namespace Go.Proofs.YtbedigkncjbggaaGreatDoor
open Go Go.Vc
def okV(v:V3):Bool:=if v.k==0 then(v.n==0)&&seq v.s ⟨#[]⟩else if v.k==1 then seq v.s ⟨#[]⟩else if v.k==2 then(v.n.fdiv 2==0)&&seq v.s ⟨#[]⟩else((v.k==3)&&(v.n==0))&&decide ((v.s.size:Int)<=64)
abbrev qu1:ByteArray:=⟨#[39]⟩
def showV(v:V3):ByteArray:=if !okV v then⟨#[]⟩else if v.k==1 then⟨(Lib.itoa v.n).toArray⟩else if v.k==2 then⟨(Lib.toUpperA (Lib.formatBool (v.n==1))).toArray⟩else if v.k==3 then(qu1++⟨(repL 39 [39,39] v.s.data.toList).toArray⟩)++qu1 else⟨#[78,85,76,76]⟩
theorem ZkZ{v:V3}(h:okV v=true)(h3:(v.k==3)=true):v.s.size<=64:=by
 have e:v.k=3:=by simpa using h3
 unfold okV at h;rw[e]at h
 simp at h
 omega
theorem Zjs(b:Bool): ∀(j:Nat) (c:UInt8),(⟨(Lib.formatBool b).toArray⟩:ByteArray).data.toList[j]? =some c->c.toNat<128:=fun j c h=>by
 have hm:=List.mem_of_getElem? h;have hall: ∀b:Bool,∀c∈(⟨(Lib.formatBool b).toArray⟩:ByteArray).data.toList,c.toNat<128:=by decide+kernel
 exact hall b c hm
theorem Zlf(b:Bool):(⟨(Lib.formatBool b).toArray⟩:ByteArray).size<=140737488355328:=by
 have: ∀b:Bool,(⟨(Lib.formatBool b).toArray⟩:ByteArray).size<=5:=by decide+kernel
 have:=this b
 omega
theorem ZjF(c:UInt8)(s:ByteArray)(h:s.size<=64){new:List UInt8}(hn:new.length<=2):(⟨(repL c new s.data.toList).toArray⟩:ByteArray).size<=128:=by
 have h1:=Z6d c hn s.data.toList;rw[Z18]at h1;show(bl _).size<=128;rw[Z29]
 omega
theorem ZgS(v:V3):CallTy Tryz.prog Zh9 [.is (.agg #[.int .i64 v.k,.int .i64 v.n,.string v.s])] (.is (.bool (okV v))):=
 CallTy.of (fn:=Tryz.f91) Tryz.func91 (n:=45) rfl rfl rfl (fun _ _=>by kernel_rfl) fun E W=>by
 refine vQ ?_;refine JO.box rfl rfl fun b1=>(Ja rfl (vP [1] ?_));refine Jq (Z0 Z1U rfl) (Jq (Z1 Zq rfl rfl) (vS [1,4] ?_));apply yk;refine vQ ?_;refine Jq (Zu rfl rfl) (Ja rfl (vS [1,4,5] ?_));refine yC rfl (fun ht5=>?_) (fun ht5=>?_)
 try simp only[yd,yf]at ht5
 repeat apply yQ
 refine J.reg0 hmx qK qK ?_;refine yz (Z0 Z1x rfl) (yz (Z1 Z2y rfl rfl) (yz (Zu rfl rfl) (yz (Z2 rfl) (yg rfl rfl rfl (fun hg=>Z0 Z2w (.inl rfl)) (yg rfl rfl rfl (fun hg=>Z1 Za (qR rfl) rfl) ?_)))));refine yg rfl rfl rfl (fun hg=>Z1L (qR rfl) (.inl rfl)) ?_;refine yz (Zn rfl rfl rfl id) (yz (Z15 rfl) ?_);apply yn;refine FinS.nil0 ?_;refine vS [2] ?_;refine vR ?_;exact JX.ret1is rfl rfl (by unfold okV;rw[if_pos ht5])
 try simp only[yd,yf]at ht5
 refine vQ ?_;refine Jq (Zu rfl rfl) (Ja rfl (vS [1,4,15] ?_));refine yC rfl (fun ht15=>?_) (fun ht15=>?_)
 try simp only[yd,yf]at ht15
 refine vQ ?_;refine Jq (Z0 Z2w rfl) (Jq (Z1 Za rfl rfl) (Jq (Z1L rfl rfl) (Ja rfl (vS [2] ?_))));refine vR ?_;exact JX.ret1is rfl rfl (by unfold okV;rw[if_neg (by rw[ht5];simp),if_pos ht15])
 try simp only[yd,yf]at ht15
 refine vQ ?_;refine Jq (Zu rfl rfl) (Ja rfl (vS [1,20] ?_));refine yC rfl (fun ht20=>?_) (fun ht20=>?_)
 try simp only[yd,yf]at ht20
 repeat apply yQ
 refine J.reg0 hmx qK qK ?_;refine yz (Z0 Z1x rfl) (yz (Z1 Z2y rfl rfl) (yz (ZlY rfl rfl rfl) (yz (Zu rfl rfl) (yz (Z2 rfl) (yg rfl rfl rfl (fun hg=>Z0 Z2w (.inl rfl)) (yg rfl rfl rfl (fun hg=>Z1 Za (qR rfl) rfl) ?_))))));refine yg rfl rfl rfl (fun hg=>Z1L (qR rfl) (.inl rfl)) ?_;refine yz (Zn rfl rfl rfl id) (yz (Z15 rfl) ?_);apply yn;refine FinS.nil0 ?_;refine vS [2] ?_;refine vR ?_;exact JX.ret1is rfl rfl (by unfold okV;rw[if_neg (by rw[ht5];simp),if_neg (by rw[ht15];simp),if_pos ht20];rfl)
 try simp only[yd,yf]at ht20
 apply yK;refine vN ?_;refine J.reg0 hmx qK qK ?_;refine yz (Z0 Z1U rfl) (yz (Z1 Zq rfl rfl) (yz (Zu rfl rfl) (yz (Z2 rfl) (yg rfl rfl rfl (fun hg=>Z0 Z1x (.inl rfl)) (yg rfl rfl rfl (fun hg=>Z1 Z2y (qR rfl) rfl) ?_)))));refine yg rfl rfl rfl (fun hg=>Zu (qR rfl) (.inl rfl)) ?_;refine yz (Zn rfl rfl rfl id) (yz (Z2 rfl) (yg rfl rfl rfl (fun hg=>Z0 Z2w (.inl rfl)) (yg rfl rfl rfl (fun hg=>Z1 Za (qR rfl) rfl) ?_)));refine yg rfl rfl rfl (fun hg=>Z1T Zd (qR rfl)) ?_;refine yg rfl rfl rfl (fun hg=>Z3U (qR rfl) (.inl rfl)) ?_;refine yz (Zn rfl rfl rfl id) (yz (Z15 rfl) ?_);apply yn;refine FinS.nil0 ?_;refine vS [2] ?_;refine vR ?_;exact JX.ret1is rfl rfl (by unfold okV;rw[if_neg (by rw[ht5];simp),if_neg (by rw[ht15];simp),if_neg (by rw[ht20];simp)])
theorem ZeP(v:V3)(h0: -9223372036854775808<=v.n)(h1:v.n<=9223372036854775807):CallF Tryz.prog Zf3 [GF,TF] [.is (.agg #[.int .i64 v.k,.int .i64 v.n,.string v.s])] (.is (.string (showV v))):=
CallF.of (fn:=Tryz.f54) Tryz.func54 (n:=32) rfl rfl rfl (fun _ _=>by kernel_rfl) fun E W=>by
 refine vQ ?_;refine JO.box rfl rfl fun b1=>(Ja rfl (vS [1] ?_));apply yk;refine vQ ?_;refine Jq (ZR (cs:=[_,_,_]) Z4T rfl rfl rfl) (Jq (Zo rfl (ZgS v) qA) ?_);refine Jq (Z2e rfl) (Ja rfl (vS [1,3] ?_));refine yC rfl (fun ht3=>?_) (fun ht3=>?_)
 try simp only[yd,yf]at ht3
 refine vQ ?_;refine Ja rfl (vS [2] ?_);refine vR ?_;exact JX.ret1is rfl rfl (by unfold showV;rw[if_pos ht3])
 try simp only[yd,yf]at ht3
 refine vQ ?_;refine Jq (Z0 Z1U rfl) (Jq (Z1 Zq rfl rfl) (Jq (Zu rfl rfl) (Ja rfl (vS [1,7] ?_))));refine yC rfl (fun ht7=>?_) (fun ht7=>?_)
 try simp only[yd,yf]at ht7
 refine vQ ?_;refine Jq (Z0 Z1x rfl) (Jq (Z1 Z2y rfl rfl) (Jq (ZN rfl (Za8 v.n h0 h1) (by simp) qA) ?_));refine Ja rfl (vS [2] ?_);refine vR ?_;exact JX.ret1is rfl rfl (by unfold showV;rw[if_neg (by rw[ht3];simp),if_pos ht7])
 try simp only[yd,yf]at ht7
 refine vQ ?_;refine Jq (Z0 Z1U rfl) (Jq (Z1 Zq rfl rfl) (Jq (Zu rfl rfl) (Ja rfl (vS [1,14] ?_))));refine yC rfl (fun ht14=>?_) (fun ht14=>?_)
 try simp only[yd,yf]at ht14
 refine vQ ?_;refine Jq (Z0 Z1x rfl) (Jq (Z1 Z2y rfl rfl) (Jq (Zu rfl rfl) (Jq (Zo rfl (Z9z (v.n==1)) qA) ?_)));refine Jq (Zo rfl (Z6U ⟨(Lib.formatBool (v.n==1)).toArray⟩ (Zlf _) (Zjs _)) (.one rfl .nil)) (Ja rfl (vS [2] ?_));refine vR ?_;exact JX.ret1is rfl rfl (by unfold showV;rw[if_neg (by rw[ht3];simp),if_neg (by rw[ht7];simp),if_pos ht14])
 try simp only[yd,yf]at ht14
 refine vQ ?_;refine Jq (Z0 Z1U rfl) (Jq (Z1 Zq rfl rfl) (Jq (Zu rfl rfl) (Ja rfl (vS [1,23] ?_))));refine yC rfl (fun ht23=>?_) (fun ht23=>?_)
 try simp only[yd,yf]at ht23
 have h64:=ZkZ (by simpa using ht3) ht23;have hrs:=ZjF 39 v.s h64 (new:=[39,39]) qD;refine vQ ?_;refine Jq (Z0 Z2w rfl) (Jq (Z1 Za rfl rfl) (Jq (ZN rfl (Z9G v.s 39 ⟨#[39,39]⟩ qM qD qD) (by simp) qA) ?_));refine Jq (Z67 rfl rfl (by have:qu1.size=1:=rfl;show qu1.size+(⟨(repL 39 [39,39] v.s.data.toList).toArray⟩:ByteArray).size<=9223372036854775807;omega)) ?_;refine Jq (Z67 rfl rfl (by have:qu1.size=1:=rfl;show(qu1++⟨(repL 39 [39,39] v.s.data.toList).toArray⟩).size+qu1.size<=9223372036854775807;rw[ByteArray.size_append];omega)) ?_;refine Ja rfl (vS [2] ?_);refine vR ?_;exact JX.ret1is rfl rfl (by unfold showV;rw[if_neg (by rw[ht3];simp),if_neg (by rw[ht7];simp),if_neg (by rw[ht14];simp),if_pos ht23])
 try simp only[yd,yf]at ht23
 apply yK;refine vN ?_;apply yN;refine Ja rfl (vS [2] ?_);refine vR ?_;exact JX.ret1is rfl rfl (by unfold showV;rw[if_neg (by rw[ht3];simp),if_neg (by rw[ht7];simp),if_neg (by rw[ht14];simp),if_neg (by rw[ht23];simp)])
end Go.Proofs.YtbedigkncjbggaaGreatDoor
set_option maxRecDepth 20000
namespace Go.Proofs.YtbedigkncjbggaaGreatDoor
open Go Go.Vc
structure Sep (c:UInt8):Prop where
 wd:wordB c=false
 dg:digB c=false
 lt:letB c=false
 nq:(c==39)=false
 sg: ∀b l,tryL (b::c::l) 2=false
section
variable{c:UInt8}(hc:Sep c)
include hc in
include hc in
include hc in
include hc in
include hc in
end
end Go.Proofs.YtbedigkncjbggaaGreatDoor
set_option maxRecDepth 20000
namespace Go.Proofs.YtbedigkncjbggaaGreatDoor
open Go Go.Vc Go.Pz
abbrev prS(l:List UInt8):St×Int:=readS (lexL l)
theorem Zgy{l:List UInt8}(h:(lexL l).2≠0):prS l=(st0,(lexL l).2):=by
 show readS _=_;unfold readS;rw[if_neg (by simpa using h)]
theorem Zee{l:List UInt8}(h:(lexL l).2=0):prS l=readT (lexL l).1:=by
 show readS _=_;unfold readS;rw[if_pos (by simpa using h)]
theorem ZeW{ts:List T3}(h:(readT ts).2=0): ∃s r,stmtP (exprP (ts.length+1)) ts=some (s,r)/\skT 5 Z5d r=[]/\deepS s=false/\readT ts=(s,0):=by
 unfold readT at h ⊢
 split at h
 · cases h
 rename_i s hs
 split at h
 · cases h
 rename_i hd;unfold wholeP at hs;obtain⟨z,h1,h2⟩:=bnd hs
 split at h2
 · rename_i h3;injection h2 with h2;subst h2
   exact⟨z.1,z.2,h1,h3,by simpa using hd,by rw[if_neg hd]⟩
 · cases h2
instance:DecidableEq T3:=fun a b=>decidable_of_iff (a.k=b.k/\a.t=b.t/\a.n=b.n) ⟨fun⟨h1,h2,h3⟩=>by cases a;cases b;simp_all,fun h=>by subst h;exact⟨rfl,rfl,rfl⟩⟩
theorem ZeL{l:List UInt8}(h:(prS l).2=0):(lexL l).2=0:=by
 by_cases e:(lexL l).2=0
 · exact e
 · rw[Zgy e]at h;exact absurd h e
theorem ZiH{l:List UInt8}(he:(stepL l).1.2=0):Go.Pz.okT (stepL l).1.1:=by
 cases l with
 |nil=>cases he
 |cons b l=>
   rw[stepL]at he ⊢
   split at he
   · rename_i h1
     rw[if_pos h1];unfold wordL at he ⊢
     split at he
     · rename_i h2;rw[if_pos h2];exact⟨by show(1:Int)<=1;decide,by show(1:Int)<=5;decide,fun h=>by cases h⟩
     rename_i n2;rw[if_neg n2]
     split at he
     · cases he
     · rename_i h2;rw[if_neg h2];exact⟨by show(1:Int)<=2;decide,by show(2:Int)<=5;decide,fun h=>by cases h⟩
   rename_i n1;rw[if_neg n1]
   split at he
   · rename_i h1
     rw[if_pos h1];unfold numL at he ⊢
     split at he
     · rename_i h2;dsimp only at he;rw[he]at h2;cases h2
     · rename_i h2;rw[if_neg h2];exact⟨by show(1:Int)<=3;decide,by show(3:Int)<=5;decide,fun h=>by cases h⟩
   rename_i n1;rw[if_neg n1]
   split at he
   · rename_i h1
     rw[if_pos h1];have ht: ∀(l acc:List UInt8),(textL l acc).1.2=0->(textL l acc).1.1.k=4:=by
       intro l;have he2: ∀acc,(endT acc).2=0->(endT acc).1.k=4:=fun acc h=>by
         unfold endT at h ⊢
         split at h
         · cases h
         · rename_i h2;rw[if_neg h2]
       induction hn:l.length using Nat.strongRecOn generalizing l with
       |ind n ih=>
         intro acc h
         match l,hn with
         |[],_=>cases h
         |[b],_=>
           rw[textL]at h ⊢
           split at h
           · rename_i h3;rw[if_pos h3];exact he2 _ h
           · cases h
         |b::c::l,hn=>
           rw[textL]at h ⊢
           split at h
           · rename_i h3;rw[if_pos h3]
             split at h
             · rename_i h4;rw[if_pos h4];exact he2 _ h
             · rename_i h4;rw[if_neg h4];exact ih l.length (by simp at hn;omega) l rfl _ h
           · rename_i h3;rw[if_neg h3];exact ih (c::l).length (by simp at hn ⊢;omega) (c::l) rfl _ h
     have:=ht l [] he;refine⟨?_,?_,fun h=>?_⟩<;>dsimp only at* <;>omega
   · rename_i h1
     rw[if_neg h1];unfold signL at he ⊢
     split at he
     · rename_i h2;rw[if_pos h2]
       exact⟨by show(1:Int)<=5;decide,Int.le_refl _,fun _=>⟨rfl,by rw[Z1O,List.length_take];omega⟩⟩
     rename_i n2;rw[if_neg n2]
     split at he
     · rename_i h2;rw[if_pos h2]
       exact⟨by show(1:Int)<=5;decide,Int.le_refl _,fun _=>⟨rfl,by rw[Z1O,List.length_take];omega⟩⟩
     · cases he
theorem Zeo: ∀(f:Nat) (l:List UInt8),∀x∈(allG f l).1,Go.Pz.okT x
 |0,_,x,h=>by cases h
 |f+1,l,x,h=>by
   unfold allG at h
   split at h
   · cases h
   rename_i b r _
   split at h
   · cases h
   rename_i h1
   split at h
   · cases h
   rcases List.mem_cons.1 h with rfl|h
   · exact ZiH (by simpa using h1)
   · exact Zeo f _ x h
theorem Zln(l:List UInt8):Go.Pz.okL (lexL l).1:=fun x h=>by
 unfold lexL at h
 split at h
 · cases h
 · exact Zeo _ _ x h
end Go.Proofs.YtbedigkncjbggaaGreatDoor
set_option maxRecDepth 20000
namespace Go.Proofs.YtbedigkncjbggaaGreatDoor
open Go Go.Vc Go.Pz
abbrev tx(s:ByteArray):List UInt8:=s.data.toList
def litS(vk vn:Int)(vs:ByteArray):List UInt8:=(showV ⟨vk,vn,vs⟩).data.toList
def opS(k:Int):List UInt8:=tx (binT k).t
def parS(x:Ex)(l:List UInt8):List UInt8:=if big x then 40::(l++[41])else l
mutual
def prE:Ex->List UInt8
 | .mk k vk vn vs tb nm _ kids=>
   if k==1 then litS vk vn vs
   else if k==2 then(if sq tb em then tx nm else tx tb++46::tx nm)
   else if k==3 then 45::hd0 (prEs kids)
   else if k==4 then[78,79,84]++32::hd0 (prEs kids)
   else if k==18 then hd0 (prEs kids)++[32,73,83,32,78,85,76,76]
   else if k==19 then hd0 (prEs kids)++[32,73,83,32,78,79,84,32,78,85,76,76]
   else if decide (20<=k)&&decide (k<=23)then tx (aggW k)++40::((match prEs kids with|[]=>[42]|y::_=>y.1)++[41])
   else if decide (k<5)||decide (17<k)then[63]
   else hd0 (prEs kids)++32::(opS k++32::hd1 (prEs kids))
def prEs:List Ex->List (List UInt8×List UInt8)
 |[]=>[]
 |x::xs=>(prE x,parS x (prE x))::prEs xs
end
def prO(x:Ex):List UInt8:=parS x (prE x)
structure One (c:UInt8):Prop where
 st: ∀m,stepL (c::m)=((sg ⟨#[c]⟩,0),1)
 sp:isSp c=false
def nmOk(s:ByteArray):Prop:=rt ⟨2,s,0⟩/\s.size<=2048
theorem Zn0(s:ByteArray)(h:nmOk s):sq s em=false:=by
 obtain⟨⟨b,t,h1,_⟩,_⟩:=h;have h2:s.data.toList=b::t:=h1;unfold sq;rw[h2];rfl
theorem Zl6{n:Int}:litS 1 n em=showT ⟨3,em,n⟩:=by
 have h:okV ⟨1,n,⟨#[]⟩⟩=true:=by unfold okV;rw[if_neg (by show ¬((1:Int)==0)=true;decide),if_pos (by show((1:Int)==1)=true;decide)];exact(by simp[seq]:seq ⟨#[]⟩ ⟨#[]⟩=true)
 unfold litS showV showT;rw[h,if_neg qD,if_pos (by show((1:Int)==1)=true;decide),if_pos (by show((3:Int)==3)=true;decide)]
theorem Zky{s:ByteArray}(h:s.size<=64):litS 3 0 s=showT ⟨4,s,0⟩:=by
 have h9:okV ⟨3,0,s⟩=true:=by
  unfold okV;rw[if_neg (by show ¬((3:Int)==0)=true;decide),if_neg (by show ¬((3:Int)==1)=true;decide),if_neg (by show ¬((3:Int)==2)=true;decide)];show((((3:Int)==3)&&((0:Int)==0))&&decide ((s.size:Int)<=64))=true;rw[decide_eq_true qM]
  rfl
 unfold litS showV showT;rw[h9,if_neg qD,if_neg (by show ¬((3:Int)==1)=true;decide),if_neg (by show ¬((3:Int)==2)=true;decide),if_pos (by show((3:Int)==3)=true;decide),if_neg (by show ¬((4:Int)==3)=true;decide),if_pos (by show((4:Int)==4)=true;decide)];show((qu1++bl _)++qu1).data.toList=_;rw[Z3Y,Z3Y,Z1O]
 rfl
theorem Zl8:litS 2 1 em=tx Z5j:=by decide+kernel
theorem ZkS:litS 2 0 em=tx Z4B:=by decide+kernel
theorem Zk8:litS 0 0 em=tx Z1v:=by decide+kernel
theorem ZkJ{q:Int}{x y:Ex}(h5:5<=q)(h17:q<=17):prE (nd q [x,y])=prO x++32::(opS q++32::prO y):=by
 unfold prE;simp only[prEs];rw[if_neg (by simp;omega),if_neg (by simp;omega),if_neg (by simp;omega),if_neg (by simp;omega),if_neg (by simp;omega),if_neg (by simp;omega),if_neg (by simp;omega),if_neg (by simp;omega)]
 rfl
theorem Zkr{q:Int}{x:Ex}(h0:20<=q)(h1:q<=23):prE (nd q [x])=tx (aggW q)++40::(prE x++[41]):=by
 conv=>lhs;unfold prE
 simp only[prEs];rw[if_neg (by simp;omega),if_neg (by simp;omega),if_neg (by simp;omega),if_neg (by simp;omega),if_neg (by simp;omega),if_neg (by simp;omega),if_pos (by simp;omega)]
end Go.Proofs.YtbedigkncjbggaaGreatDoor
set_option maxRecDepth 20000
namespace Go.Proofs.YtbedigkncjbggaaGreatDoor
open Go Go.Vc Go.Pz
abbrev kCT:List UInt8:=[67,82,69,65,84,69,32,84,65,66,76,69]
abbrev kCI:List UInt8:=[67,82,69,65,84,69,32,73,78,68,69,88]
abbrev kON:List UInt8:=[79,78]
abbrev kUH:List UInt8:=[85,83,73,78,71,32,72,65,83,72]
abbrev kII:List UInt8:=[73,78,83,69,82,84,32,73,78,84,79]
abbrev kVA:List UInt8:=[86,65,76,85,69,83]
abbrev kSE:List UInt8:=[83,69,76,69,67,84]
abbrev kFR:List UInt8:=[70,82,79,77]
abbrev kWH:List UInt8:=[87,72,69,82,69]
abbrev kGB:List UInt8:=[71,82,79,85,80,32,66,89]
abbrev kOB:List UInt8:=[79,82,68,69,82,32,66,89]
abbrev kLI:List UInt8:=[76,73,77,73,84]
abbrev kUP:List UInt8:=[85,80,68,65,84,69]
abbrev kST:List UInt8:=[83,69,84]
abbrev kDF:List UInt8:=[68,69,76,69,84,69,32,70,82,79,77]
abbrev kBE:List UInt8:=[66,69,71,73,78]
abbrev kCO:List UInt8:=[67,79,77,77,73,84]
abbrev kRO:List UInt8:=[82,79,76,76,66,65,67,75]
abbrev kAS:List UInt8:=[65,83]
abbrev kJO:List UInt8:=[74,79,73,78]
abbrev kDE:List UInt8:=[68,69,83,67]
abbrev kNN:List UInt8:=[78,79,84,32,78,85,76,76]
abbrev kUN:List UInt8:=[85,78,73,81,85,69]
abbrev kEQ:List UInt8:=[61]
def joinC:List (List UInt8)->List UInt8
 |[]=>[]
 |x::xs=>x++xs.flatMap fun y=>44::32::y
def txTy(t:Int):List UInt8:=if decide (1<=t)&&decide (t<=3)then 32::tx (typW t)else[]
def txC(c:Col):List UInt8:=tx c.nm++(txTy c.ty++((if c.nn then 32::kNN else[])++(if c.un then 32::kUN else[])))
def txSrc(s:Pz.Src):List UInt8:=tx s.tb++if sq s.nm s.tb then[]else 32::(kAS++32::tx s.nm)
def txCl(w:List UInt8)(l:List Ex):List UInt8:=if l.isEmpty then[]else 32::(w++32::joinC (l.map prE))
def txJ(s:Pz.Src):List UInt8:=32::(kJO++32::(txSrc s++txCl kON s.on))
def txFr:List Pz.Src->List UInt8
 |[]=>[]
 |s::js=>(txSrc s++txCl kON s.on)++js.flatMap txJ
def txItm(i:Itm):List UInt8:=if i.all then[42]else prE i.ex
def txKy(k:Ky):List UInt8:=prE k.ex++if k.desc then 32::kDE else[]
def txR(r:List Ex):List UInt8:=40::(joinC (r.map prE)++[41])
def txSet(p:ByteArray×Ex):List UInt8:=tx p.1++32::(kEQ++32::prE p.2)
def txOr(l:List Ky):List UInt8:=if l.isEmpty then[]else 32::(kOB++32::joinC (l.map txKy))
def txLim(n:Int):List UInt8:=if decide (0<=n)then 32::(kLI++32::Lib.itoa n)else[]
def txNs(l:List ByteArray):List UInt8:=if l.isEmpty then[]else 32::40::(joinC (l.map tx)++[41])
def txQ(s:St):List UInt8:=kSE++32::(joinC (s.items.map txItm)++32::(kFR++32::(txFr s.from_++(txCl kWH s.where_++(txCl kGB s.group++(txOr s.order++txLim s.limit))))))
def txI(s:St):List UInt8:=kII++32::(tx s.tb++(txNs s.names++32::(kVA++32::joinC (s.rows.map txR))))
def txS(s:St):List UInt8:=
 if s.kind==1 then kCT++32::(tx s.tb++32::40::(joinC (s.cols.map txC)++[41]))
 else if s.kind==2 then kCI++32::(tx s.nm++32::(kON++32::(tx s.tb++32::((40::(joinC (s.names.map tx)++[41]))++if s.hash then 32::kUH else[]))))
 else if s.kind==3 then txI s
 else if s.kind==4 then txQ s
 else if s.kind==5 then kUP++32::(tx s.tb++32::(kST++32::(joinC ((s.names.zip s.sets).map txSet)++txCl kWH s.where_)))
 else if s.kind==6 then kDF++32::(tx s.tb++txCl kWH s.where_)
 else if s.kind==7 then kBE else if s.kind==8 then kCO else kRO
end Go.Proofs.YtbedigkncjbggaaGreatDoor
set_option maxRecDepth 20000
namespace Go.Proofs.YtbedigkncjbggaaGreatDoor
open Go Go.Vc Go.Pz
end Go.Proofs.YtbedigkncjbggaaGreatDoor
set_option maxRecDepth 20000
namespace Go.Proofs.YtbedigkncjbggaaGreatDoor
open Go Go.Vc Go.Pz
theorem Zlb(w:List UInt8):(wordL w).1.n=0:=by
 unfold wordL
 repeat' split
 all_goals rfl
theorem ZhX(l:List UInt8):(endT l).1.n=0:=by
 unfold endT
 split<;>rfl
theorem Zcj: ∀(l acc:List UInt8),(textL l acc).1.1.n=0
 |[],acc=>by unfold textL;rfl
 |b::l,acc=>by
   cases l with
   |nil=>
     unfold textL
     repeat' split
     all_goals first|rfl|exact ZhX _|(unfold textL;rfl)
   |cons c l=>
     have h1:=Zcj l;have h2:=Zcj (c::l);unfold textL
     repeat' split
     all_goals first|rfl|exact ZhX _|exact h1 _|exact h2 _
theorem Zlj(l:List UInt8):(signL l).1.1.n=0:=by
 unfold signL
 repeat' split
 all_goals rfl
theorem ZmL(l:List UInt8)(h:(numL l).1.k=2):False:=by
 unfold numL at h
 repeat' split at h
 all_goals simp[t3D]at h
theorem Zl5{l:List UInt8}(h:(stepL l).1.1.k=2):(stepL l).1.1.n=0:=by
 cases l with
 |nil=>rfl
 |cons b l=>
   by_cases h1:letB b=true
   · rw[stepL,if_pos h1];exact Zlb _
   by_cases h2:digB b=true
   · rw[stepL,if_neg h1,if_pos h2]at h;exact(ZmL _ h).elim
   by_cases h3:(b==39)=true
   · rw[stepL,if_neg h1,if_neg h2,if_pos h3];exact Zcj _ _
   rw[stepL,if_neg h1,if_neg h2,if_neg h3];exact Zlj _
theorem Zjc{x:T3}(h:tokO x)(hk:x.k=2):nmOk x.t:=by
 obtain⟨k,t,n⟩:=x;dsimp only at hk;subst hk;obtain⟨b,r,h1,h2,h3⟩:=h.1;have h4:=h3 [] (.inl rfl);have h5:n=0:=by
   have:=Zl5 (l:=showT ⟨2,t,n⟩++[]) (by rw[h4]);rw[h4]at this;exact this
 subst h5;exact⟨h.1,h.2.2.2⟩
theorem Zli(l:List UInt8):tkL nmOk (lexL l).1:=fun x hx=>by
 have h:=ZjX l x hx;exact⟨Zjc h,fun hk=>(h.2.1 hk).2,fun hk=>h.2.2.1 hk⟩
theorem ZcK{l:List UInt8}(h:(prS l).2=0):WfS nmOk (prS l).1/\deepS (prS l).1=false:=by
 have he:=ZeL h;rw[Zee he]at h ⊢;obtain⟨s,r,h1,_,h3,h4⟩:=ZeW h;rw[h4];exact⟨ZiG (ZeU _) (Z34 _) _ _ (Zli l) h1,h3⟩
end Go.Proofs.YtbedigkncjbggaaGreatDoor
namespace Go.Pz
open Go Go.Vc
mutual
def ect:Ex->Nat
 | .mk _ _ _ _ _ _ _ kids=>ects kids+1
def ects:List Ex->Nat
 |[]=>0
 |x::xs=>ect x+ects xs
end
theorem Z2M(x:Ex):ect x=ects x.KS+1:=by cases x;rw[ect];rfl
theorem Z3n{xs:List Ex}{x:Ex}(h:x∈xs):ect x<=ects xs:=by
 induction xs with
 |nil=>cases h
 |cons y ys ih=>
   rw[ects];rcases List.mem_cons.1 h with rfl|h
   · omega
   · have:=ih h;omega
theorem Zby(xs:List Ex):xs.length<=ects xs:=by
 induction xs with
 |nil=>exact Nat.zero_le _
 |cons y ys ih=>
   rw[ects,List.length_cons];have:1<=ect y:=by rw[Z2M];omega
   omega
mutual
theorem Zkc: ∀x:Ex,hgt x<=ect x
 | .mk _ _ _ _ _ _ _ kids=>by rw[hgt,ect];have:=Z89 kids;omega
theorem Z89: ∀xs:List Ex,hgts xs<=ects xs
 |[]=>by rw[hgts,ects];exact Nat.le_refl _
 |x::xs=>by rw[hgts,ects];have:=Zkc x;have:=Z89 xs;omega
end
def Hb(p:Ps Ex):Prop:=∀ts z,p ts=some z->ect z.1+z.2.length<=ts.length
theorem Z4e(k vk vn:Int)(vs tb nm:ByteArray)(sl:Int):ect (.mk k vk vn vs tb nm sl [])=1:=by rw[ect,ects]
theorem Zc1(k:Int)(x:Ex):ect (nd k [x])=ect x+1:=by rw[ect,ects,ects]
theorem ZjQ(k:Int)(x y:Ex):ect (nd k [x,y])=ect x+ect y+1:=by rw[ect,ects,ects,ects];omega
theorem Ze5{part:Ps Ex}{k:Int}{ops:List (ByteArray×Int)}(hp:Hb part){M:Nat}: ∀(n:Nat) (x:Ex) (ts:List T3) (z:Ex×List T3),ect x+ts.length<=M->chainG part k ops n x ts=some z->ect z.1+z.2.length<=M
 |0,x,ts,z,hM,h=>by rw[chainG]at h;injection h with h;subst h;exact hM
 |n+1,x,ts,z,hM,h=>by
   rw[chainG]at h
   split at h
   · injection h with h;subst h;exact hM
   · rename_i q hq
     obtain⟨y,h1,h2⟩:=bnd h;have h3:=hp _ _ h1;have h4:=(Z3A hq).2;have h5:1<=ect y.1:=by
       obtain⟨y1,y2⟩:=y;cases y1;rw[ect];omega
     refine Ze5 hp n _ _ _ ?_ h2;rw[ZjQ];omega
theorem Z9n{part:Ps Ex}{k:Int}{ops:List (ByteArray×Int)}(hp:Hb part):Hb (chainP part k ops):=fun ts z h=>by
 obtain⟨y,h1,h2⟩:=bnd h;exact Ze5 hp _ _ _ _ (hp _ _ h1) h2
section
variable{e:Ps Ex}(he:Hb e)
include he
theorem ZmE:Hb (kwP e):=fun ts z h=>by
 obtain⟨y,h1,h2⟩:=bnd h;have h3:=(Z1N 1 _ _ h1).2
 split at h2
 · injection h2 with h2;subst h2;rw[Z4e];dsimp only;omega
 split at h2
 · injection h2 with h2;subst h2;rw[Z4e];dsimp only;omega
 split at h2
 · injection h2 with h2;subst h2;rw[Z4e];dsimp only;omega
 split at h2
 · cases h2
 obtain⟨u,h4,h5⟩:=bnd h2;have h6:=(Zi _ _ _ _ h4).2
 split at h5
 · rename_i hi
   simp only[Bool.and_eq_true]at hi;obtain⟨v,h7,rfl⟩:=mpd h5;have h8:=(Zi _ _ _ _ h7).2;have h9:=(ZG hi.2).2;rw[Z4e];dsimp only;omega
 · obtain⟨x,h7,h8⟩:=bnd h5
   obtain⟨v,h9,rfl⟩:=mpd h8;have h10:=he _ _ h7;have h11:=(Zi _ _ _ _ h9).2;dsimp only;rw[Zc1];omega
theorem ZjA:Hb (atomP e):=fun ts z h=>by
 cases ts with
 |nil=>cases h
 |cons t r=>
   rw[atomP]at h
   split at h
   · injection h with h;subst h;rw[Z4e];simp only[List.length_cons];omega
   split at h
   · injection h with h;subst h;rw[Z4e];simp only[List.length_cons];omega
   split at h
   · split at h
     · rename_i hi
       obtain⟨v,h7,rfl⟩:=mpd h;have h8:=(Z14 _ _ h7).2;have h9:=(ZG hi).2;rw[Z4e];simp only[List.length_cons];omega
     · injection h with h;subst h;rw[Z4e];simp only[List.length_cons];omega
   split at h
   · exact ZmE he _ _ h
   · obtain⟨u,h4,h5⟩:=bnd h
     obtain⟨x,h7,h8⟩:=bnd h5;obtain⟨v,h9,rfl⟩:=mpd h8;have h10:=he _ _ h7;have h11:=(Zi _ _ _ _ h9).2;have h12:=(Zi _ _ _ _ h4).2;dsimp only;omega
theorem Zdd: ∀(ts:List T3) (z:Ex×List T3),factorP e ts=some z->ect z.1+z.2.length<=ts.length
 |[],z,h=>by rw[factorP]at h;cases h
 |t::r,z,h=>by
   rw[factorP]at h
   split at h
   · obtain⟨v,h7,rfl⟩:=mpd h
     have:=Zdd r v h7;dsimp only;rw[Zc1];simp only[List.length_cons];omega
   · exact ZjA he _ _ h
theorem ZkR:Hb (prodP e):=Z9n (Zdd he)
theorem Zfo:Hb (sumP e):=Z9n (ZkR he)
theorem Zhi{x:Ex}{ts:List T3}{z:Ex×List T3}{M:Nat}(hM:ect x+ts.length<=M)(h:cmpP e x ts=some z):ect z.1+z.2.length<=M:=by
 unfold cmpP at h
 split at h
 · rename_i q hq
   obtain⟨v,h7,rfl⟩:=mpd h;have h8:=Zfo he _ _ h7;have h9:=(Z3A hq).2;have h5:1<=ect v.1:=by
     obtain⟨y1,y2⟩:=v;cases y1;rw[ect];omega
   dsimp only;rw[ZjQ];omega
 · split at h
   · rename_i hi
     have h9:=(ZG hi).2
     split at h
     · rename_i hj
       obtain⟨v,h7,rfl⟩:=mpd h;have h8:=(Zi _ _ _ _ h7).2;have h10:=(ZG hj).2;dsimp only;rw[Zc1];omega
     · obtain⟨v,h7,rfl⟩:=mpd h
       have h8:=(Zi _ _ _ _ h7).2;dsimp only;rw[Zc1];omega
   · injection h with h;subst h;exact hM
theorem ZhL: ∀(ts:List T3) (z:Ex×List T3),notP e ts=some z->ect z.1+z.2.length<=ts.length
 |[],z,h=>by
   rw[notP]at h;obtain⟨y,h1,h2⟩:=bnd h;exact Zhi he (Zfo he _ _ h1) h2
 |t::r,z,h=>by
   rw[notP]at h
   split at h
   · obtain⟨v,h7,rfl⟩:=mpd h
     have:=ZhL r v h7;dsimp only;rw[Zc1];simp only[List.length_cons];omega
   · obtain⟨y,h1,h2⟩:=bnd h
     exact Zhi he (Zfo he _ _ h1) h2
theorem ZmS:Hb (orP e):=Z9n (Z9n (ZhL he))
end
theorem ZaU: ∀n,Hb (exprP n)
 |0,ts,z,h=>by cases h
 |n+1,ts,z,h=>ZmS (ZaU n) ts z h
def HB(M:Nat)(x:Ex):Prop:=ect x<=M
theorem Zn2{e:Ps Ex}(he:Hb e){M:Nat}{ts:List T3}{z:Ex×List T3}(hM:ts.length<=M)(h:e ts=some z):HB M z.1:=by
 have:=he _ _ h;unfold HB;omega
def Pb{α:Type}(f:α->List Ex)(M:Nat)(p:Ps α):Prop:=∀ts z,ts.length<=M->p ts=some z->∀x∈f z.1,ect x<=M
theorem Zg9{α:Type}{f:α->List Ex}{M:Nat}{p:Ps α}(hd:Dn0 p)(h:Pb f M p): ∀n ts z,ts.length<=M->listG p n ts=some z->∀y∈z.1,∀x∈f y,ect x<=M
 |0,ts,z,_,hz=>by rw[listG]at hz;injection hz with hz;subst hz;intro y hy;cases hy
 |n+1,ts,z,hM,hz=>by
   rw[listG]at hz
   split at hz
   · rename_i hi
     obtain⟨w,h1,h2⟩:=bnd hz;obtain⟨y,h3,rfl⟩:=mpd h2;have h4:=(ZG hi).2;have h5:=(hd _ _ h1).length_le;intro v hv;rcases List.mem_cons.1 hv with rfl|hv
     · exact h _ _ qM h1
     · exact Zg9 hd h n _ _ qM h3 v hv
   · injection hz with hz;subst hz;intro y hy;cases hy
theorem Z8P{α:Type}{f:α->List Ex}{M:Nat}{p:Ps α}{most:Nat}(hd:Dn0 p)(h:Pb f M p){ts:List T3}{z:List α×List T3}(hM:ts.length<=M)(hz:listP most p ts=some z): ∀y∈z.1,∀x∈f y,ect x<=M:=by
 obtain⟨w,h1,h2⟩:=bnd hz;obtain⟨y,h3,h4⟩:=bnd h2;have h5:=(hd _ _ h1).length_le
 split at h4
 · injection h4 with h4;subst h4
   intro v hv;rcases List.mem_cons.1 hv with rfl|hv
   · exact h _ _ hM h1
   · exact Zg9 hd h _ _ _ qM h3 v hv
 · cases h4
theorem leM{a b:List T3}{M:Nat}(h:a<:+b)(hM:b.length<=M):a.length<=M:=Nat.le_trans h.length_le hM
section
variable{e:Ps Ex}(hd:Dn e)(he:Hb e){M:Nat}
include he
theorem e_b:Pb (fun x=>[x]) M e:=fun ts z hM h x hx=>by
 rw[List.mem_singleton.1 hx];have:=he _ _ h;omega
theorem Zbz{ts:List T3}{z:List Ex×List T3}(hM:ts.length<=M)(h:whereP e ts=some z): ∀x∈z.1,ect x<=M:=by
 unfold whereP at h
 split at h
 · rename_i hi
   obtain⟨v,h5,rfl⟩:=mpd h;intro x hx;rw[List.mem_singleton.1 hx];have:=he _ _ h5;have:=(ZG hi).2
   omega
 · injection h with h;subst h;intro x hx;cases hx
include hd
theorem Zgt{most:Nat}{ts:List T3}{z:List Ex×List T3}(hM:ts.length<=M)(h:listP most e ts=some z): ∀x∈z.1,ect x<=M:=fun x hx=>Z8P hd.le (e_b he) hM h x hx x List.mem_cons_self
theorem ZiQ:Pb (fun l=>l) M (withinP e):=fun ts z hM h=>by
 obtain⟨a,h1,h2⟩:=bnd h;obtain⟨l,h3,h4⟩:=bnd h2;obtain⟨v,h5,rfl⟩:=mpd h4;exact Zgt (z:=l) hd he (leM (Zi _ _ _ _ h1).1 hM) h3
theorem Zez: ∀n ts z,ts.length<=M->joinsG e n ts=some z->∀s∈z.1,∀x∈s.on,ect x<=M
 |0,ts,z,_,hz=>by rw[joinsG]at hz;injection hz with hz;subst hz;intro y hy;cases hy
 |n+1,ts,z,hM,hz=>by
   rw[joinsG]at hz
   split at hz
   · obtain⟨w,h1,h2⟩:=bnd hz
     obtain⟨y,h3,rfl⟩:=mpd h2;have h4:=(Z4O hd _ _ h1).1;have h5:=Z2p 1 ZW ts;intro v hv;rcases List.mem_cons.1 hv with rfl|hv
     · obtain⟨a,g1,g2⟩:=bnd h1
       obtain⟨s,g3,g4⟩:=bnd g2;obtain⟨b,g5,g6⟩:=bnd g4;obtain⟨x,g7,g8⟩:=mpd g6;subst g8;have h6:b.2.length<=M:=leM ((Zi _ _ _ _ g5).1.trans ((Z3P _ _ g3).1.trans ((Zi _ _ _ _ g1).1.trans h5))) hM;intro y hy;rw[List.mem_singleton.1 hy];have:=he _ _ g7;omega
     · exact Zez n _ _ (leM (h4.trans h5) hM) h3 v hv
   · injection hz with hz;subst hz;intro y hy;cases hy
theorem Zcw{ts:List T3}{z:St×List T3}(hM:ts.length<=M)(h:stmtP e ts=some z): ∀x∈exsOf z.1,ect x<=M:=by
 unfold stmtP at h;obtain⟨w,h1,h⟩:=bnd h;have hw:w.2.length<=M:=leM (Z1N 1 _ _ h1).1 hM
 split at h
 · unfold createP at h
   split at h
   · obtain⟨n,_,h⟩:=bnd h
     obtain⟨c,_,rfl⟩:=mpd h;intro x hx;simp[exsOf,stK]at hx
   · obtain⟨_,_,h⟩:=bnd h
     obtain⟨_,_,h⟩:=bnd h;obtain⟨_,_,h⟩:=bnd h;obtain⟨_,_,h⟩:=bnd h;obtain⟨_,_,h⟩:=bnd h;obtain⟨_,_,h⟩:=bnd h;obtain⟨_,_,h⟩:=bnd h
     split at h
     · obtain⟨v,_,rfl⟩:=mpd h
       intro x hx;simp[exsOf,stK]at hx
     · injection h with h;subst h
       intro x hx;simp[exsOf,stK]at hx
 split at h
 · obtain⟨a,g1,h⟩:=bnd h
   obtain⟨n,g2,h⟩:=bnd h;have h3:n.2.length<=M:=leM ((Z14 _ _ g2).1.trans (Zi _ _ _ _ g1).1) hw;have rows: ∀tb ns us z,us.length<=M->insRows e tb ns us=some z->∀x∈exsOf z.1,ect x<=M:=fun tb ns us z hu h=>by
     obtain⟨a,k1,h⟩:=bnd h;obtain⟨r,k2,rfl⟩:=mpd h;have:=Z8P (Z3T hd.le).le (ZiQ hd he) (leM (Zi _ _ _ _ k1).1 hu) k2;intro x hx
     simp[exsOf,stK]at hx
     obtain⟨l,hl,hx⟩:=hx;exact this l hl x hx
   split at h
   · obtain⟨l,g3,h⟩:=bnd h
     exact rows _ _ _ _ (leM (Z3T Z14.le _ _ g3).1 h3) h
   · exact rows _ _ _ _ h3 h
 split at h
 · obtain⟨i,g1,h⟩:=bnd h
   obtain⟨a,g2,h⟩:=bnd h;obtain⟨s,g3,h⟩:=bnd h;obtain⟨j,g4,h⟩:=bnd h;have hi:Pb (fun i:Itm=>[i.ex]) M (itemP e):=fun us z hu h=>by
     unfold itemP at h
     split at h
     · injection h with h;subst h
       intro x hx;rename_i ht;rw[List.mem_singleton.1 hx];have:=(ZG ht).2;show ect (.mk 0 0 0 em em em 0 [])<=M;rw[Z4e];omega
     · obtain⟨v,h5,rfl⟩:=mpd h
       intro x hx;rw[List.mem_singleton.1 hx];have:=he _ _ h5;dsimp only;omega
   have hk:Pb (fun k:Ky=>[k.ex]) M (keyP e):=fun us z hu h=>by
     obtain⟨v,h5,h6⟩:=mpd h;have:=he _ _ h5
     split at h6<;>subst h6<;>intro x hx<;>rw[List.mem_singleton.1 hx]<;>dsimp only<;>omega
   have b1:=Z8P (Z4I hd).le hi hw g1;have m1:=leM (Z3N (Z4I hd).le 16 _ _ g1) hw;have m2:=leM (Zi _ _ _ _ g2).1 m1;have m3:=leM (Z3P _ _ g3).1 m2;have b2:=Zez hd he _ _ _ m3 g4
   split at h
   · obtain⟨w2,k1,h⟩:=bnd h
     obtain⟨g,k2,h⟩:=bnd h;obtain⟨o,k3,h⟩:=bnd h;obtain⟨l,k4,rfl⟩:=mpd h;have m4:j.2.length<=M:=by
       have: ∀n us z,joinsG e n us=some z->z.2<:+us:=fun n=>by
         induction n with
         |zero=>intro us z h;rw[joinsG]at h;injection h with h;subst h;exact List.suffix_refl us
         |succ n ih=>
           intro us z h;rw[joinsG]at h
           split at h
           · obtain⟨w,h1,h2⟩:=bnd h
             obtain⟨y,h3,rfl⟩:=mpd h2;exact(ih _ _ h3).trans ((Z4O hd _ _ h1).1.trans (Z2p _ _ _))
           · injection h with h;subst h;exact List.suffix_refl us
       exact leM (this _ _ _ g4) m3
     have b3:=Zbz he m4 k1;have m5:w2.2.length<=M:=by
       unfold whereP at k1
       split at k1
       · rename_i ht
         obtain⟨v,h5,rfl⟩:=mpd k1;exact leM ((hd _ _ h5).1.trans (ZG ht).1) m4
       · injection k1 with k1;subst k1;exact m4
     have b4: ∀x∈g.1,ect x<=M/\True:=fun x hx=>by
       unfold groupP at k2
       split at k2
       · rename_i ht
         obtain⟨a,q1,q2⟩:=bnd k2;exact⟨Zgt hd he (leM ((Zi _ _ _ _ q1).1.trans (ZG ht).1) m5) q2 x hx,trivial⟩
       · injection k2 with k2;subst k2;cases hx
     have m6:g.2.length<=M:=by
       unfold groupP at k2
       split at k2
       · rename_i ht
         obtain⟨a,q1,q2⟩:=bnd k2;exact leM ((Z3N hd.le 16 _ _ q2).trans ((Zi _ _ _ _ q1).1.trans (ZG ht).1)) m5
       · injection k2 with k2;subst k2;exact m5
     have b5: ∀k∈o.1,ect k.ex<=M:=fun k hx=>by
       unfold orderP at k3
       split at k3
       · rename_i ht
         obtain⟨a,q1,q2⟩:=bnd k3;exact Z8P (Z68 hd).le hk (leM ((Zi _ _ _ _ q1).1.trans (ZG ht).1) m6) q2 k hx _ List.mem_cons_self
       · injection k3 with k3;subst k3;cases hx
     have hs:s.1.on=[]:=by
       unfold sourceP at g3;obtain⟨n,_,g3⟩:=bnd g3
       split at g3
       · obtain⟨m,_,rfl⟩:=mpd g3;rfl
       split at g3
       · obtain⟨m,_,rfl⟩:=mpd g3;rfl
       · injection g3 with g3;subst g3;rfl
     intro x hx
     simp[exsOf,stK,hs]at hx
     rcases hx with⟨a,ha,rfl⟩|⟨_,⟨a,ha,rfl⟩,hx⟩|⟨a,ha,rfl⟩|hx|hx
     · exact b1 a ha _ List.mem_cons_self
     · exact b2 a ha x hx
     · exact b5 a ha
     · exact b3 x hx
     · exact(b4 x hx).1
   · cases h
 split at h
 · obtain⟨n,g1,h⟩:=bnd h
   obtain⟨a,g2,h⟩:=bnd h;obtain⟨l,g3,h⟩:=bnd h;obtain⟨w2,g4,rfl⟩:=mpd h;have hs:Pb (fun k:ByteArray×Ex=>[k.2]) M (setP e):=fun us z hu h=>by
     obtain⟨a,h1,h2⟩:=bnd h;obtain⟨l,h3,h4⟩:=bnd h2;obtain⟨v,h5,rfl⟩:=mpd h4;intro x hx;rw[List.mem_singleton.1 hx];have:=he _ _ h5;have:=(Zi _ _ _ _ h3).2;have:=(Z14 _ _ h1).2;dsimp only;omega
   have m1:=leM ((Zi _ _ _ _ g2).1.trans (Z14 _ _ g1).1) hw;have b1:=Z8P (Z77 hd).le hs m1 g3;have b2:=Zbz he (leM (Z3N (Z77 hd).le 16 _ _ g3) m1) g4;intro x hx
   simp[exsOf,stK]at hx
   rcases hx with hx|⟨a,ha⟩
   · exact b2 x hx
   · exact b1 _ ha _ List.mem_cons_self
 split at h
 · obtain⟨a,g1,h⟩:=bnd h
   obtain⟨n,g2,h⟩:=bnd h;obtain⟨w2,g3,rfl⟩:=mpd h;have b2:=Zbz he (leM ((Z14 _ _ g2).1.trans (Zi _ _ _ _ g1).1) hw) g3;intro x hx
   simp[exsOf,stK]at hx
   exact b2 x hx
 split at h
 · injection h with h;subst h;intro x hx;simp[exsOf,stK]at hx
 split at h
 · injection h with h;subst h;intro x hx;simp[exsOf,stK]at hx
 split at h
 · injection h with h;subst h;intro x hx;simp[exsOf,stK]at hx
 · cases h
end
end Go.Pz
set_option maxRecDepth 20000
namespace Go.Proofs.YtbedigkncjbggaaGreatDoor
open Go Go.Vc Go.Pz
theorem Z4y(x:Ex):1<=ect x:=by rw[Z2M];omega
theorem ect1{k:Int}{y:Ex}:ect (nd k [y])=ect y+1:=by rw[Z2M];show ects [y]+1=_;rw[ects,ects]
theorem ect2{k:Int}{y z:Ex}:ect (nd k [y,z])=ect y+ect z+1:=by rw[Z2M];show ects [y,z]+1=_;rw[ects,ects,ects];omega
theorem Z69(x:Ex):(prO x).length<=(prE x).length+2:=by
 unfold prO parS
 split
 · simp
 · omega
theorem Z1y{s:ByteArray}(h:nmOk s):(tx s).length<=2048:=by
 have:=h.2;rw[<-Z18]at this;exact this
theorem Zf4(q:Int):(opS q).length<=3:=by
 unfold opS binT;cases h:binO.find? (fun o=>o.2.2==q)with
 |none=>decide
 |some o=>
   have hm:=List.mem_of_find?_eq_some h;have: ∀o∈binO,(tx o.2.1).length<=3:=by decide
   exact this o hm
theorem Zfb(q:Int):(tx (aggW q)).length<=5:=by
 unfold aggW
 repeat' split
 all_goals decide
theorem ZhG{x:Ex}(h:Wf nmOk x):(prE x).length<=5000*ect x:=by
 induction h with
 | @num n h0 h1=>
   have h2:=Z4y (lit 1 n em);have h3:=Zbo h0 h1;have e:prE (lit 1 n em)=Lib.itoa n:=Zl6;rw[e];omega
 | @txt s h=>
   have h2:=Z4y (lit 3 0 s);have e:prE (lit 3 0 s)=showT ⟨4,s,0⟩:=Zky h;have h6:(dblQ s.data.toList).length<=_:=Z6d 39 (new:=[39,39]) qD s.data.toList;rw[Z18]at h6;rw[e];show(39::(dblQ s.data.toList++[39])).length<=_;simp only[List.length_cons,List.length_append,List.length_nil]
   omega
 |tru=>rw[show prE (lit 2 1 em)=tx Z5j from Zl8];have:=Z4y (lit 2 1 em);have:(tx Z5j).length=4:=rfl;omega
 |fls=>rw[show prE (lit 2 0 em)=tx Z4B from ZkS];have:=Z4y (lit 2 0 em);have:(tx Z4B).length=5:=rfl;omega
 |nul=>rw[show prE (lit 0 0 em)=tx Z1v from Zk8];have:=Z4y (lit 0 0 em);have:(tx Z1v).length=4:=rfl;omega
 | @col s h=>have h1:=Z1y h;have:=Z4y (.mk 2 0 0 em em s 0 []);show(tx s).length<=_;omega
 | @tcol t s ht h=>
   have h1:=Z1y h;have h2:=Z1y ht;have h3:=Z4y (.mk 2 0 0 em t s 0 []);have e:prE (.mk 2 0 0 em t s 0 [])=tx t++46::tx s:=by
     show(if sq t em=true then _ else _)=_;rw[if_neg (by rw[Zn0 t ht];simp)]
   rw[e,List.length_append,List.length_cons];omega
 | @neg x h ih=>have:=Z69 x;rw[ect1];show(45::prO x).length<=_;rw[List.length_cons];omega
 | @not x h ih=>have:=Z69 x;rw[ect1];show([78,79,84]++32::prO x).length<=_;simp only[List.length_append,List.length_cons,List.length_nil];omega
 | @isn x h ih=>have:=Z69 x;rw[ect1];show(prO x++[32,73,83,32,78,85,76,76]).length<=_;simp only[List.length_append,List.length_cons,List.length_nil];omega
 | @iss x h ih=>have:=Z69 x;rw[ect1];show(prO x++[32,73,83,32,78,79,84,32,78,85,76,76]).length<=_;simp only[List.length_append,List.length_cons,List.length_nil];omega
 | @bin q x y h5 h17 hx hy ihx ihy=>
   have h1:=Z69 x;have h2:=Z69 y;have h3:=Zf4 q;rw[ect2,ZkJ h5 h17];simp only[List.length_append,List.length_cons];omega
 |cnt=>have:=Z4y (nd 20 []);show[67,79,85,78,84,40,42,41].length<=_;simp only[List.length_cons,List.length_nil];omega
 | @agg q x h0 h1 hx ih=>
   have h3:=Zfb q;rw[ect1,Zkr h0 h1];simp only[List.length_append,List.length_cons,List.length_nil];omega
def opK(x:Ex)(i:Nat):List UInt8:=(x.KS.map prO).getD i []
theorem Zci: ∀xs:List Ex,prEs xs=xs.map fun x=>(prE x,prO x)
 |[]=>rfl
 |x::xs=>by rw[prEs,Zci xs];rfl
theorem Zmw(x:Ex):hd0 (prEs x.KS)=opK x 0/\hd1 (prEs x.KS)=opK x 1:=by
 rw[Zci];unfold opK;cases x.KS with
 |nil=>exact⟨rfl,rfl⟩
 |cons y l=>cases l with
  |nil=>exact⟨rfl,rfl⟩
  |cons z l=>exact⟨rfl,rfl⟩
theorem Z4H(x:Ex):prE x=
   if x.K==1 then litS x.VK x.VN x.VS
   else if x.K==2 then(if sq x.TB em then tx x.NM else tx x.TB++46::tx x.NM)
   else if x.K==3 then 45::opK x 0
   else if x.K==4 then[78,79,84]++32::opK x 0
   else if x.K==18 then opK x 0++[32,73,83,32,78,85,76,76]
   else if x.K==19 then opK x 0++[32,73,83,32,78,79,84,32,78,85,76,76]
   else if decide (20<=x.K)&&decide (x.K<=23)then tx (aggW x.K)++40::((match x.KS with|[]=>[42]|y::_=>prE y)++[41])
   else if decide (x.K<5)||decide (17<x.K)then[63]
   else opK x 0++32::(opS x.K++32::opK x 1):=by
 obtain⟨h0,h1⟩:=Zmw x;rw[<-h0,<-h1];cases x with
 |mk k vk vn vs tb nm sl kids=>
   show prE _=if k==1 then _ else _
   conv=>lhs;unfold prE
   cases kids with
   |nil=>rfl
   |cons y l=>simp only[Zci];rfl
theorem Z76{nk:ByteArray->Prop}{x:Ex}(h:Wf nk x): ∀y∈x.KS,Wf nk y:=by
 cases h<;>intro z hz<;>simp only[Ex.KS,List.mem_cons,List.mem_nil_iff,or_false]at hz
 all_goals first|exact hz.elim|(subst hz;assumption)|(rcases hz with rfl|rfl<;>assumption)
theorem ZlZ{nk:ByteArray->Prop}{x:Ex}(h:Wf nk x):x.KS.length<=2:=by
 cases h<;>simp[Ex.KS]
theorem ZjT{nk:ByteArray->Prop}{x:Ex}(h:Wf nk x): -9223372036854775808<=x.VN/\x.VN<=9223372036854775807:=by
 cases h<;>simp only[Ex.VN]<;>omega
theorem ZjL{x:Ex}(h:Wf nmOk x):(tx x.TB).length<=2048/\(tx x.NM).length<=2048:=by
 cases h<;>simp only[Ex.TB,Ex.NM]<;>first|exact⟨by decide,by decide⟩|exact⟨by decide,Z1y ‹_›⟩|exact⟨Z1y ‹nmOk _›,Z1y ‹nmOk _›⟩|skip
 all_goals exact⟨Z1y qN,Z1y qN⟩
theorem ZaO{x:Ex}(h:Wf nmOk x)(hx:ect x<=4096)(i:Nat):(opK x i).length<=20500000:=by
 unfold opK;rw[List.getD_eq_getElem?_getD,List.getElem?_map];cases hi:x.KS[i]? with
 |none=>exact Nat.zero_le _
 |some y=>
   have hm:=List.mem_of_getElem? hi;have h1:=ZhG (Z76 h y hm);have h2:=Z69 y;have h3:=Z3n hm;rw[Z2M]at hx;show(prO y).length<=_
   omega
theorem Z72{x:Ex}(h:Wf nmOk x)(hx:ect x<=4096):(prE x).length<=20500000:=by
 have:=ZhG h
 omega
end Go.Proofs.YtbedigkncjbggaaGreatDoor
namespace Go.Proofs.YtbedigkncjbggaaGreatDoor
open Go Go.Vc Go.Pz
structure Tk where
 ts:List T3
 bb:Nat
 o:Nat
 cap:Nat
variable(T:Tk)
abbrev Tk.k(ts:List T3):Nat:=T.ts.length-ts.length
def Tk.j(ts:List T3):Nat:=if T.k ts=T.cap then T.k ts-1 else T.k ts
abbrev Tk.G:World->Prop:=RowG T3.cells 3 T.ts (some ⟨T.bb,T.o,none⟩) T.ts.length
abbrev Tk.sl(ts:List T3):Value:=.slice (some ⟨T.bb,T.o+3*T.j ts,none⟩) ts.length (T.cap-T.k ts)
abbrev PB(b:Nat)(ts:List T3):Own:=⟨b,Z3S,.is (.agg #[T.sl ts])⟩
variable{T}
theorem Tk.j_eq{ts:List T3}(hc:T.ts.length<=T.cap)(hs:ts<:+T.ts)(h:ts≠[]):T.j ts=T.k ts:=by
 have:=hs.length_le;have:0<ts.length:=List.length_pos_iff.2 h;unfold Tk.j;rw[if_neg (by show ¬(T.ts.length-ts.length=T.cap);omega)]
theorem Tk.head{ts:List T3}(hs:ts<:+T.ts)(h:ts≠[]):T.ts[T.k ts]? =some (ts.headD t3D):=by
 obtain⟨us,e⟩:=hs;cases ts with
 |nil=>exact absurd rfl h
 |cons t r=>
   show T.ts[T.ts.length-(t::r).length]? =some t;rw[<-e];simp
theorem Tk.tail{ts:List T3}(hc:T.ts.length<=T.cap)(hs:ts<:+T.ts)(h:ts≠[]):(Value.slice (adS (some ⟨T.bb,T.o+3*T.j ts,none⟩) 1 (T.cap-T.k ts) 3) (ts.length-1) (T.cap-T.k ts-1))=T.sl ts.tail:=by
 have h1:=hs.length_le;have h2:0<ts.length:=List.length_pos_iff.2 h;have h3:ts.tail.length=ts.length-1:=by simp
 rw[Tk.j_eq hc hs h];have h4:T.k ts.tail=T.k ts+1:=by unfold Tk.k;omega
 have h5:T.j ts.tail=if T.cap-T.k ts=1 then T.k ts else T.k ts+1:=by
   unfold Tk.j;rw[h4]
   by_cases hq:T.cap-T.k ts=1
   · rw[if_pos hq,if_pos (by unfold Tk.k at*;omega)];omega
   · rw[if_neg hq,if_neg (by unfold Tk.k at*;omega)]
 unfold Tk.sl;rw[h5,h4,h3]
 by_cases hq:T.cap-T.k ts=1
 · rw[if_pos hq];unfold adS;rw[if_pos hq];rfl
 · rw[if_neg hq];unfold adS;rw[if_neg hq,Option.map_some,Z4t]
   congr 1
end Go.Proofs.YtbedigkncjbggaaGreatDoor
set_option maxRecDepth 20000
namespace Go.Proofs.YtbedigkncjbggaaGreatDoor
open Go Go.Vc
open Go.Pz
theorem Z8N{ts:List T3}(h:((ts.length:Int)==0)=false):ts≠[]:=fun e=>by subst e;cases h
theorem Z3z{ts:List T3}(h:ts≠[]):(0:Int)<ts.length:=by have:=List.length_pos_iff.2 h;omega
theorem ZgX{a b:Bool}(h:(a||b)=false):a=false:=by cases a<;>simp_all
theorem ZeS(k:Int)(s:ByteArray)(ts:List T3):(((((ts.length:Nat):Int)==0)||((ts.headD t3D).k != k))|| !(seq (ts.headD t3D).t s))= !(isT k s ts):=by
 cases ts with
 |nil=>rfl
 |cons t r=>
   rw[Z1G];have:((((t::r).length:Nat):Int)==0)=false:=by rw[beq_eq_false_iff_ne];simp;omega
   rw[this,Bool.false_or];show((!(t.k==k))|| !(sq t.t s))= !((t.k==k)&&sq t.t s);rw[<-Bool.not_and]
abbrev flt:List PanicEntry:=[{v:=.iface ZcG (.agg #[]),recovered:=false}]
theorem Zc3{k:Int}{s:ByteArray}{ts:List T3}(h:isT k s ts=true):ts≠[]:=fun e=>by subst e;cases h
theorem Z44(T:Tk)(hc:T.ts.length<=T.cap)(b:Nat)(ts:List T3)(hts:ts<:+T.ts)(kd:Int)(s:ByteArray):CallL Tryz.prog Z8R [PB T b ts] [T.G] [.is (.pointer (some ⟨b,0,none⟩)),.is (.int .i64 kd),.is (.string s)] (fun _:Unit=>True) (fun _=>[PB T b (skT kd s ts)]) (fun _=>.is (.bool (isT kd s ts))):=
CallL.of (fn:=Tryz.f65) Tryz.func65 (n:=43) rfl rfl rfl (fun _ _=>by kernel_rfl) fun E W hb0=>by
 refine vQ ?_;refine Ja rfl (vS [0,1,2] ?_);refine J.reg0 hmx qK qK ?_;refine yz (Z2 rfl) (yz (Z5 rfl) (yz (Z0 Zz rfl) (yz (Z1 ZJ rfl rfl) (yz (ZE Z12 rfl) (yz (Zu rfl rfl) (yz (Z2 rfl) (yg rfl rfl rfl (fun hg=>Z2 (.inl rfl)) (yg rfl rfl rfl (fun hg=>Z5 (qR rfl)) ?_))))))));refine yg rfl rfl rfl (fun hg=>Z0 Zz (qR rfl)) ?_;refine yg rfl rfl rfl (fun hg=>Z1 ZJ (qR rfl) rfl) ?_;refine yg rfl rfl rfl (fun hg=>Z9 Z1m (qR rfl) rfl (.inl rfl) qM (Z3z (Z8N hg))) ?_;refine yg rfl rfl rfl (fun hg=>Z0 Z1n (qR rfl)) ?_;refine yg rfl rfl rfl (fun hg=>ZK (enc:=T3.cells) (sz:=3) (i:=T.k ts) (j:=0) (y:=ts.headD t3D) (u:=.int .i64 (ts.headD t3D).k) Zq (qR rfl) qI rfl (Tk.head hts (Z8N hg)) (by rw[Tk.j_eq hc hts (Z8N hg)];omega) rfl) ?_;refine yg rfl rfl rfl (fun hg=>Z2 (.inl rfl)) (yg rfl rfl rfl (fun hg=>Z3e (qR rfl) (qR rfl)) ?_);refine yz (ZF rfl rfl rfl id) (yz (Z2 rfl) (yg rfl rfl rfl (fun hg=>Z2 (.inl rfl)) (yg rfl rfl rfl (fun hg=>Z5 (qR rfl)) ?_)));refine yg rfl rfl rfl (fun hg=>Z0 Zz (qR rfl)) ?_;refine yg rfl rfl rfl (fun hg=>Z1 ZJ (qR rfl) rfl) ?_;refine yg rfl rfl rfl (fun hg=>Z9 Z1m (qR rfl) rfl (.inl rfl) qM (Z3z (Z8N (ZgX hg)))) ?_;refine yg rfl rfl rfl (fun hg=>Z0 Z1K (qR rfl)) ?_;refine yg rfl rfl rfl (fun hg=>ZK (enc:=T3.cells) (sz:=3) (i:=T.k ts) (j:=1) (y:=ts.headD t3D) (u:=.string (ts.headD t3D).t) Za (qR rfl) qI rfl (Tk.head hts (Z8N (ZgX hg))) (by rw[Tk.j_eq hc hts (Z8N (ZgX hg))];omega) rfl) ?_;refine yg rfl rfl rfl (fun hg=>Z2 (.inl rfl)) (yg rfl rfl rfl (fun hg=>Z4Z (qR rfl) (qR rfl)) ?_);refine yz (ZF rfl rfl rfl id) ?_;apply yn;refine FinS.nil0 ?_;refine vS [0,34] ?_;refine yC rfl (fun ht34=>?_) (fun ht34=>?_);have hT:isT kd s ts=false:=by rw[ZeS]at ht34;simpa using ht34
 rw[show skT kd s ts=ts by unfold skT;rw[hT];rfl];refine vQ ?_;refine Ja rfl (vS [6] ?_);refine vR ?_;exact JX.retL1 rfl () trivial (.refl _) rfl rfl hb0 rfl (Sub.isEq (by rw[hT]));apply yK
 repeat first|apply yX|apply yB
 have hT:isT kd s ts=true:=by rw[ZeS]at ht34;simpa using ht34
 rw[show skT kd s ts=ts.tail by unfold skT;rw[hT];rfl];refine vQ ?_;refine Jm rfl (Jm rfl (Jq (Z5 rfl) (Jq (Z0 Zz rfl) (Jq (Z1 ZJ rfl rfl) (Jq (Z6X Z12 Z1m rfl rfl qM (by have:=Z3z (Zc3 hT);omega)) ?_)))));refine Jq (Z5 rfl) (Jq (Z0 Zz rfl) (JO.m (Zj (cs':=[_]) rfl rfl qU rfl rfl rfl rfl Z4D) (by rfl) ?_));apply yI
 repeat first|apply yX|apply yB
 refine yL [] .nil (vQ ?_);refine Ja rfl (vS [6] ?_);refine vR ?_;refine JX.retL1 (Lr:=[]) rfl () trivial (.of_eq ?_) rfl rfl hb0 rfl (Sub.isEq (by rw[hT]));exact congrArg (fun v=>[Own.mk b Z3S (.is (.agg #[v]))]) (Tk.tail hc hts (Zc3 hT))
theorem ZX(T:Tk)(hc:T.ts.length<=T.cap)(b:Nat)(ts:List T3)(hts:ts<:+T.ts)(s:ByteArray):CallL Tryz.prog Z9c [PB T b ts] [T.G] [.is (.pointer (some ⟨b,0,none⟩)),.is (.string s)] (fun _:Unit=>True) (fun _=>[PB T b (skT 5 s ts)]) (fun _=>.is (.bool (isT 5 s ts))):=
CallL.of (fn:=Tryz.f27) Tryz.func27 (n:=8) rfl rfl rfl (fun _ _=>by kernel_rfl) fun E W hb0=>by
 refine vQ ?_;refine Ja rfl (vP [0,1] ?_);refine Jm rfl (Jm rfl (JO.callK (Lr:=[]) (Z44 T hc b ts hts 5 s) rfl (.refl _) (Z7c qI) qA ?_));intro z hz;refine Ja rfl (vS [4] ?_);refine vR ?_;exact JX.retL1 rfl () trivial (.refl _) rfl rfl hb0 rfl (Sub.refl _)
theorem ZZ(T:Tk)(hc:T.ts.length<=T.cap)(b:Nat)(ts:List T3)(hts:ts<:+T.ts)(s:ByteArray):CallL Tryz.prog Z93 [PB T b ts] [T.G] [.is (.pointer (some ⟨b,0,none⟩)),.is (.string s)] (fun _:Unit=>True) (fun _=>[PB T b (skT 1 s ts)]) (fun _=>.is (.bool (isT 1 s ts))):=
CallL.of (fn:=Tryz.f104) Tryz.func104 (n:=8) rfl rfl rfl (fun _ _=>by kernel_rfl) fun E W hb0=>by
 refine vQ ?_;refine Ja rfl (vP [0,1] ?_);refine Jm rfl (Jm rfl (JO.callK (Lr:=[]) (Z44 T hc b ts hts 1 s) rfl (.refl _) (Z7c qI) qA ?_));intro z hz;refine Ja rfl (vS [4] ?_);refine vR ?_;exact JX.retL1 rfl () trivial (.refl _) rfl rfl hb0 rfl (Sub.refl _)
theorem ZP(pv:Value)(x:Bool):CallP Tryz.prog Z8x [] [] [.is pv,.is (.bool x)] (x=false) flt (fun _:Unit=>x=true) (fun _=>[]) (fun _=>.is (.tuple #[])):=
CallP.of (fn:=Tryz.f28) Tryz.func28 (n:=8) rfl rfl rfl (fun _ _=>by kernel_rfl) fun E W hb0=>by
 refine vQ ?_;refine Jm rfl (Jq (Z2e rfl) (vS [5] ?_));refine yC rfl (fun ht5=>?_) (fun ht5=>?_);refine vQ ?_;refine Jq (Zg (cs:=[]) Z8V .nil rfl rfl) (Jq (Zf0 (d:=.struct #[]) qK rfl rfl) ?_);refine JO.pan rfl ?_;exact JX.pnI (by simpa using ht5);apply yK;refine JX.normal_ret ?_;refine JX.toP ?_;exact JX.retL0 rfl () (by simpa using ht5) (Z3q _) rfl hb0 rfl
theorem Z8Y{k:Int}{ts:List T3}(h:isK k ts=true):ts≠[]:=fun e=>by subst e;cases h
theorem Z79(k:Int)(ts:List T3):(decide ((0:Int)<((ts.length:Nat):Int))&&((ts.headD t3D).k==k))=isK k ts:=by
 cases ts with
 |nil=>rfl
 |cons t r=>rw[decide_eq_true (show(0:Int)<(((t::r).length:Nat):Int) by simp)];rfl
theorem Zcn(k:Int)(ts:List T3):takeP k ts=if isK k ts then some (ts.headD t3D,ts.tail)else none:=by cases ts<;>rfl
theorem Z43{ts:List T3}(h:decide ((0:Int)<((ts.length:Nat):Int))=true):ts≠[]:=fun e=>by subst e;cases h
theorem Z3l(T:Tk)(hc:T.ts.length<=T.cap)(b:Nat)(ts:List T3)(hts:ts<:+T.ts)(kd:Int):CallP Tryz.prog Z8A [PB T b ts] [T.G] [.is (.pointer (some ⟨b,0,none⟩)),.is (.int .i64 kd)] (takeP kd ts=none) flt (fun z:T3×List T3=>takeP kd ts=some z) (fun z=>[PB T b z.2]) (fun z=>.is (tv z.1)):=
CallP.of (fn:=Tryz.f64) Tryz.func64 (n:=40) rfl rfl rfl (fun _ _=>by kernel_rfl) fun E W hb0=>by
 refine vQ ?_;refine JO.alloc Z1C rfl fun b4=>(vS [0,1,4] ?_);refine J.regS 18 hmx qK qK ?_;refine yz (Z2 rfl) (yz (Z2 rfl) (yz (Z5 rfl) (yz (Z0 Zz rfl) (yz (Z1 ZJ rfl rfl) (yz (ZE Z12 rfl) (yz (Z13 rfl rfl) (yz (Z2 rfl) (yg rfl rfl rfl (fun hg=>Z2 (.inl rfl)) (yg rfl rfl rfl (fun hg=>Z5 (qR rfl)) ?_)))))))));refine yg rfl rfl rfl (fun hg=>Z0 Zz (qR rfl)) ?_;refine yg rfl rfl rfl (fun hg=>Z1 ZJ (qR rfl) rfl) ?_;refine yg rfl rfl rfl (fun hg=>Z9 Z1m (qR rfl) rfl (.inl rfl) qM (Z3z (Z43 hg))) ?_;refine yg rfl rfl rfl (fun hg=>Z0 Z1n (qR rfl)) ?_;refine yg rfl rfl rfl (fun hg=>ZK (enc:=T3.cells) (sz:=3) (i:=T.k ts) (j:=0) (y:=ts.headD t3D) (u:=.int .i64 (ts.headD t3D).k) Zq (qR rfl) qI rfl (Tk.head hts (Z43 hg)) (by rw[Tk.j_eq hc hts (Z43 hg)];omega) rfl) ?_;refine yg rfl rfl rfl (fun hg=>Z2 (.inl rfl)) (yg rfl rfl rfl (fun hg=>Zu (qR rfl) (qR rfl)) ?_);refine yz (Zn rfl rfl rfl id) ?_;apply yn;refine FinS.tail0 ?_;refine JO.callPK (Lr:=_) (ZP (.pointer (some ⟨b,0,none⟩)) _) rfl (Z3q _) Z3j qA (fun hbad=>?_) ?_
 · exact JX.pnI (by rw[Zcn,<-Z79,hbad];rfl)
 intro z hz;have hK:isK kd ts=true:=by rw[<-Z79];exact hz
 refine vD ?_;refine vP [0,4] ?_;refine Jm rfl (Jq (Z5 rfl) (Jq (Z0 Zz rfl) (Jq (Z1 ZJ rfl rfl) (Jq (Z9 Z1m rfl rfl rfl qM (Z3z (Z8Y hK))) ?_))));refine Jq (Z3W (enc:=T3.cells) (sz:=3) (i:=T.k ts) (y:=ts.headD t3D) (cs:=T3.cells (ts.headD t3D)) ZM rfl qI rfl (Tk.head hts (Z8Y hK)) (by rw[Tk.j_eq hc hts (Z8Y hK)];rfl) rfl) ?_;refine JO.alloc Z1C rfl fun b5=>(JO.m (Z4 rfl rfl qU qC qO ZI) (by rfl) ?_);refine vP [0,4,5] ?_;refine Jm rfl (Jm rfl (Jq (Z5 rfl) (Jq (Z0 Zz rfl) (Jq (Z1 ZJ rfl rfl) (Jq (Z6X Z12 Z1m rfl rfl qM (by have:=Z3z (Z8Y hK);omega)) ?_)))));refine Jq (Z5 rfl) (Jq (Z0 Zz rfl) (JO.m (Zj (cs':=[_]) rfl rfl qU rfl rfl rfl rfl Z4D) (by rfl) ?_));refine vP [4,5] ?_;refine Jq (ZR (cs:=[_,_,_]) ZM rfl rfl rfl) (JO.m (Z4 rfl rfl qU qC qO ZI) (by rfl) ?_);refine vS [4] ?_;refine vR ?_;refine JX.toP ?_;exact JX.retLC (Lr:=[_,_]) rfl (ts.headD t3D,ts.tail) (by rw[Zcn,hK];rfl) (List.Perm.trans (List.perm_append_comm (l₁:=[_,_]) (l₂:=[_])) (.of_eq (congrArg (fun v=>Own.mk b Z3S (.is (.agg #[v]))::[_,_]) (Tk.tail hc hts (Z8Y hK))))) rfl hb0 rfl ZM HasOwn.mem rfl rfl
theorem Z3f(T:Tk)(hc:T.ts.length<=T.cap)(b:Nat)(ts:List T3)(hts:ts<:+T.ts):CallP Tryz.prog Z8J [PB T b ts] [T.G] [.is (.pointer (some ⟨b,0,none⟩))] (nameP ts=none) flt (fun z:ByteArray×List T3=>nameP ts=some z) (fun z=>[PB T b z.2]) (fun z=>.is (.string z.1)):=
CallP.of (fn:=Tryz.f105) Tryz.func105 (n:=6) rfl rfl rfl (fun _ _=>by kernel_rfl) fun E W hb0=>by
 refine vQ ?_;refine Ja rfl (vP [0] ?_);refine Jm rfl ?_;refine JO.callPK (Lr:=[]) (Z3l T hc b ts hts 2) rfl (.refl _) (Z7c qI) qA (fun hbad=>?_) ?_
 · exact JX.pnI (by unfold nameP;rw[hbad];rfl)
 intro z hz;refine vD ?_;refine Jq (Z4S (off:=1) qK rfl rfl) ?_;refine Ja rfl (vS [2] ?_);refine vR ?_;refine JX.toP ?_;exact JX.retL1 rfl (z.1.t,z.2) (by unfold nameP;rw[hz];rfl) (.refl _) rfl rfl hb0 rfl (Sub.refl _)
theorem Sub.leaf{L:List Own}{Φ:List (World->Prop)}{k vk vn:Int}{vs tb nm:ByteArray}{sl:Int}:Sub L Φ (.is (.agg (exCells k vk vn vs tb nm sl none 0 0).toArray)) (.rep (ExR (.mk k vk vn vs tb nm sl []))):=fun E v w hf e=>by
 rw[show v=_ from e];exact fun w' _=>ZdW
theorem Z3d(k:Int)(kids:List Ex):CallTy Tryz.prog Zex [.is (.int .i64 k),.rep (ExsR kids)] (.rep (ExR (nd k kids))):=
 CallTy.of (fn:=Tryz.f164) Tryz.func164 (n:=8) rfl rfl rfl (fun _ _=>by kernel_rfl) fun E W=>by
 refine J.openExs (s:=1) rfl (fun a len cap b0 o0 hl ha=>?_);refine vQ ?_;refine JO.alloc ZT rfl fun b4=>(vP [0,1,4] ?_);refine Jm rfl (Jm rfl (Jq (Zg (cs:=[_,_,_,_,_,_,_,_]) Z17 (.cons rfl (.cons rfl .nil)) rfl rfl) (JO.m (Z4 rfl rfl qU qC qO Zc) (by rfl) ?_)));refine vS [4] ?_;refine vR ?_;exact JX.retCsub rfl rfl Z6 HasOwn.mem rfl rfl (Sub.exMk List.mem_cons_self)
theorem Z3L(vk vn:Int)(vs:ByteArray):CallTy Tryz.prog ZbX [.is (.agg #[.int .i64 vk,.int .i64 vn,.string vs])] (.rep (ExR (lit vk vn vs))):=
 CallTy.of (fn:=Tryz.f193) Tryz.func193 (n:=5) rfl rfl rfl (fun _ _=>by kernel_rfl) fun E W=>by
 refine vQ ?_;refine JO.box rfl rfl fun b1=>(JO.alloc ZT rfl fun b2=>(vP [1,2] ?_));refine Jq (ZR (cs:=[_,_,_]) Z4T rfl rfl rfl) (Jq (Zg (cs:=[_,_,_,_,_,_,_,_]) Z17 (.cons rfl (.cons rfl .nil)) rfl rfl) (JO.m (Z4 rfl rfl qU qC qO Zc) (by rfl) ?_));refine vS [2] ?_;refine vR ?_;exact JX.retCsub rfl rfl Z6 HasOwn.mem rfl rfl Sub.leaf
theorem Zde{e:Ps Ex}{ts:List T3}(h:isT 5 Z1s ts=true):factorP e ts=(factorP e ts.tail).map fun z=>(nd 3 [z.1],z.2):=by
 obtain⟨t,r,rfl,_⟩:=Z5t h;rw[factorP,if_pos h];rfl
theorem Zd3{e:Ps Ex}{ts:List T3}(h:isT 5 Z1s ts=false):factorP e ts=atomP e ts:=by
 cases ts with
 |nil=>rw[factorP]
 |cons t r=>rw[factorP,if_neg (by rw[h];decide)]
theorem Z2C{k:Int}{s:ByteArray}{ts:List T3}(h:isT k s ts=true):skT k s ts=ts.tail:=by unfold skT;rw[h];rfl
theorem Z37{k:Int}{s:ByteArray}{ts:List T3}(h:isT k s ts=false):skT k s ts=ts:=by unfold skT;rw[h];rfl
theorem Z1h{ts us:List T3}(h:ts<:+us):ts.tail<:+us:=(List.tail_suffix ts).trans h
theorem Z65(T:Tk)(hc:T.ts.length<=T.cap)(b:Nat)(ts:List T3)(hts:ts<:+T.ts)(e:Ps Ex)(hat:CallP Tryz.prog Z3k [PB T b (ts)] [T.G,AF] [.is (.pointer (some ⟨b,0,none⟩))] (atomP e (ts)=none) flt (fun z:Ex×List T3=>atomP e (ts)=some z) (fun z=>[PB T b z.2]) (fun z=>.rep (ExR z.1)))(ih: ∀us,us<:+T.ts->us.length<ts.length->CallP Tryz.prog Z2f [PB T b (us)] [T.G,AF] [.is (.pointer (some ⟨b,0,none⟩))] (factorP e (us)=none) flt (fun z:Ex×List T3=>factorP e (us)=some z) (fun z=>[PB T b z.2]) (fun z=>.rep (ExR z.1))):CallP Tryz.prog Z2f [PB T b ts] [T.G,AF] [.is (.pointer (some ⟨b,0,none⟩))] (factorP e ts=none) flt (fun z:Ex×List T3=>factorP e ts=some z) (fun z=>[PB T b z.2]) (fun z=>.rep (ExR z.1)):=
CallP.of (fn:=Tryz.f191) Tryz.func191 (n:=11) rfl rfl rfl (fun _ _=>by kernel_rfl) fun E W hb0=>by
 refine vQ ?_;refine JO.alloc ZT rfl fun b2=>(vP [0,2] ?_);refine Jm rfl (JO.callK (Lr:=[_]) (ZX T hc b ts hts Z1s) rfl (.swap _ _ _) qF qA ?_);intro z hz;refine vD ?_;refine vS [0,2,4] ?_;refine yC rfl (fun ht4=>?_) (fun ht4=>?_);rw[Z2C ht4];refine vQ ?_;refine Jm rfl ?_;refine JO.callPK (Lr:=[_]) (ih ts.tail (Z1h hts) (ZG ht4).2) rfl (.refl _) qF qA (fun hbad=>?_) ?_
 · exact JX.pnI (by rw[Zde ht4,hbad];rfl)
 intro z hz;refine vD ?_;refine JO.openA (s:=6) rfl (fun a6 l6 q6 b6_ o6_ _ _=>?_);refine Jq (Zx (cs:=[_,_,_,_,_,_,_,_]) ZB qM qM (.cons rfl .nil) rfl rfl rfl) ?_;refine JO.callK (Lr:=[_,_]) ((Z3d 3 [z.1]).toL (L0:=[]) (Φ0:=[]) (Zp:=fun _:Unit=>True) (L1:=fun _=>[]) (R:=fun _=>.rep (ExR (nd 3 [z.1]))) () trivial rfl (fun _ _ _ h=>h)) rfl (Z3q _) Z3j (.one rfl (.sub rfl (Sub.newExs [XC.mk' (z.1) (z.1).K (z.1).VK (z.1).VN (z.1).VS (z.1).TB (z.1).NM (z.1).SL a6 l6 q6] rfl (fun p hp=>by rw[List.mem_singleton]at hp;subst hp;(repeat first|exact yh|apply yx))) .nil)) ?_;intro _ _;refine vD ?_;refine JO.m (Z4 rfl rfl qU qC qO Zc) (by rfl) ?_;refine vS [2] ?_;refine vR ?_;refine JX.toP ?_;exact JX.retLCs (Lr:=[_]) rfl (nd 3 [z.1],z.2) (by rw[Zde ht4,hz];rfl) (.refl _) rfl rfl hb0 rfl Z6 HasOwn.mem Z1S (Sub.refl _);apply yK
 repeat first|apply yX|apply yB
 rw[Z37 ht4];refine vQ ?_;refine Jm rfl ?_;refine JO.callPK (Lr:=[_]) (hat) rfl (.refl _) qF qA (fun hbad=>?_) ?_
 · exact JX.pnI (by rw[Zd3 ht4,hbad])
 intro z hz;refine vD ?_;refine JO.m (Z4 rfl rfl qU qC qO Zc) (by rfl) ?_;refine vS [2] ?_;refine vR ?_;refine JX.toP ?_;exact JX.retLCs (Lr:=[_]) rfl z (by rw[Zd3 ht4,hz]) (.refl _) rfl rfl hb0 rfl Z6 HasOwn.mem Z1S (Sub.refl _)
theorem Z58(T:Tk)(hc:T.ts.length<=T.cap)(b:Nat)(e:Ps Ex)(N:Nat)(hat: ∀ts,ts<:+T.ts->ts.length<=N->CallP Tryz.prog Z3k [PB T b (ts)] [T.G,AF] [.is (.pointer (some ⟨b,0,none⟩))] (atomP e (ts)=none) flt (fun z:Ex×List T3=>atomP e (ts)=some z) (fun z=>[PB T b z.2]) (fun z=>.rep (ExR z.1))): ∀n ts,ts<:+T.ts->ts.length<=N->ts.length<=n->CallP Tryz.prog Z2f [PB T b (ts)] [T.G,AF] [.is (.pointer (some ⟨b,0,none⟩))] (factorP e (ts)=none) flt (fun z:Ex×List T3=>factorP e (ts)=some z) (fun z=>[PB T b z.2]) (fun z=>.rep (ExR z.1))
 |n,ts,hts,hN,hn=>Z65 T hc b ts hts e (hat ts hts hN) fun us hus hl=>by
  cases n with
  |zero=>omega
  |succ n=>exact Z58 T hc b e N hat n us hus qM qM
theorem Zhm(s:ByteArray)(h:Lib.fields s.data.toList=[s.data.toList])(hs:s.size<4294967281)(ha: ∀(j:Nat) (b:UInt8),s.data.toList[j]? =some b->b.toNat<128):CallF Tryz.prog Z7f [AF] [.is (.string s)] (.newSl (.cells ([Value.string s]:List Value).toArray 9 (0,0)) 1 1):=by
 have h1:=ZbB s hs ha;rw[h]at h1;have e:(⟨s.data.toList.toArray⟩:ByteArray)=s:=by rw[Array.toArray_toList]
 simp only[List.map_cons,List.map_nil,e]at h1;exact h1
abbrev wd(i:Nat)(s:ByteArray)(ts:List T3):List T3:=if i=0 then ts else ts.tail
theorem Z21(T:Tk)(hc:T.ts.length<=T.cap)(b:Nat)(ts:List T3)(hts:ts<:+T.ts)(s:ByteArray)(h:Lib.fields s.data.toList=[s.data.toList])(hs:s.size<4294967281)(ha: ∀(j:Nat) (b:UInt8),s.data.toList[j]? =some b->b.toNat<128):CallP Tryz.prog Z8p [PB T b ts] [T.G,AF] [.is (.pointer (some ⟨b,0,none⟩)),.is (.string s)] (wantP 1 s ts=none) flt (fun z:Unit×List T3=>wantP 1 s ts=some z) (fun z=>[PB T b z.2]) (fun _=>.is (.tuple #[])):=
CallP.of (fn:=Tryz.f108) Tryz.func108 (n:=19) rfl rfl rfl (fun _ _=>by kernel_rfl) fun E W hb0=>by
 refine vQ ?_;refine Jm rfl (Jq (ZN rfl (Zhm s h hs ha) (by simp) qA) ?_);refine JO.openNew (s:=7) rfl (fun r7=>?_);refine Jq (ZE ZD rfl) (Jm rfl (vS [0,7,8,9] ?_));apply yk
 repeat apply yQ
 refine J.loopG (α:=Nat) (fun i=>[(0,.is (.pointer (some ⟨b,0,none⟩))),(7,.is (.slice (some ⟨r7,0,none⟩) 1 1)),(8,.is (.int .i64 1)),(9,.is (.int .i64 (i:Int)))]) (fun i=>[PB T b (wd i s ts)]) (fun i=>fun _=>True) (fun i=>i<=1/\(i=1->isT 1 s ts=true)) (fun i=>1-i) 0 [0,7,8,9] (.cons rfl (.cons rfl (.cons rfl (.cons rfl .nil)))) rfl (fun _=>trivial) ⟨by omega,by omega⟩ fun i ⟨hi,hT⟩=>?_;refine vQ ?_;refine Jq (ZC rfl rfl) (vS [0,7,8,9,10] ?_);refine yC rfl (fun ht10=>?_) (fun ht10=>?_)
 try simp only[yd,yf]at ht10
 apply yK;refine vN ?_;apply yk;obtain rfl:i=0:=by omega
 rw[show wd 0 s ts=ts from rfl];refine vQ ?_;refine Jq (Z9 Z1Y rfl rfl rfl qM qM) ?_;refine Jq (Zcy (cs:=[Value.string s]) Za rfl qI rfl) ?_;refine Ja rfl (vP [0,5,7,8,9] ?_);refine Jm rfl (Jm rfl (Jm rfl (JO.callK (Lr:=[]) (ZZ T hc b ts hts s) rfl (.refl _) (Z7c qI) qA ?_)));intro z hz;refine JO.callPK (Lr:=_) (ZP (.pointer (some ⟨b,0,none⟩)) (isT 1 s ts)) rfl (Z3q _) Z3j qA (fun hbad=>?_) ?_
 · exact JX.pnI (by unfold wantP;rw[hbad];rfl)
 intro z hz;refine vD ?_;refine vS [0,7,8,9] ?_;rw[show skT 1 s ts=wd 1 s ts by unfold skT;rw[hz];rfl];refine vQ ?_;refine Jq (Zv (cc:=1) rfl rfl qM qM qM) ?_;refine Jm rfl ?_;apply yI
 repeat refine JX.normal_block ?_
 refine JX.roundG (x:=0) 1 ?_ ?_ [0,7,8,9] ?_ ?_ ?_ ?_
 · exact⟨by omega,fun _=>hz⟩
 · exact qM
 · exact qS
 · exact qH
 · exact qG
 · exact fun _ _ _=>fun _ _=>trivial
 try simp only[yd,yf]at ht10
 repeat apply yQ
 refine J.exit ?_
 repeat first|refine yH ?_|refine yM rfl ?_|refine yE ?_
 repeat first|apply yX|apply yB
 refine JX.normal_ret ?_;refine JX.toP ?_;obtain rfl:i=1:=by omega
 exact JX.retL0 rfl ((),ts.tail) (by unfold wantP;rw[hT rfl];rfl) (.refl _) rfl hb0 rfl
end Go.Proofs.YtbedigkncjbggaaGreatDoor
