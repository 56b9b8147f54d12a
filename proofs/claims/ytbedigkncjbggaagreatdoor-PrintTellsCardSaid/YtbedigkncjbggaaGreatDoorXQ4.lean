/- The document's scanner in plain terms. No condition. -/
import Derived.Test.YtbedigkncjbggaaGreatDoorXQ3
import Derived.Test.YtbedigkncjbggaaGreatDoorXG4
import Derived.Test.YtbedigkncjbggaaGreatDoorXQ1
set_option maxRecDepth 100000
namespace Go.Proofs.YtbedigkncjbggaaGreatDoor
open Go Go.Vc
def isW(c:Int):Bool:=((decide (97<=c)&&decide (c<=122))||(decide (65<=c)&&decide (c<=90)))||(c==95)
def isB(c:Int):Bool:=(((c==32)||(c==9))||(c==10))||(c==13)
def classF(c:Int):Int:=if isW c then 1 else if digitF c then 2 else if isB c then 3 else 0
def clsOK(b:UInt8):Bool:=((classF b.toNat==1)==letB b)&&(((classF b.toNat==1)||(classF b.toNat==2))==wordB b)&&((classF b.toNat==2)==digB b)&&((classF b.toNat==3)==isSp b)&&(!(isSp b)|| !(wordB b))
theorem ZlO(b:UInt8):clsOK b=true:=Z78 (p:=clsOK) (by decide+kernel) b
theorem ZaT(b:UInt8):(classF b.toNat==1)=letB b/\((classF b.toNat==1)||(classF b.toNat==2))=wordB b/\(classF b.toNat==2)=digB b/\(classF b.toNat==3)=isSp b/\(isSp b=true->wordB b=false):=by
 have h:=ZlO b;unfold clsOK at h;simp only[Bool.and_eq_true,beq_iff_eq,Bool.or_eq_true,Bool.not_eq_true']at h;obtain⟨⟨⟨⟨h1,h2⟩,h3⟩,h4⟩,h5⟩:=h;refine⟨h1,h2,h3,h4,fun h=>?_⟩;rcases h5 with h5|h5
 · rw[h]at h5;cases h5
 · exact h5
def upV(fr tp d:Int)(b:UInt8):Int:=if decide (fr<=(b.toNat:Int))&&decide ((b.toNat:Int)<=tp)then IntKind.u8.wrap (IntKind.i64.wrap (IntKind.i64.wrap (b.toNat:Int)+d))else b.toNat
def upF(fr tp d:Int)(b:UInt8):UInt8:=(upV fr tp d b).toNat.toUInt8
theorem Zkq(x:Int):((IntKind.u8.wrap x).toNat.toUInt8.toNat:Int)=IntKind.u8.wrap x:=by
 have h:IntKind.u8.wrap x=x % 256:=by
  unfold IntKind.wrap
  simp[IntKind.bits,IntKind.signed]
 rw[h];have h1:0<=x % 256:=Int.emod_nonneg _ qD;have h2:x % 256<256:=Int.emod_lt_of_pos _ qD;have h3:(x % 256).toNat<256:=by omega
 rw[Nat.toUInt8_eq,UInt8.toNat_ofNat_of_lt' (by simpa using h3)]
 omega
theorem up_v(fr tp d:Int)(b:UInt8):((upF fr tp d b).toNat:Int)=upV fr tp d b:=by
 unfold upF upV
 split
 · exact Zkq _
 · simp
theorem Zjo: ∀b:UInt8,upF 97 122 (-32) b=Lib.upperB b:=fun b=>by
 have:=Z78 (p:=fun b=>upF 97 122 (-32) b==Lib.upperB b) (by decide+kernel) b
 simpa using this
theorem Zj7: ∀b:UInt8,upF 65 90 32 b=Lib.lowerB b:=fun b=>by
 have:=Z78 (p:=fun b=>upF 65 90 32 b==Lib.lowerB b) (by decide+kernel) b
 simpa using this
def strC(s:ByteArray):List Value:=[.string s]
theorem Z1j(s:ByteArray):(strC s).length=1:=rfl
def joinW:List (List UInt8)->List UInt8
 |[]=>[32]
 |w::ws=>32::w++joinW ws
theorem Zh8(ws:List (List UInt8)): ∃t,joinW ws=32::t:=by
 cases ws with
 |nil=>exact⟨[],rfl⟩
 |cons w ws=>exact⟨_,rfl⟩
theorem Zev: ∀(x w:List UInt8) (t:List UInt8),32∉x->32∉w->((x++[32]).isPrefixOf (w++32::t)=true↔x=w)
 |[],[],t,_,_=>by simp
 |[],b::w,t,_,h=>by
   have:(32==b)=false:=beq_eq_false_iff_ne.2 fun e=>h (e ▸ List.mem_cons_self)
   simp[List.isPrefixOf,this]
 |a::x,[],t,h,_=>by
   have:(a==32)=false:=beq_eq_false_iff_ne.2 fun e=>h (e ▸ List.mem_cons_self)
   simp[List.isPrefixOf,this]
 |a::x,b::w,t,h1,h2=>by
   have ih:=Zev x w t (fun h=>h1 (List.mem_cons_of_mem _ h)) (fun h=>h2 (List.mem_cons_of_mem _ h));simp only[List.cons_append,List.isPrefixOf,Bool.and_eq_true,beq_iff_eq,ih,List.cons.injEq]
theorem ZeG(x:List UInt8): ∀(w t:List UInt8),32∉w->(0<=Lib.index (w++t) (padL x)↔0<=Lib.index t (padL x))
 |[],t,_=>Iff.rfl
 |b::w,t,h=>by
   have hb:(32==b)=false:=beq_eq_false_iff_ne.2 fun e=>h (e ▸ List.mem_cons_self);have hp:(padL x).isPrefixOf (b::(w++t))=false:=by
     unfold padL
     simp[List.isPrefixOf,hb]
   rw[<-ZeG x w t (fun h'=>h (List.mem_cons_of_mem _ h'))];show 0<=Lib.index (b::(w++t)) (padL x)↔_;rw[Lib.index,hp];have:=Lib.index_ge (w++t) (padL x);simp only[Bool.false_eq_true,if_false]
   by_cases h1:Lib.index (w++t) (padL x)= -1
   · rw[h1];simp
   · rw[if_neg (by simpa using h1)]
     omega
theorem Zfm{x:List UInt8}(hx:32∉x): ∀ws:List (List UInt8),(∀w∈ws,32∉w)->(0<=Lib.index (joinW ws) (padL x)↔x∈ws)
 |[],_=>by
   have:Lib.index (joinW []) (padL x)= -1:=by
     cases x with
     |nil=>rfl
     |cons a x=>
       unfold joinW padL Lib.index
       simp[List.isPrefixOf,Lib.index]
   rw[this]
   simp
 |w::ws,hw=>by
   obtain⟨t,ht⟩:=Zh8 ws;have h1:=Zev x w t hx (hw w List.mem_cons_self);have ih:=Zfm hx ws (fun v hv=>hw v (List.mem_cons_of_mem _ hv));have hs:=ZeG x w (joinW ws) (hw w List.mem_cons_self);have e:joinW (w::ws)=32::(w++joinW ws):=rfl;have hp:(padL x).isPrefixOf (32::(w++joinW ws))=(x++[32]).isPrefixOf (w++joinW ws):=by
     unfold padL
     simp[List.isPrefixOf]
   rw[e,Lib.index,hp];rw[<-ht]at h1
   by_cases hh:x=w
   · rw[if_pos (h1.2 hh)]
     simp[hh]
   · rw[if_neg (fun h=>hh (h1.1 h))]
     have hge:=Lib.index_ge (w++joinW ws) (padL x);rw[ih]at hs
     constructor
     · intro h
       refine List.mem_cons_of_mem _ (hs.1 ?_)
       by_cases h9:Lib.index (w++joinW ws) (padL x)= -1
       · rw[h9]at h;simp at h
       · omega
     · intro h
       rcases List.mem_cons.1 h with h|h
       · exact absurd h hh
       · have:=hs.2 h
         rw[if_neg (by rw[beq_iff_eq];omega)]
         omega
def wordsB:List ByteArray:=[⟨#[65,78,68]⟩,⟨#[65,83]⟩,⟨#[65,83,67]⟩,⟨#[66,69,71,73,78]⟩,⟨#[66,79,79,76]⟩,⟨#[66,89]⟩,⟨#[67,79,77,77,73,84]⟩,⟨#[67,79,85,78,84]⟩,⟨#[67,82,69,65,84,69]⟩,⟨#[68,69,76,69,84,69]⟩,⟨#[68,69,83,67]⟩,⟨#[70,65,76,83,69]⟩,⟨#[70,82,79,77]⟩,⟨#[71,82,79,85,80]⟩,⟨#[72,65,83,72]⟩,⟨#[73,78,68,69,88]⟩,⟨#[73,78,78,69,82]⟩,⟨#[73,78,83,69,82,84]⟩,⟨#[73,78,84]⟩,⟨#[73,78,84,79]⟩,⟨#[73,83]⟩,⟨#[74,79,73,78]⟩,⟨#[75,69,89]⟩,⟨#[76,73,77,73,84]⟩,⟨#[77,65,88]⟩,⟨#[77,73,78]⟩,⟨#[78,79,84]⟩,⟨#[78,85,76,76]⟩,⟨#[79,78]⟩,⟨#[79,82]⟩,⟨#[79,82,68,69,82]⟩,⟨#[80,82,73,77,65,82,89]⟩,⟨#[82,79,76,76,66,65,67,75]⟩,⟨#[83,69,76,69,67,84]⟩,⟨#[83,69,84]⟩,⟨#[83,85,77]⟩,⟨#[84,65,66,76,69]⟩,⟨#[84,69,88,84]⟩,⟨#[84,82,85,69]⟩,⟨#[85,78,73,81,85,69]⟩,⟨#[85,80,68,65,84,69]⟩,⟨#[85,83,73,78,71]⟩,⟨#[86,65,76,85,69,83]⟩,⟨#[87,72,69,82,69]⟩]
theorem ZkF:kwB.data.toList=joinW (wordsB.map fun s=>s.data.toList):=by decide+kernel
theorem ZiL: ∀w∈wordsB.map (fun s=>s.data.toList),(32:UInt8)∉w:=by decide+kernel
theorem Zbw(s:ByteArray)(x:List UInt8):seq s (bl x)=(s.data.toList==x):=by
 unfold seq;rw[ByteArray.toList_eq,ByteArray.toList_eq,Z1O]
theorem Ze4{x:List UInt8}(hx:32∉x):Lib.contains kwB.data.toList (padL x)=wordsB.any (fun s=>seq s (bl x)):=by
 unfold Lib.contains;rw[ZkF];have h:=Zfm hx _ ZiL;rw[Bool.eq_iff_iff,decide_eq_true_iff,h,List.any_eq_true]
 constructor
 · intro hm
   obtain⟨s,hs,e⟩:=List.mem_map.1 hm;exact⟨s,hs,by rw[Zbw];simpa using e⟩
 · rintro⟨s,hs,e⟩
   rw[Zbw]at e;exact List.mem_map.2 ⟨s,hs,by simpa using e⟩
theorem Zlm(b:UInt8)(h:wordB b=true):Lib.upperB b≠32:=by
 have:=Z78 (p:=fun b=> !(wordB b)|| !(Lib.upperB b==32)) (by decide+kernel) b;rw[h]at this
 simpa using this
theorem Zc6{w:List UInt8}(h: ∀b∈w,wordB b=true):32∉Lib.toUpperA w:=fun hm=>by
 obtain⟨b,hb,e⟩:=List.mem_map.1 hm;exact Zlm b (h b hb) e
theorem Zj0{α:Type}(p:α->Bool)(d:α){xs:List α}{i:Nat}(h:i<xs.length):(xs.take (i+1)).any p=((xs.take i).any p||p (xs.getD i d)):=by
 rw[List.take_add_one,List.any_append]
 simp[h]
theorem Zks{α:Type}{p:α->Bool}(d:α){xs:List α}{i:Nat}(h:i<xs.length)(hp:p (xs.getD i d)=true):xs.any p=true:=
 List.any_eq_true.2 ⟨_,by rw[List.getD_eq_getElem?_getD,List.getElem?_eq_getElem h];exact List.getElem_mem h,hp⟩
def oneB:ByteArray:=⟨#[40,41,44,59,42,43,45,47,37,61,60,62,46]⟩
def signRF(l:List UInt8):Int:=
 if decide (2<=(l.length:Int))&&((l.take 2==[60,62])||(l.take 2==[60,61])||(l.take 2==[62,61]))then 2 else if oneB.data.toList.contains (l.headD 0)then 1 else 0
theorem Zlh(b:UInt8):tryL [b] 1=oneB.data.toList.contains b:=by
 have:=Z78 (p:=fun b=>tryL [b] 1==oneB.data.toList.contains b) (by decide+kernel) b
 simpa using this
theorem Zk4: ∀b∈sgB.data.toList,∀c∈sgB.data.toList,b≠32->tryL [b,c] 2=((([b,c]:List UInt8)==[60,62])||(([b,c]:List UInt8)==[60,61])||(([b,c]:List UInt8)==[62,61])):=by decide+kernel
theorem Ziz{b c:UInt8}(hb:b≠32):tryL [b,c] 2=((([b,c]:List UInt8)==[60,62])||(([b,c]:List UInt8)==[60,61])||(([b,c]:List UInt8)==[62,61])):=by
 by_cases h1:b∈sgB.data.toList
 · by_cases h2:c∈sgB.data.toList
   · exact Zk4 b h1 c h2 hb
   · rw[Zhh (b:=c) (by simp) h2]
     have hc:c≠62/\c≠61:=⟨fun e=>h2 (by rw[e];decide+kernel),fun e=>h2 (by rw[e];decide+kernel)⟩
     simp[hc.1,hc.2]
 · rw[Zhh (b:=b) (by simp) h1]
   have hc:b≠60/\b≠62:=⟨fun e=>h1 (by rw[e];decide+kernel),fun e=>h1 (by rw[e];decide+kernel)⟩
   simp[hc.1,hc.2]
theorem ZhP(A B:Bool)(b:UInt8)(l:List UInt8)(h:signRF (b::l)=if A then 2 else if B then 1 else 0)(h2:tryL (b::l) 2=A)(h1:tryL (b::l) 1=B):
  signL (b::l)=if signRF (b::l)=0 then((t3D,30),0)else((⟨5,bl ((b::l).take (signRF (b::l)).toNat),0⟩,0),(signRF (b::l)).toNat):=by
 rw[h];unfold signL;rw[h2,h1];cases A<;>cases B<;>rfl
theorem Zg1{b:UInt8}{l:List UInt8}(hb:b≠32):signL (b::l)=if signRF (b::l)=0 then((t3D,30),0)else((⟨5,bl ((b::l).take (signRF (b::l)).toNat),0⟩,0),(signRF (b::l)).toNat):=by
 have e1:tryL (b::l) 1=oneB.data.toList.contains b:=by rw[<-Zlh];unfold tryL;simp
 cases l with
 |nil=>
   refine ZhP false _ b [] ?_ rfl e1;unfold signRF
   simp
 |cons c l=>
   have e2:tryL (b::c::l) 2=tryL [b,c] 2:=by unfold tryL;simp
   refine ZhP _ _ b (c::l) ?_ (e2.trans (Ziz hb)) e1;unfold signRF;have e4:decide (2<=((b::c::l).length:Int))=true:=by simp;omega
   have e3:(b::c::l).take 2=[b,c]:=rfl;simp only[e4,e3,Bool.true_and,List.headD_cons]
   rfl
def quoF:List UInt8->List UInt8->Option (List UInt8×Nat)
 |[],_=>none
 |[b],acc=>if b==39 then some (acc,1)else none
 |b::c::l,acc=>if b==39 then(if c != 39 then some (acc,1)else(quoF l (acc++[c])).map fun r=>(r.1,r.2+2))else(quoF (c::l) (acc++[b])).map fun r=>(r.1,r.2+1)
theorem Z7d: ∀(l acc:List UInt8),(quoF l acc=none->(textL l acc).1=(t3D,30))/\(∀r,quoF l acc=some r->textL l acc=(endT r.1,r.2))
 |[],acc=>⟨fun _=>rfl,fun r h=>by cases h⟩
 |[b],acc=>by
   by_cases hq:(b==39)=true
   · have e1:quoF [b] acc=some (acc,1):=by rw[quoF,if_pos hq]
     have e2:textL [b] acc=(endT acc,1):=by rw[textL,if_pos hq]
     rw[e1,e2];exact⟨fun h=>(by cases h),fun r h=>(by injection h with h;subst h;rfl)⟩
   · have e1:quoF [b] acc=none:=by rw[quoF,if_neg hq]
     have e2:textL [b] acc=((t3D,30),1):=by rw[textL,if_neg hq]
     rw[e1,e2];exact⟨fun _=>rfl,fun r h=>(by cases h)⟩
 |b::c::l,acc=>by
   obtain⟨a1,a2⟩:=Z7d l (acc++[c]);obtain⟨b1,b2⟩:=Z7d (c::l) (acc++[b])
   by_cases hq:(b==39)=true
   · by_cases hc:(c != 39)=true
     · have e1:quoF (b::c::l) acc=some (acc,1):=by rw[quoF,if_pos hq,if_pos hc]
       have e2:textL (b::c::l) acc=(endT acc,1):=by rw[textL,if_pos hq,if_pos hc]
       rw[e1,e2];exact⟨fun h=>(by cases h),fun r h=>(by injection h with h;subst h;rfl)⟩
     · have e1:quoF (b::c::l) acc=(quoF l (acc++[c])).map fun r=>(r.1,r.2+2):=by rw[quoF,if_pos hq,if_neg hc]
       have e2:textL (b::c::l) acc=((textL l (acc++[c])).1,(textL l (acc++[c])).2+2):=by rw[textL,if_pos hq,if_neg hc]
       rw[e1,e2];refine⟨fun h=>a1 (Option.map_eq_none_iff.1 h),fun r h=>?_⟩;obtain⟨q,hq,e⟩:=Option.map_eq_some_iff.1 h;subst e;rw[a2 q hq]
   · have e1:quoF (b::c::l) acc=(quoF (c::l) (acc++[b])).map fun r=>(r.1,r.2+1):=by rw[quoF,if_neg hq]
     have e2:textL (b::c::l) acc=((textL (c::l) (acc++[b])).1,(textL (c::l) (acc++[b])).2+1):=by rw[textL,if_neg hq]
     rw[e1,e2];refine⟨fun h=>b1 (Option.map_eq_none_iff.1 h),fun r h=>?_⟩;obtain⟨q,hq,e⟩:=Option.map_eq_some_iff.1 h;subst e;rw[b2 q hq]
theorem ZiX(b:UInt8)(l acc:List UInt8)(hb:(b==39)=false):quoF (b::l) acc=(quoF l (acc++[b])).map fun r=>(r.1,r.2+1):=by
 cases l with
 |nil=>simp[quoF,hb]
 |cons c l=>rw[quoF,if_neg (by rw[hb];simp)]
theorem ZlG{s:ByteArray}{i:Nat}(h:i<s.size)(acc:List UInt8)(hb:(by_ s i==39)=false):quoF (dr s i) acc=(quoF (dr s (i+1)) (acc++[by_ s i])).map fun r=>(r.1,r.2+1):=by
 rw[Z1D h,ZiX _ _ _ hb]
theorem Zk0{s:ByteArray}{i:Nat}(h:i+1<s.size)(acc:List UInt8)(hb:(by_ s i==39)=true)(hc:(by_ s (i+1)==39)=true):quoF (dr s i) acc=(quoF (dr s (i+1+1)) (acc++[39])).map fun r=>(r.1,r.2+2):=by
 have e:by_ s (i+1)=39:=by simpa using hc
 rw[Z1D (by omega:i<s.size),Z1D h,quoF,if_pos hb,if_neg (by simp[bne,hc]),e]
theorem Zkt{s:ByteArray}{i:Nat}(h:i<s.size)(acc:List UInt8)(hb:(by_ s i==39)=true)(hc:(decide (((i+1:Nat):Int)<(s.size:Int))&&(by_ s (i+1)==39))=false):quoF (dr s i) acc=some (acc,1):=by
 by_cases h1:i+1<s.size
 · have hc:(by_ s (i+1)==39)=false:=by
     rw[decide_eq_true qM,Bool.true_and]at hc;exact hc
   rw[Z1D h,Z1D h1,quoF,if_pos hb,if_pos (by simp[bne,hc])]
 · rw[Z1D h,Z5h qM,quoF,if_pos hb]
end Go.Proofs.YtbedigkncjbggaaGreatDoor
set_option maxRecDepth 100000
namespace Go.Proofs.YtbedigkncjbggaaGreatDoor
open Go Go.Vc
theorem w8(x:Int):IntKind.u8.wrap x=x % 256:=by
 unfold IntKind.wrap
 simp[IntKind.bits,IntKind.signed]
theorem w64u(x:Int):IntKind.u64.wrap x=x % 18446744073709551616:=by
 unfold IntKind.wrap
 simp[IntKind.bits,IntKind.signed]
def overF(u d:Int):Bool:=decide (922337203685477580<u)||((u==922337203685477580)&&decide (7<d))
def dgU(b:UInt8):Int:=IntKind.u64.wrap (IntKind.u8.wrap ((b.toNat:Int)-48))
def refG:List UInt8->Int->Option Int
 |[],u=>some u
 |x::l,u=>if overF u (dgU x)then none else refG l (IntKind.u64.wrap (IntKind.u64.wrap (10*u)+dgU x))
def refNum(l:List UInt8):Int×Bool:=match refG l 0 with|none=>(0,false)|some u=>(IntKind.i64.wrap u,true)
theorem Zlp{b:UInt8}(h:digB b=true):48<=(b.toNat:Int)/\(b.toNat:Int)<=57:=by
 unfold digB digitF at h
 simpa using h
theorem Zgs: ∀(l:List UInt8) (m:Int),(l.foldl numStep (m,35)).2=35
 |[],_=>rfl
 |x::l,m=>by
   rw[List.foldl_cons];have:(numStep (m,35) x).2=35:=by unfold numStep;split<;>rfl
   rw[show numStep (m,35) x=((numStep (m,35) x).1,35)from Prod.ext rfl this];exact Zgs l _
theorem ZaL: ∀(l:List UInt8) (u:Int),(∀b∈l,digB b=true)->0<=u->u<=9223372036854775807->
   (refG l u=none->(l.foldl numStep (u,0)).2=35)/\(∀v,refG l u=some v->l.foldl numStep (u,0)=(v,0)/\0<=v/\v<=9223372036854775807)
 |[],u,_,h0,h1=>⟨fun h=>(by cases h),fun v h=>(by injection h with h;subst h;exact⟨rfl,h0,h1⟩)⟩
 |x::l,u,hd,h0,h1=>by
   obtain⟨d0,d1⟩:=Zlp (hd x List.mem_cons_self);have e8:IntKind.u8.wrap ((x.toNat:Int)-48)=(x.toNat:Int)-48:=by rw[w8];omega
   have eu:dgU x=(x.toNat:Int)-48:=by unfold dgU;rw[e8,w64u];omega
   have ei:IntKind.i64.wrap ((x.toNat:Int)-48)=(x.toNat:Int)-48:=Z1H qM qM;have em:IntKind.i64.wrap (9223372036854775807-((x.toNat:Int)-48))=9223372036854775807-((x.toNat:Int)-48):=Z1H qM qM;have eq:IntKind.i64.wrap ((9223372036854775807-((x.toNat:Int)-48)).tdiv 10)=(9223372036854775807-((x.toNat:Int)-48)) / 10:=by
     rw[Int.tdiv_eq_ediv_of_nonneg qM];exact Z1H qM qM
   have es:numStep (u,0) x=(IntKind.i64.wrap (IntKind.i64.wrap (10*u)+((x.toNat:Int)-48)),if decide ((9223372036854775807-((x.toNat:Int)-48)) / 10<u)then 35 else 0):=by
     unfold numStep;rw[e8,ei,em,eq]
   rw[List.foldl_cons,refG,eu,es]
   by_cases ho:overF u ((x.toNat:Int)-48)=true
   · rw[if_pos ho]
     have:(9223372036854775807-((x.toNat:Int)-48)) / 10<u:=by
       unfold overF at ho;simp only[Bool.or_eq_true,decide_eq_true_eq,Bool.and_eq_true,beq_iff_eq]at ho
       omega
     rw[if_pos (decide_eq_true this)];exact⟨fun _=>Zgs l _,fun v h=>(by cases h)⟩
   · rw[if_neg ho]
     have hn: ¬(9223372036854775807-((x.toNat:Int)-48)) / 10<u:=by
       unfold overF at ho;simp only[Bool.or_eq_true,decide_eq_true_eq,Bool.and_eq_true,beq_iff_eq,not_or,not_and]at ho
       omega
     rw[if_neg (by rw[decide_eq_false hn];simp)];have e1:IntKind.u64.wrap (IntKind.u64.wrap (10*u)+((x.toNat:Int)-48))=10*u+((x.toNat:Int)-48):=by
       rw[w64u,w64u];omega
     have e2:IntKind.i64.wrap (IntKind.i64.wrap (10*u)+((x.toNat:Int)-48))=10*u+((x.toNat:Int)-48):=by
       rw[Z1H (n:=10*u) qM qM];exact Z1H qM qM
     rw[e1,e2];exact ZaL l _ (fun b hb=>hd b (List.mem_cons_of_mem _ hb)) qM qM
theorem ZcU{l:List UInt8}(hl:headP letB (l.drop (runN digB l))=false):
   numL l=if(refNum (l.take (runN digB l))).2 then(⟨3,⟨#[]⟩,(refNum (l.take (runN digB l))).1⟩,0)else(t3D,35):=by
 have h:=ZaL (l.take (runN digB l)) 0 (Z75 digB l) (Int.le_refl _) qD;have e:numE l=((l.take (runN digB l)).foldl numStep (0,0)).2:=by unfold numE;rw[hl];rfl
 unfold numL refNum;rw[e];cases hr:refG (l.take (runN digB l)) 0 with
 |none=>
   rw[h.1 hr]
   rfl
 |some v=>
   obtain⟨h1,h2,h3⟩:=h.2 v hr;rw[h1];simp only[bne_self_eq_false,Bool.false_eq_true,if_false,if_true];rw[Z1H qM qM]
theorem ZfV{l:List UInt8}(hl:headP letB (l.drop (runN digB l))=true):numL l=(t3D,30):=by
 have e:numE l=30:=by unfold numE;rw[hl];rfl
 unfold numL;rw[e]
 rfl
end Go.Proofs.YtbedigkncjbggaaGreatDoor
set_option maxRecDepth 20000
namespace Go.Proofs.YtbedigkncjbggaaGreatDoor
open Go Go.Vc
theorem ZfR{f:UInt8->UInt8}{s:ByteArray}{i:Nat}{acc X:List UInt8}{y:UInt8}(h:i<s.size)(hy:f (by_ s i)=y)(hx:acc++(dr s i).map f=X):(acc++[y])++(dr s (i+1)).map f=X:=by
 rw[<-hx,Z1D h,<-hy]
 simp
theorem Zm5{fr tp d:Int}{b:UInt8}(h:(decide (fr<=(b.toNat:Int))&&decide ((b.toNat:Int)<=tp))=false):upF fr tp d b=b:=by
 unfold upF upV;rw[if_neg (by rw[h];simp)]
 simp
theorem Zck(s:ByteArray)(x:List UInt8):seq (s.extract 0 2) (bl x)=(s.data.toList.take 2==x):=by
 rw[Zbw,show(2:Nat)=0+2 from rfl,Z1t]
 rfl
def quoP(s:ByteArray)(n:Nat):Option (List UInt8×Nat):=(quoF (dr s (n+1)) []).map fun r=>(r.1,n+1+r.2)
def quoS:Option (List UInt8×Nat)->ByteArray|some r=>bl r.1|none=>⟨#[]⟩
def quoE:Option (List UInt8×Nat)->Int|some r=>(r.2:Int)|none=> -1
theorem ZeJ{s:ByteArray}{i k:Nat}{acc acc':List UInt8}{X:Option (List UInt8×Nat)}(e:quoF (dr s i) acc=(quoF (dr s (i+k)) acc').map fun r=>(r.1,r.2+k))(hr:(quoF (dr s i) acc).map (fun r=>(r.1,i+r.2))=X):(quoF (dr s (i+k)) acc').map (fun r=>(r.1,i+k+r.2))=X:=by
 rw[<-hr,e,Option.map_map]
 congr 1
 funext r
 exact Prod.ext rfl (by show i+k+r.2=i+(r.2+k);omega)
theorem ZgA{s:ByteArray}{i:Nat}(h:i<s.size):s.data.toList[i]? =some (by_ s i):=by
 have:i<s.data.toList.length:=by rw[Z18];exact h
 unfold by_;rw[List.getD_eq_getElem?_getD,List.getElem?_eq_getElem this]
 rfl
theorem ZiE{s:ByteArray}{i:Nat}{u:Int}{X:Option Int}(h:i<s.size)(ho:overF u (dgU (by_ s i))=false)(hr:refG (dr s i) u=X):refG (dr s (i+1)) (IntKind.u64.wrap (IntKind.u64.wrap (10*u)+dgU (by_ s i)))=X:=by
 rw[<-hr,Z1D h,refG,if_neg (by rw[ho];simp)]
theorem Zi4(a b:UInt8):((a.toNat:Int)==(b.toNat:Int))=(a==b):=by
 refine Bool.eq_iff_iff.2 ⟨fun h=>?_,fun h=>?_⟩
 · have h:(a.toNat:Int)=(b.toNat:Int):=by simpa using h
   have:a=b:=UInt8.toNat_inj.1 qM
   simp[this]
 · have h:a=b:=by simpa using h
   subst h
   simp
theorem Zj1{b:UInt8}{i:Nat}(h:i<oneB.size)(hr:(oneB.data.toList.take i).contains b=false)(ht:((b.toNat:Int)==((by_ oneB i).toNat:Int))=false):(oneB.data.toList.take (i+1)).contains b=false:=by
 rw[List.take_add_one,ZgA h,List.contains_append,hr];rw[Zi4]at ht
 simpa [bne] using ht
theorem Zke{b:UInt8}{i:Nat}(h:i<oneB.size)(ht:((b.toNat:Int)==((by_ oneB i).toNat:Int))=true):oneB.data.toList.contains b=true:=by
 rw[Zi4]at ht;have e:b=by_ oneB i:=by simpa using ht
 rw[List.contains_iff_mem,e];exact List.mem_of_getElem? (ZgA h)
theorem ZbA(s:ByteArray):(decide (2<=(s.size:Int))&&((seq (s.extract 0 2) (bl [60,62])||seq (s.extract 0 2) (bl [60,61]))||seq (s.extract 0 2) (bl [62,61])))=(decide (2<=(s.data.toList.length:Int))&&((s.data.toList.take 2==[60,62])||(s.data.toList.take 2==[60,61])||(s.data.toList.take 2==[62,61]))):=by
 rw[Zck,Zck,Zck,Z18]
theorem ZeX{s:ByteArray}(h:0<s.size):s.data.toList.headD 0=by_ s 0:=by
 have h1:=Z1D h;have:dr s 0=s.data.toList:=rfl;rw[this]at h1;rw[h1]
 rfl
theorem ZkP{b:UInt8}{i:Nat}(h:oneB.size<=i)(hr:(oneB.data.toList.take i).contains b=false):oneB.data.toList.contains b=false:=by
 rwa [List.take_of_length_le (by rw[Z18];exact h)]at hr
theorem Zkp{l:List ByteArray}{i:Nat}(h:i<l.length):l[i]? =some (l.getD i ⟨#[]⟩):=by simp[h]
theorem bne39{b:UInt8}(h:((b.toNat:Int) != 39)=true):(b==39)=false:=by rw[<-q39];simpa [bne] using h
theorem beq39{b:UInt8}(h:((b.toNat:Int) != 39)=false):(b==39)=true:=by rw[<-q39];simpa [bne] using h
theorem Z4o(c:Int):CallTy Tryz.prog ZdK [.is (.int .u8 c)] (.is (.int .i64 (classF c))):=
 CallTy.of (fn:=Tryz.f67) Tryz.func67 (n:=44) rfl rfl rfl (fun _ _=>by kernel_rfl) fun E W=>by
 refine vQ ?_;refine Ja rfl (vS [0] ?_);apply yk
 repeat apply yQ
 refine J.reg0 hmx qK qK ?_;refine yz (Z2 rfl) (yz (Z2Z rfl rfl) (yz (Z2 rfl) (yg rfl rfl rfl (fun hg=>Z2 (.inl rfl)) (yg rfl rfl rfl (fun hg=>Z3U (qR rfl) (.inl rfl)) ?_))));refine yz (Zn rfl rfl rfl id) (yz (Z2 rfl) (yg rfl rfl rfl (fun hg=>Z2 (.inl rfl)) (yg rfl rfl rfl (fun hg=>Z2Z (qR rfl) (.inl rfl)) ?_)));refine yg rfl rfl rfl (fun hg=>Z2 (qR rfl)) ?_;refine RT.gg rfl rfl rfl (fun hg=>(Z2 (.inl rfl))) ?_;refine RT.gg rfl rfl rfl (fun hg=>(Z3U (qR rfl) (.inl rfl))) ?_;refine yg rfl rfl rfl (fun hg=>Zn (qR rfl) (.inl rfl) (.inl rfl) (fun h=>⟨hg,h⟩)) ?_;refine yz (ZF rfl rfl rfl id) (yz (Z2 rfl) (yg rfl rfl rfl (fun hg=>Z2 (.inl rfl)) (yg rfl rfl rfl (fun hg=>Zu (qR rfl) (.inl rfl)) ?_)));refine yz (ZF rfl rfl rfl id) (yz (Z15 rfl) ?_);apply yn;refine FinS.nil0 ?_;refine vS [0,3] ?_;refine yC rfl (fun ht3=>?_) (fun ht3=>?_);refine vQ ?_;refine Ja rfl (vS [2] ?_);refine vR ?_;exact JX.ret1is rfl rfl (by unfold classF;rw[if_pos (show isW c=true from ht3)])
 repeat apply yQ
 refine J.reg0 hmx qK qK ?_;refine yz (Z2 rfl) (yz (Z2Z rfl rfl) (yz (Z2 rfl) (yg rfl rfl rfl (fun hg=>Z2 (.inl rfl)) (yg rfl rfl rfl (fun hg=>Z3U (qR rfl) (.inl rfl)) ?_))));refine yz (Zn rfl rfl rfl id) (yz (Z15 rfl) ?_);apply yn;refine FinS.nil0 ?_;refine vS [0,22] ?_;refine yC rfl (fun ht22=>?_) (fun ht22=>?_);refine vQ ?_;refine Ja rfl (vS [2] ?_);refine vR ?_;exact JX.ret1is rfl rfl (by unfold classF;rw[if_neg (show ¬isW c=true by rw[show isW c=false from ht3];simp),if_pos (show digitF c=true from ht22)])
 repeat apply yQ
 refine J.reg0 hmx qK qK ?_;refine yz (Z2 rfl) (yz (Zu rfl rfl) (yz (Z2 rfl) (yg rfl rfl rfl (fun hg=>Z2 (.inl rfl)) (yg rfl rfl rfl (fun hg=>Zu (qR rfl) (.inl rfl)) ?_))));refine yz (ZF rfl rfl rfl id) (yz (Z2 rfl) (yg rfl rfl rfl (fun hg=>Z2 (.inl rfl)) (yg rfl rfl rfl (fun hg=>Zu (qR rfl) (.inl rfl)) ?_)));refine yz (ZF rfl rfl rfl id) (yz (Z2 rfl) (yg rfl rfl rfl (fun hg=>Z2 (.inl rfl)) (yg rfl rfl rfl (fun hg=>Zu (qR rfl) (.inl rfl)) ?_)));refine yz (ZF rfl rfl rfl id) (yz (Z15 rfl) ?_);apply yn;refine FinS.nil0 ?_;refine vS [29] ?_;refine yC rfl (fun ht29=>?_) (fun ht29=>?_);refine vQ ?_;refine Ja rfl (vS [2] ?_);refine vR ?_;exact JX.ret1is rfl rfl (by unfold classF;rw[if_neg (show ¬isW c=true by rw[show isW c=false from ht3];simp),if_neg (show ¬digitF c=true by rw[show digitF c=false from ht22];simp),if_pos (show isB c=true from ht29)]);apply yK;refine vN ?_;apply yN;refine Ja rfl (vS [2] ?_);refine vR ?_;exact JX.ret1is rfl rfl (by unfold classF;rw[if_neg (show ¬isW c=true by rw[show isW c=false from ht3];simp),if_neg (show ¬digitF c=true by rw[show digitF c=false from ht22];simp),if_neg (show ¬isB c=true by rw[show isB c=false from ht29];simp)])
theorem Z9Z(s:ByteArray)(fr tp d:Int)(hs:s.size<=2048):CallTy Tryz.prog Z6L [.is (.string s),.is (.int .u8 fr),.is (.int .u8 tp),.is (.int .i64 d)] (.is (.string (bl (s.data.toList.map (upF fr tp d))))):=
 CallTy.of (fn:=Tryz.f124) Tryz.func124 (n:=40) rfl rfl rfl (fun _ _=>by kernel_rfl) fun E W=>by
 refine vQ ?_;refine Ja rfl (vP [0,1,2,3] ?_);refine Ja rfl (vP [0,1,2,3,9] ?_);refine Ja rfl (vS [0,1,2,3,9,10] ?_);apply yk
 repeat apply yQ
 refine J.loopG (α:=Nat×List UInt8×Option (Nat×List Value)×Nat) (fun z=>[(0,.is (.string s)),(1,.is (.int .u8 fr)),(2,.is (.int .u8 tp)),(3,.is (.int .i64 d)),(9,.is (sliceO z.2.2.1 z.2.1.length z.2.2.2)),(10,.is (.int .i64 (z.1:Nat)))]) (fun z=>ownO z.2.2.1 Z66 []) (fun z=>fun _=>True) (fun z=>z.1<=s.size/\z.2.1++(dr s z.1).map (upF fr tp d)=(s.data.toList.map (upF fr tp d))/\Grows bC 1 z.2.1 z.2.2.1 z.2.2.2/\z.2.1.length<=z.1) (fun z=>s.size-z.1) (0,[],none,0) [0,1,2,3,9,10] (.cons rfl (.cons rfl (.cons rfl (.cons rfl (.cons rfl (.cons rfl .nil)))))) rfl (fun _=>trivial) ⟨by omega,rfl,rfl,by simp⟩ fun⟨i,acc,st,cp⟩ ⟨hi,hx,hG,hal⟩=>?_;try dsimp only
 try dsimp only at hi
 try dsimp only at hx
 try dsimp only at hG
 try dsimp only at hal
 refine vQ ?_;refine Jm rfl (Jm rfl (Jq (Z1T Zd rfl) (Jq (ZC rfl rfl) (vS [0,1,2,3,9,10,15] ?_))));refine yC rfl (fun ht15=>?_) (fun ht15=>?_)
 try simp only[yd,yf]at ht15
 apply yK;refine vN ?_;apply yk;refine vQ ?_;refine Jm rfl (Jm rfl (Jq (Z1F Zd rfl rfl qM qM) ?_));refine Ja rfl (vS [0,1,2,3,9,10,11] ?_);refine J.reg0 hmx qK qK ?_;refine yz (Z2 rfl) (yz (Z2 rfl) (yz (Z2Z rfl rfl) (yz (Z2 rfl) (yg rfl rfl rfl (fun hg=>Z2 (.inl rfl)) (yg rfl rfl rfl (fun hg=>Z2 (.inl rfl)) (yg rfl rfl rfl (fun hg=>Z3U (qR rfl) (qR rfl)) ?_))))));refine yz (Zn rfl rfl rfl id) ?_;apply yn;refine FinS.nil0 ?_;refine vS [0,1,2,3,9,10,11,28] ?_;refine yC rfl (fun ht28=>?_) (fun ht28=>?_);refine vQ ?_;refine Jm rfl (Jq (Z6D ⟨_,Z3m⟩ Zhu rfl) (Jm rfl (Jq (Z6F rfl rfl) (Jq (Z70 (cc:=((upF fr tp d (by_ s i)).toNat:Int)) ⟨_,Zhu⟩ Z3m rfl (by rw[up_v];exact(if_pos ht28).symm)) ?_))));refine Ja rfl (vP [0,1,2,3,9,10,11] ?_);refine Jm rfl (Jm rfl (Jq (Zx (cs:=[_]) Z3w qM qM (.cons rfl .nil) rfl rfl rfl) ?_));refine JO.apP [upF fr tp d (by_ s i)] Z4v Z4J (by repeat(first|exact .here|apply Cx.past|apply Cx.there)) hG rfl rfl (fun L=>Z1M Z2a rfl rfl) (by simp) (by simp;omega) (by simp;omega) rfl (fun st1 cp1 hG1=>?_);refine Ja rfl (vP [0,1,2,3,9,10] ?_);refine Jm rfl (Jq (Zv (cc:=((i+1:Nat):Int)) rfl rfl qM qM qM) ?_);refine Ja rfl ?_;apply yI
 repeat refine JX.normal_block ?_
 refine JX.roundG (x:=⟨i,acc,st,cp⟩) (i+1,acc++[upF fr tp d (by_ s i)],st1,cp1) ?_ ?_ [0,1,2,3,9,10] ?_ ?_ ?_ ?_
 · exact⟨by omega,ZfR qM rfl hx,hG1,by simp;omega⟩
 · exact(by simp only;omega)
 · exact qS
 · exact qH
 · exact qG
 · exact fun _ _ _=>fun _ _=>trivial
 apply yK;refine vN ?_;apply yN;refine Jm rfl (Jm rfl (Jq (Zx (cs:=[_]) Z3w qM qM (.cons rfl .nil) rfl rfl rfl) ?_));refine JO.apP [by_ s i] Z4v Z4J (by repeat(first|exact .here|apply Cx.past|apply Cx.there)) hG rfl rfl (fun L=>Z1M Z2a rfl rfl) (by simp) (by simp;omega) (by simp;omega) rfl (fun st1 cp1 hG1=>?_);refine Ja rfl (vP [0,1,2,3,9,10] ?_);refine Jm rfl (Jq (Zv (cc:=((i+1:Nat):Int)) rfl rfl qM qM qM) ?_);refine Ja rfl ?_;apply yI
 repeat refine JX.normal_block ?_
 refine JX.roundG (x:=⟨i,acc,st,cp⟩) (i+1,acc++[by_ s i],st1,cp1) ?_ ?_ [0,1,2,3,9,10] ?_ ?_ ?_ ?_
 · exact⟨by omega,ZfR qM (Zm5 ht28) hx,hG1,by simp;omega⟩
 · exact(by simp only;omega)
 · exact qS
 · exact qH
 · exact qG
 · exact fun _ _ _=>fun _ _=>trivial
 try simp only[yd,yf]at ht15
 repeat apply yQ
 refine J.exit ?_
 repeat first|refine yH ?_|refine yM rfl ?_|refine yE ?_
 repeat first|apply yX|apply yB
 have hacc:acc=(s.data.toList.map (upF fr tp d)):=by rw[<-hx,Z5h qM];simp
 refine J.freezeO Z4J hG (e:=Z66) yV (fun _ h=>h) rfl rfl ?_;obtain⟨cap2,hso⟩:=Z88 hG;rw[hso];refine vQ ?_;refine Jm rfl (Jq (Zak Z2a Z3m Zd rfl qI) ?_);refine Ja rfl (vS [8] ?_);refine vR ?_;exact JX.ret1is rfl rfl (by rw[hacc])
theorem ZdE:CallTy Tryz.prog Zdy [] (.rep (SlG strC 1 wordsB)):=
 CallTy.of (fn:=Tryz.f125) Tryz.func125 (n:=2) rfl rfl rfl (fun _ _=>by kernel_rfl) fun E W=>by
 refine vQ ?_;refine Ja rfl ?_;apply yI
 repeat first|apply yX|apply yB
 refine yL [] .nil (vQ ?_);refine Jq (Zx (cs:=[_,_,_,_,_,_,_,_,_,_,_,_,_,_,_,_,_,_,_,_,_,_,_,_,_,_,_,_,_,_,_,_,_,_,_,_,_,_,_,_,_,_,_,_]) ZS qM qM (.cons rfl (.cons rfl (.cons rfl (.cons rfl (.cons rfl (.cons rfl (.cons rfl (.cons rfl (.cons rfl (.cons rfl (.cons rfl (.cons rfl (.cons rfl (.cons rfl (.cons rfl (.cons rfl (.cons rfl (.cons rfl (.cons rfl (.cons rfl (.cons rfl (.cons rfl (.cons rfl (.cons rfl (.cons rfl (.cons rfl (.cons rfl (.cons rfl (.cons rfl (.cons rfl (.cons rfl (.cons rfl (.cons rfl (.cons rfl (.cons rfl (.cons rfl (.cons rfl (.cons rfl (.cons rfl (.cons rfl (.cons rfl (.cons rfl (.cons rfl (.cons rfl .nil)))))))))))))))))))))))))))))))))))))))))))) rfl rfl rfl) ?_;refine Ja rfl (vS [0] ?_);refine vR ?_;exact JX.ret1sub rfl rfl rfl (Sub.newSlG Z1j rfl rfl)
theorem ZcJ(s:ByteArray)(hs:s.size<=2048):CallTy Tryz.prog Zcg [.is (.string s)] (.tup2 (.is (.int .i64 (refNum s.data.toList).1)) (.is (.bool (refNum s.data.toList).2))):=
 CallTy.of (fn:=Tryz.f69) Tryz.func69 (n:=34) rfl rfl rfl (fun _ _=>by kernel_rfl) fun E W=>by
 refine vQ ?_;refine Ja rfl (Ja rfl (vP [0] ?_));refine Ja rfl (vP [0,4] ?_);refine Ja rfl (vS [0,4,5] ?_);apply yk
 repeat apply yQ
 refine J.loopF (α:=Nat×Int) (fun z=>[(0,.is (.string s)),(4,.is (.int .u64 z.2)),(5,.is (.int .i64 (z.1:Nat)))]) (fun z=>z.1<=s.size/\refG (dr s z.1) z.2=refG s.data.toList 0) (fun z=>s.size-z.1) (0,0) [0,4,5] (.cons rfl (.cons rfl (.cons rfl .nil))) ⟨by omega,rfl⟩ fun⟨i,u⟩ ⟨hi,hr⟩=>?_;refine vQ ?_;refine Jm rfl (Jm rfl (Jq (Z1T Zd rfl) (Jq (ZC rfl rfl) (vS [0,4,5,10] ?_))));refine yC rfl (fun ht10=>?_) (fun ht10=>?_)
 try simp only[yd,yf]at ht10
 apply yK;refine vN ?_;apply yk;refine vQ ?_;refine Jm rfl (Jm rfl (Jq (Z1F Zd rfl rfl qM qM) ?_));refine Jq (Zai rfl rfl) (Jq (Z6D ⟨_,Z3m⟩ Z6K rfl) (Ja rfl (vS [0,4,5,6] ?_)));refine J.reg0 hmx qK qK ?_;refine yz (Z2 rfl) (yz (Z13 rfl rfl) (yz (Z2 rfl) (yg rfl rfl rfl (fun hg=>Z2 (.inl rfl)) (yg rfl rfl rfl (fun hg=>Zu (qR rfl) (.inl rfl)) ?_))));refine yg rfl rfl rfl (fun hg=>Z2 (qR rfl)) ?_;refine RT.gg rfl rfl rfl (fun hg=>(Z2 (.inl rfl))) ?_;refine RT.gg rfl rfl rfl (fun hg=>(Z13 (qR rfl) (.inl rfl))) ?_;refine yg rfl rfl rfl (fun hg=>Zn (qR rfl) (.inl rfl) (.inl rfl) (fun h=>⟨hg,h⟩)) ?_;refine yz (ZF rfl rfl rfl id) ?_;apply yn;refine FinS.nil0 ?_;refine vS [0,4,5,6,27] ?_;refine yC rfl (fun ht27=>?_) (fun ht27=>?_)
 try simp only[yd,yf]at ht27
 have hn:refG s.data.toList 0=none:=by rw[<-hr,Z1D qM,refG,if_pos (show overF u (dgU (by_ s i))=true from ht27)]
 refine vQ ?_;refine Ja rfl (Ja rfl (vS [2,3] ?_));refine vR ?_;exact JX.ret2is rfl rfl rfl (by unfold refNum;rw[hn]) (by unfold refNum;rw[hn])
 try simp only[yd,yf]at ht27
 apply yK;refine vN ?_;apply yN;refine Jm rfl (Jq (Zer rfl rfl) (Jm rfl (Jq (Z6F rfl rfl) (Ja rfl (vP [0,4,5] ?_)))));refine Jm rfl (Jq (Zv (cc:=((i+1:Nat):Int)) rfl rfl qM qM qM) ?_);refine Ja rfl ?_;apply yI
 repeat refine JX.normal_block ?_
 refine JX.roundS (i+1,IntKind.u64.wrap (IntKind.u64.wrap (10*u)+dgU (by_ s i))) ?_ ?_ [0,4,5] ?_ ?_ ?_
 · exact⟨by omega,ZiE qM ht27 hr⟩
 · exact(by simp only;omega)
 · exact qS
 · exact qB
 · exact qB
 try simp only[yd,yf]at ht10
 repeat apply yQ
 refine J.exit ?_
 repeat first|refine yH ?_|refine yM rfl ?_|refine yE ?_
 repeat first|apply yX|apply yB
 have hn:refG s.data.toList 0=some u:=by rw[<-hr,Z5h qM];rfl
 refine vQ ?_;refine Jm rfl (Jq (Z6D ⟨_,Z6K⟩ Zbx rfl) (Ja rfl (Ja rfl (vS [2,3] ?_))));refine vR ?_;exact JX.ret2is rfl rfl rfl (by unfold refNum;rw[hn]) (by unfold refNum;rw[hn])
theorem Zec(s:ByteArray)(h0:0<s.size)(hs:s.size<=2048):CallTy Tryz.prog Zea [.is (.string s)] (.is (.int .i64 (signRF s.data.toList))):=
 CallTy.of (fn:=Tryz.f71) Tryz.func71 (n:=35) rfl rfl rfl (fun _ _=>by kernel_rfl) fun E W=>by
 refine vQ ?_;refine Ja rfl (vS [0] ?_);refine J.reg0 hmx qK qK ?_;refine yz (Z2 rfl) (yz (Z1T Zd rfl) (yz (Z2Z rfl rfl) (yz (Z2 rfl) (yg rfl rfl rfl (fun hg=>Z2 (.inl rfl)) (yg rfl rfl rfl (fun hg=>Z8t Zd (qR rfl) (.inl rfl) (by simp at hg;omega) (by simp at hg;omega)) ?_)))));refine yg rfl rfl rfl (fun hg=>Z1L (qR rfl) (.inl rfl)) ?_;refine yg rfl rfl rfl (fun hg=>Z2 (qR rfl)) ?_;refine RT.gg rfl rfl rfl (fun hg=>(Z2 (.inl rfl))) ?_;refine RT.gg rfl rfl rfl (fun hg=>(Z8t Zd (qR rfl) (.inl rfl) (by simp at hg;omega) (by simp at hg;omega))) ?_;refine RT.gg rfl rfl rfl (fun hg=>(Z1L (qR rfl) (.inl rfl))) ?_;refine yg rfl rfl rfl (fun hg=>ZF (qR rfl) (.inl rfl) (.inl rfl) (fun h=>⟨hg,h⟩)) ?_;refine yg rfl rfl rfl (fun hg=>Z2 (qR rfl)) ?_;refine RT.gg rfl rfl rfl (fun hg=>(Z2 (.inl rfl))) ?_;refine RT.gg rfl rfl rfl (fun hg=>(Z8t Zd (qR rfl) (.inl rfl) (by simp at hg;omega) (by simp at hg;omega))) ?_;refine RT.gg rfl rfl rfl (fun hg=>(Z1L (qR rfl) (.inl rfl))) ?_;refine yg rfl rfl rfl (fun hg=>ZF (qR rfl) (.inl rfl) (.inl rfl) (fun h=>⟨hg,h⟩)) ?_;refine yz (Zn rfl rfl rfl id) ?_;apply yn;refine FinS.nil0 ?_;refine vS [0,22] ?_;refine yC rfl (fun ht22=>?_) (fun ht22=>?_);refine vQ ?_;refine Ja rfl (vS [2] ?_);refine vR ?_;exact JX.ret1is rfl rfl (by unfold signRF;rw[if_pos (by rw[<-ZbA];exact ht22)]);apply yK;refine vN ?_;apply yN;refine Ja rfl (vP [0,3] ?_);refine Ja rfl (vS [0,3,4] ?_);apply yk
 repeat apply yQ
 refine J.loopF (α:=Nat) (fun i=>[(0,.is (.string s)),(3,.is (.string oneB)),(4,.is (.int .i64 (i:Nat)))]) (fun i=>i<=oneB.size/\(oneB.data.toList.take i).contains (by_ s 0)=false) (fun i=>oneB.size-i) 0 [0,3,4] (.cons rfl (.cons rfl (.cons rfl .nil))) ⟨by omega,rfl⟩ fun i ⟨hi,hr⟩=>?_;refine vQ ?_;refine Jm rfl (Jm rfl (Jq (Z1T Zd rfl) (Jq (ZC rfl rfl) (vS [0,3,4,26] ?_))));refine yC rfl (fun ht26=>?_) (fun ht26=>?_)
 try simp only[yd,yf]at ht26
 apply yK;refine vN ?_;apply yk;have o13:oneB.size=13:=rfl
 repeat apply yQ
 refine J.reg0 hmx qK qK ?_;refine yz (Z2 rfl) (yz (Z1F Zd rfl rfl qM qM) ?_);refine yz (Z2 rfl) (yz (Z2 rfl) (yz (Z1F Zd rfl rfl qM qM) ?_));refine yz (Zu rfl rfl) ?_;apply yn;refine FinS.nil0 ?_;refine vS [0,3,4,34] ?_;refine yC rfl (fun ht34=>?_) (fun ht34=>?_);refine vQ ?_;refine Ja rfl (vS [2] ?_);refine vR ?_;exact JX.ret1is rfl rfl (by unfold signRF;rw[if_neg (by rw[<-ZbA,show(decide (2<=(s.size:Int))&&((seq (s.extract 0 2) (bl [60,62])||seq (s.extract 0 2) (bl [60,61]))||seq (s.extract 0 2) (bl [62,61])))=false from ht22];simp),ZeX h0,if_pos (Zke (b:=by_ s 0) (i:=i) (by have:oneB.size=13:=rfl;omega) ht34)]);apply yK;refine vN ?_;apply yN;refine Jm rfl (Jq (Zv (cc:=((i+1:Nat):Int)) rfl rfl qM qM qM) ?_);refine Ja rfl ?_;apply yI
 repeat refine JX.normal_block ?_
 refine JX.roundS (i+1) ?_ ?_ [0,3,4] ?_ ?_ ?_
 · exact⟨by omega,Zj1 (b:=by_ s 0) qM hr ht34⟩
 · exact qM
 · exact qS
 · exact qB
 · exact qB
 try simp only[yd,yf]at ht26
 repeat apply yQ
 refine J.exit ?_
 repeat first|refine yH ?_|refine yM rfl ?_|refine yE ?_
 refine vN ?_;apply yN;refine Ja rfl (vS [2] ?_);refine vR ?_;exact JX.ret1is rfl rfl (by unfold signRF;rw[if_neg (by rw[<-ZbA,show(decide (2<=(s.size:Int))&&((seq (s.extract 0 2) (bl [60,62])||seq (s.extract 0 2) (bl [60,61]))||seq (s.extract 0 2) (bl [62,61])))=false from ht22];simp),ZeX h0,if_neg (by rw[ZkP qM hr];simp)])
end Go.Proofs.YtbedigkncjbggaaGreatDoor
set_option maxRecDepth 20000
namespace Go.Proofs.YtbedigkncjbggaaGreatDoor
open Go Go.Vc
theorem c_up(w:ByteArray)(hs:w.size<=2048):CallTy Tryz.prog Z6L [.is (.string w),.is (.int .u8 97),.is (.int .u8 122),.is (.int .i64 (-32))] (.is (.string (bl (Lib.toUpperA w.data.toList)))):=by
 have h:=Z9Z w 97 122 (-32) hs
 rwa [show w.data.toList.map (upF 97 122 (-32))=Lib.toUpperA w.data.toList from List.map_congr_left fun b _=>Zjo b]at h
theorem ZmU(w:ByteArray)(hs:w.size<=2048):CallTy Tryz.prog Z6L [.is (.string w),.is (.int .u8 65),.is (.int .u8 90),.is (.int .i64 32)] (.is (.string (bl (Lib.toLowerA w.data.toList)))):=by
 have h:=Z9Z w 65 90 32 hs
 rwa [show w.data.toList.map (upF 65 90 32)=Lib.toLowerA w.data.toList from List.map_congr_left fun b _=>Zj7 b]at h
theorem Zj4{s:ByteArray}{i:Nat}{acc:List UInt8}(hi:i<s.size)(hb:(((by_ s i).toNat:Int) != 39)=false)(hc:(decide (((i+1:Nat):Int)<(s.size:Int))&&(((by_ s (i+1)).toNat:Int)==39))=true):
  quoF (dr s i) acc=(quoF (dr s (i+2)) (acc++[39])).map fun r=>(r.1,r.2+2):=by
 rw[Bool.and_eq_true,decide_eq_true_eq,q39]at hc;exact Zk0 qM acc (beq39 hb) hc.2
theorem ZiV{s:ByteArray}{i n:Nat}{acc:List UInt8}(hi:i<s.size)(hb:(((by_ s i).toNat:Int) != 39)=false)(hc:(decide (((i+1:Nat):Int)<(s.size:Int))&&(((by_ s (i+1)).toNat:Int)==39))=false)
  (hr:(quoF (dr s i) acc).map (fun r=>(r.1,i+r.2))=quoP s n):quoP s n=some (acc,i+1):=by
 rw[q39]at hc;rw[<-hr,Zkt hi acc (beq39 hb) hc]
 rfl
theorem Zlc{s:ByteArray}{i n:Nat}{acc:List UInt8}(hi:s.size<=i)(hr:(quoF (dr s i) acc).map (fun r=>(r.1,i+r.2))=quoP s n):quoP s n=none:=by
 rw[<-hr,Z5h hi]
 rfl
theorem Zjz{w:ByteArray}{i:Nat}(hw: ∀b∈w.data.toList,wordB b=true)(hi:i<wordsB.length)(h:seq (wordsB.getD i ⟨#[]⟩) (bl (Lib.toUpperA w.data.toList))=true):wordL w.data.toList=(⟨1,bl (Lib.toUpperA w.data.toList),0⟩,0):=by
 unfold wordL;rw[Ze4 (Zc6 hw),if_pos (Zks (p:=fun s=>seq s (bl (Lib.toUpperA w.data.toList))) ⟨#[]⟩ hi h)]
theorem Ziv{w:ByteArray}{i:Nat}(hw: ∀b∈w.data.toList,wordB b=true)(hi:wordsB.length<=i)(h:(wordsB.take i).any (fun s=>seq s (bl (Lib.toUpperA w.data.toList)))=false):wordL w.data.toList=if decide (32<(w.size:Int))then(t3D,30)else(⟨2,bl (Lib.toLowerA w.data.toList),0⟩,0):=by
 unfold wordL;rw[List.take_of_length_le hi]at h;rw[Ze4 (Zc6 hw),h,Z18]
 rfl
theorem Zel(w:ByteArray)(hw: ∀b∈w.data.toList,wordB b=true)(hs:w.size<=2048):CallTy Tryz.prog Zf9 [.is (.string w)] (.tup2 (.is (tv (wordL w.data.toList).1)) (.is (.int .i64 (wordL w.data.toList).2))):=
 CallTy.of (fn:=Tryz.f68) Tryz.func68 (n:=31) rfl rfl rfl (fun _ _=>by kernel_rfl) fun E W=>by
 refine vQ ?_;refine JO.alloc Z1C rfl fun b2=>(Ja rfl (vP [0,2] ?_));refine Jm rfl (Jq (Zo rfl (c_up w hs) qA) ?_);refine Ja rfl (vP [0,2,4] ?_);refine Jq (Zo rfl (ZdE) .nil) (Ja rfl (vS [0,2,4,5] ?_));refine J.openSl (s:=5) rfl (fun a len cap b o hlen ha=>?_);subst hlen;have w44:wordsB.length=44:=rfl;refine vQ ?_;refine Ja rfl (vS [0,2,4,5,6] ?_);apply yk
 repeat apply yQ
 refine J.loopG (α:=Nat) (fun i=>[(0,.is (.string w)),(2,.is (.pointer (some ⟨b2,0,none⟩))),(4,.is (.string (bl (Lib.toUpperA w.data.toList)))),(5,.is (.slice a wordsB.length cap)),(6,.is (.int .i64 (i:Nat)))]) (fun i=>[⟨b2,Z1u,.is (tv t3D)⟩]) (fun i=>fun _=>True) (fun i=>i<=wordsB.length/\(wordsB.take i).any (fun s=>seq s (bl (Lib.toUpperA w.data.toList)))=false) (fun i=>wordsB.length-i) 0 [0,2,4,5,6] (.cons rfl (.cons rfl (.cons rfl (.cons rfl (.cons rfl .nil))))) rfl (fun _=>trivial) ⟨by omega,rfl⟩ fun i ⟨hi,hr⟩=>?_;refine vQ ?_;refine Jm rfl (Jm rfl (Jq (ZE ZD rfl) (Jq (ZC rfl rfl) (vS [0,2,4,5,6,13] ?_))));refine yC rfl (fun ht13=>?_) (fun ht13=>?_)
 try simp only[yd,yf]at ht13
 apply yK;refine vN ?_;apply yk;refine vQ ?_;refine Jm rfl (Jm rfl (Jq (Z9 Z1Y rfl (ha qM) rfl qM qM) ?_));refine Jq (ZK (enc:=strC) (sz:=1) (len:=wordsB.length) (i:=i) (j:=0) (y:=wordsB.getD i ⟨#[]⟩) Za rfl qI (ha qM) (Zkp qM) (by simp) rfl) ?_;refine Jm rfl (Jq (Z1L rfl rfl) (vS [0,2,4,5,6,21] ?_));refine yC rfl (fun ht21=>?_) (fun ht21=>?_);have hx:=Zjz hw (i:=i) qM ht21;refine vQ ?_;refine Jm rfl (Jq (Zg (cs:=[_,_,_]) Z1e (.cons rfl (.cons rfl .nil)) rfl rfl) (JO.m (Z4 rfl rfl qU qC qO ZI) (by rfl) ?_));refine Ja rfl (vS [2,3] ?_);refine vR ?_;exact JX.retC1is rfl rfl ZM HasOwn.mem rfl rfl (by rw[hx]) (by rw[hx]);apply yK;refine vN ?_;apply yN;refine Jm rfl (Jq (Zv (cc:=((i+1:Nat):Int)) rfl rfl qM qM qM) ?_);refine Ja rfl ?_;apply yI
 repeat refine JX.normal_block ?_
 refine JX.roundG (x:=i) (i+1) ?_ ?_ [0,2,4,5,6] ?_ ?_ ?_ ?_
 · exact⟨by omega,by rw[Zj0 _ ⟨#[]⟩ qM,hr,ht21];rfl⟩
 · exact qM
 · exact qS
 · exact qH
 · exact qG
 · exact fun _ _ _=>fun _ _=>trivial
 try simp only[yd,yf]at ht13
 repeat apply yQ
 refine J.exit ?_
 repeat first|refine yH ?_|refine yM rfl ?_|refine yE ?_
 repeat first|apply yX|apply yB
 have hx:=Ziv hw (i:=i) qM hr;refine vQ ?_;refine Jm rfl (Jq (Z1T Zd rfl) (Jq (Z13 rfl rfl) (vS [0,2,26] ?_)));refine yC rfl (fun ht26=>?_) (fun ht26=>?_)
 try simp only[yd,yf]at ht26
 refine vQ ?_;refine Jq (Zg (cs:=[_,_,_]) Z1e .nil rfl rfl) (JO.m (Z4 rfl rfl qU qC qO ZI) (by rfl) ?_);refine Ja rfl (vS [2,3] ?_);refine vR ?_;exact JX.retC1is rfl rfl ZM HasOwn.mem rfl rfl (by rw[hx,if_pos (decide_eq_true ht26)];rfl) (by rw[hx,if_pos (decide_eq_true ht26)])
 try simp only[yd,yf]at ht26
 apply yK;refine vN ?_;apply yN;refine Jm rfl (Jq (Zo rfl (ZmU w hs) qA) ?_);refine Jq (Zg (cs:=[_,_,_]) Z1e (.cons rfl (.cons rfl .nil)) rfl rfl) (JO.m (Z4 rfl rfl qU qC qO ZI) (by rfl) ?_);refine Ja rfl (vS [2,3] ?_);refine vR ?_;exact JX.retC1is rfl rfl ZM HasOwn.mem rfl rfl (by rw[hx,if_neg (by rw[decide_eq_false ht26];simp)]) (by rw[hx,if_neg (by rw[decide_eq_false ht26];simp)])
theorem ZcQ(s:ByteArray)(n:Nat)(hn:n<s.size)(hs:s.size<=2048):CallTy Tryz.prog Zcs [.is (.string s),.is (.int .i64 (n:Nat))] (.tup2 (.is (.string (quoS (quoP s n)))) (.is (.int .i64 (quoE (quoP s n))))):=
 CallTy.of (fn:=Tryz.f70) Tryz.func70 (n:=47) rfl rfl rfl (fun _ _=>by kernel_rfl) fun E W=>by
 refine vQ ?_;refine Ja rfl (Ja rfl (vP [0,1] ?_));refine Ja rfl (vP [0,1,6] ?_);refine Jm rfl (Jq (Zv (cc:=((n+1:Nat):Int)) rfl rfl qM qM qM) ?_);refine Ja rfl (vS [0,6,7] ?_);apply yk
 repeat apply yQ
 refine J.loopG (α:=Nat×List UInt8×Option (Nat×List Value)×Nat) (fun z=>[(0,.is (.string s)),(6,.is (sliceO z.2.2.1 z.2.1.length z.2.2.2)),(7,.is (.int .i64 (z.1:Nat)))]) (fun z=>ownO z.2.2.1 Z66 []) (fun z=>fun _=>True) (fun z=>z.1<=s.size/\(quoF (dr s z.1) z.2.1).map (fun r=>(r.1,z.1+r.2))=quoP s n/\Grows bC 1 z.2.1 z.2.2.1 z.2.2.2/\z.2.1.length<=z.1) (fun z=>s.size-z.1) (n+1,[],none,0) [0,6,7] (.cons rfl (.cons rfl (.cons rfl .nil))) rfl (fun _=>trivial) ⟨by omega,rfl,rfl,by simp⟩ fun⟨i,acc,st,cp⟩ ⟨hi,hx,hG,hal⟩=>?_;try dsimp only
 try dsimp only at hi
 try dsimp only at hx
 try dsimp only at hG
 try dsimp only at hal
 refine vQ ?_;refine Jm rfl (Jm rfl (Jq (Z1T Zd rfl) (Jq (ZC rfl rfl) (vS [0,6,7,13] ?_))));refine yC rfl (fun ht13=>?_) (fun ht13=>?_)
 try simp only[yd,yf]at ht13
 apply yK;refine vN ?_;apply yk;refine vQ ?_;refine Jm rfl (Jm rfl (Jq (Z1F Zd rfl rfl qM qM) ?_));refine Jq (Z3e rfl rfl) (vS [0,6,7,19] ?_);refine yC rfl (fun ht19=>?_) (fun ht19=>?_);refine vQ ?_;refine Jm rfl (Jm rfl (Jm rfl (Jq (Z1F Zd rfl rfl qM qM) ?_)));refine Jq (Zx (cs:=[_]) Z3w qM qM (.cons rfl .nil) rfl rfl rfl) ?_;refine JO.apP [by_ s i] Z4v Z4J (by repeat(first|exact .here|apply Cx.past|apply Cx.there)) hG rfl rfl (fun L=>Z1M Z2a rfl rfl) (by simp) (by simp;omega) (by simp;omega) rfl (fun st1 cp1 hG1=>?_);refine Ja rfl (vS [0,6,7] ?_);refine J.exit ?_
 repeat first|refine yH ?_|refine yM rfl ?_|refine yE ?_
 refine vN ?_;apply yN;refine Jm rfl (Jq (Zv (cc:=((i+1:Nat):Int)) rfl rfl qM qM qM) ?_);refine Ja rfl ?_;apply yI
 repeat refine JX.normal_block ?_
 refine JX.roundG (x:=⟨i,acc,st,cp⟩) (i+1,acc++[by_ s i],st1,cp1) ?_ ?_ [0,6,7] ?_ ?_ ?_ ?_
 · exact⟨by omega,ZeJ (ZlG qM acc (bne39 ht19)) hx,hG1,by simp;omega⟩
 · exact(by simp only;omega)
 · exact qS
 · exact qH
 · exact qG
 · exact fun _ _ _=>fun _ _=>trivial
 apply yK;refine vN ?_;refine J.reg0 hmx qK qK ?_;refine yz (Z2 rfl) (yz (Zv (cc:=((i+1:Nat):Int)) rfl rfl qM qM qM) ?_);refine yz (Z2 rfl) (yz (Z1T Zd rfl) (yz (ZC rfl rfl) (yz (Z2 rfl) (yg rfl rfl rfl (fun hg=>Z2 (.inl rfl)) (yg rfl rfl rfl (fun hg=>Z2 (.inl rfl)) (yg rfl rfl rfl (fun hg=>Zv (cc:=((i+1:Nat):Int)) (qR rfl) (.inl rfl) qM qM qM) ?_))))));refine yg rfl rfl rfl (fun hg=>Z1F Zd (qR rfl) (qR rfl) (by have h:=hg;simp only[decide_eq_true_eq]at h;omega) (by have h:=hg;simp only[decide_eq_true_eq]at h;omega)) ?_;refine yg rfl rfl rfl (fun hg=>Zu (qR rfl) (.inl rfl)) ?_;refine yz (Zn rfl rfl rfl id) ?_;apply yn;refine FinS.nil0 ?_;refine vS [0,6,7,37] ?_;refine yC rfl (fun ht37=>?_) (fun ht37=>?_);refine vQ ?_;refine Jm rfl (Jq (Zx (cs:=[_]) Z3w qM qM (.cons rfl .nil) rfl rfl rfl) ?_);refine JO.apP [39] Z4v Z4J (by repeat(first|exact .here|apply Cx.past|apply Cx.there)) hG rfl rfl (fun L=>Z1M Z2a rfl rfl) (by simp) (by simp;omega) (by simp;omega) rfl (fun st1 cp1 hG1=>?_);refine Ja rfl (vP [0,6,7] ?_);refine Jm rfl (Jq (Zv (cc:=((i+1:Nat):Int)) rfl rfl qM qM qM) ?_);refine Ja rfl (vS [0,6,7] ?_);refine J.exit ?_
 repeat first|refine yH ?_|refine yM rfl ?_|refine yE ?_
 refine vN ?_;apply yN;refine Jm rfl (Jq (Zv (cc:=((i+2:Nat):Int)) rfl rfl qM qM qM) ?_);refine Ja rfl ?_;apply yI
 repeat refine JX.normal_block ?_
 refine JX.roundG (x:=⟨i,acc,st,cp⟩) (i+2,acc++[39],st1,cp1) ?_ ?_ [0,6,7] ?_ ?_ ?_ ?_
 · exact⟨by have h:=(Bool.and_eq_true _ _ ▸ ht37:_/\_).1;simp only[decide_eq_true_eq]at h;dsimp only;omega,ZeJ (Zj4 qM ht19 ht37) hx,hG1,by simp;omega⟩
 · exact(by simp only;omega)
 · exact qS
 · exact qH
 · exact qG
 · exact fun _ _ _=>fun _ _=>trivial
 apply yK
 repeat first|apply yX|apply yB
 have hq:=ZiV qM ht19 ht37 hx;refine J.freezeO Z4J hG (e:=Z66) yV (fun _ h=>h) rfl rfl ?_;obtain⟨cap2,hso⟩:=Z88 hG;rw[hso];refine vQ ?_;refine Jm rfl (Jq (Zak Z2a Z3m Zd rfl qI) ?_);refine Jm rfl (Jq (Zv (cc:=((i+1:Nat):Int)) rfl rfl qM qM qM) ?_);refine Ja rfl (Ja rfl (vS [4,5] ?_));refine vR ?_;exact JX.ret2is rfl rfl rfl (by rw[hq];rfl) (by rw[hq];rfl)
 try simp only[yd,yf]at ht13
 repeat apply yQ
 refine J.exit ?_
 repeat first|refine yH ?_|refine yM rfl ?_|refine yE ?_
 repeat first|apply yX|apply yB
 have hq:=Zlc qM hx;refine vQ ?_;refine Ja rfl (Ja rfl (vS [4,5] ?_));refine vR ?_;exact JX.ret2is rfl rfl rfl (by rw[hq];rfl) (by rw[hq];rfl)
end Go.Proofs.YtbedigkncjbggaaGreatDoor
