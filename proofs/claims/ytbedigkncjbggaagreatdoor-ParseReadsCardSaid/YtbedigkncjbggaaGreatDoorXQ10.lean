/- The laws of reading that ask nothing of the reference: parts, once. Plain. No condition. -/
import Derived.Test.YtbedigkncjbggaaGreatDoorXQ9
import Derived.Test.YtbedigkncjbggaaGreatDoorXQ4
import Derived.Test.YtbedigkncjbggaaGreatDoorXQ2
import Derived.Test.YtbedigkncjbggaaGreatDoorXQ8
import Derived.Test.YtbedigkncjbggaaGreatDoorXG8
import Derived.Test.YtbedigkncjbggaaGreatDoorXQ1
set_option maxRecDepth 20000
namespace Go.Proofs.YtbedigkncjbggaaGreatDoor
open Go Go.Vc Go.Pz
abbrev prS(l:List UInt8):St×Int:=readS (lexL l)
theorem ZdZ{l:List UInt8}(h:(lexL l).2≠0):prS l=(st0,(lexL l).2):=by
 show readS _=_;unfold readS;rw[if_neg (by simpa using h)]
theorem Zfo{l:List UInt8}(h:(lexL l).2=0):prS l=readT (lexL l).1:=by
 show readS _=_;unfold readS;rw[if_pos (by simpa using h)]
theorem ZgG{ts:List T3}(h:(readT ts).2=0): ∃s r,stmtP (exprP (ts.length+1)) ts=some (s,r)/\skT 5 Z4W r=[]/\deepS s=false/\readT ts=(s,0):=by
 unfold readT at h ⊢
 split at h
 · cases h
 rename_i s hs
 split at h
 · cases h
 rename_i hd;unfold wholeP at hs;obtain⟨z,h1,h2⟩:=bnd hs
 split at h2
 · rename_i h3;injection h2 with h2;subst h2
   exact⟨z.1,z.2,h1,h3,by simpa using hd,by rw[if_neg hd]⟩
 · cases h2
instance:DecidableEq T3:=fun a b=>decidable_of_iff (a.k=b.k/\a.t=b.t/\a.n=b.n) ⟨fun⟨h1,h2,h3⟩=>by cases a;cases b;simp_all,fun h=>by subst h;exact⟨rfl,rfl,rfl⟩⟩
theorem Zi5{l:List UInt8}(h:(prS l).2=0):(lexL l).2=0:=by
 by_cases e:(lexL l).2=0
 · exact e
 · rw[ZdZ e]at h;exact absurd h e
theorem Zgp{l:List UInt8}(he:(stepL l).1.2=0):Go.Pz.okT (stepL l).1.1:=by
 cases l with
 |nil=>cases he
 |cons b l=>
   rw[stepL]at he ⊢
   split at he
   · rename_i h1
     rw[if_pos h1];unfold wordL at he ⊢
     split at he
     · rename_i h2;rw[if_pos h2];exact⟨by show(1:Int)<=1;decide,by show(1:Int)<=5;decide,fun h=>by cases h⟩
     rename_i n2;rw[if_neg n2]
     split at he
     · cases he
     · rename_i h2;rw[if_neg h2];exact⟨by show(1:Int)<=2;decide,by show(2:Int)<=5;decide,fun h=>by cases h⟩
   rename_i n1;rw[if_neg n1]
   split at he
   · rename_i h1
     rw[if_pos h1];unfold numL at he ⊢
     split at he
     · rename_i h2;dsimp only at he;rw[he]at h2;cases h2
     · rename_i h2;rw[if_neg h2];exact⟨by show(1:Int)<=3;decide,by show(3:Int)<=5;decide,fun h=>by cases h⟩
   rename_i n1;rw[if_neg n1]
   split at he
   · rename_i h1
     rw[if_pos h1];have ht: ∀(l acc:List UInt8),(textL l acc).1.2=0->(textL l acc).1.1.k=4:=by
       intro l;have he2: ∀acc,(endT acc).2=0->(endT acc).1.k=4:=fun acc h=>by
         unfold endT at h ⊢
         split at h
         · cases h
         · rename_i h2;rw[if_neg h2]
       induction hn:l.length using Nat.strongRecOn generalizing l with
       |ind n ih=>
         intro acc h
         match l,hn with
         |[],_=>cases h
         |[b],_=>
           rw[textL]at h ⊢
           split at h
           · rename_i h3;rw[if_pos h3];exact he2 _ h
           · cases h
         |b::c::l,hn=>
           rw[textL]at h ⊢
           split at h
           · rename_i h3;rw[if_pos h3]
             split at h
             · rename_i h4;rw[if_pos h4];exact he2 _ h
             · rename_i h4;rw[if_neg h4];exact ih l.length (by simp at hn;omega) l rfl _ h
           · rename_i h3;rw[if_neg h3];exact ih (c::l).length (by simp at hn ⊢;omega) (c::l) rfl _ h
     have:=ht l [] he;refine⟨?_,?_,fun h=>?_⟩<;>dsimp only at* <;>omega
   · rename_i h1
     rw[if_neg h1];unfold signL at he ⊢
     split at he
     · rename_i h2;rw[if_pos h2]
       exact⟨by show(1:Int)<=5;decide,Int.le_refl _,fun _=>⟨rfl,by rw[Z4D,List.length_take];omega⟩⟩
     rename_i n2;rw[if_neg n2]
     split at he
     · rename_i h2;rw[if_pos h2]
       exact⟨by show(1:Int)<=5;decide,Int.le_refl _,fun _=>⟨rfl,by rw[Z4D,List.length_take];omega⟩⟩
     · cases he
theorem Zd8: ∀(f:Nat) (l:List UInt8),∀x∈(allG f l).1,Go.Pz.okT x
 |0,_,x,h=>by cases h
 |f+1,l,x,h=>by
   unfold allG at h
   split at h
   · cases h
   rename_i b r _
   split at h
   · cases h
   rename_i h1
   split at h
   · cases h
   rcases List.mem_cons.1 h with rfl|h
   · exact Zgp (by simpa using h1)
   · exact Zd8 f _ x h
theorem ZgX(l:List UInt8):Go.Pz.okL (lexL l).1:=fun x h=>by
 unfold lexL at h
 split at h
 · cases h
 · exact Zd8 _ _ x h
end Go.Proofs.YtbedigkncjbggaaGreatDoor
set_option maxRecDepth 20000
namespace Go.Pz
open Go Go.Vc
abbrev sg(s:ByteArray):T3:=⟨5,s,0⟩
end Go.Pz
set_option maxRecDepth 20000
namespace Go.Proofs.YtbedigkncjbggaaGreatDoor
open Go Go.Vc
open Go.Pz
theorem c_PF(N:Nat)(s:ByteArray):CallF Tryz.prog Z56 [NH N,GF,AF] [.is (.string s)] (.tup2 (.rep (StR N (prS s.data.toList).1)) (.is (.int .i64 (prS s.data.toList).2))):=CallL.toF (ZbT N s) rfl
abbrev aw1:ByteArray:=⟨#[115,101,108,101,99,116,32,42,32,102,114,111,109,32,116,32,119,104,101,114,101,32,97,32,61,32,49,32,97,110,100,32,110,111,116,32,98]⟩
abbrev aw2:ByteArray:=⟨#[97,32,60,32,98,32,60,32,99]⟩
theorem ZiM: ∃S0:Pz.St,S0.kind=4/\(∃y,S0.items=[y]/\y.all=true)/\(∃x,S0.where_=[x]/\x.K=16)/\S0.limit= -1/\CallF Tryz.prog Z56 [NH 0,GF,AF] [.is (.string aw1)] (.tup2 (.rep (StR 0 S0)) (.is (.int .i64 0))):=by
 have h0:(prS aw1.data.toList).2=0:=by decide+kernel
 have h1:(prS aw1.data.toList).1.kind=4:=by decide+kernel
 have h2:(match (prS aw1.data.toList).1.items with|[y]=>y.all|_=>false)=true:=by decide+kernel
 have h3:(match (prS aw1.data.toList).1.where_ with|[x]=>x.K==16|_=>false)=true:=by decide+kernel
 have h4:(prS aw1.data.toList).1.limit= -1:=by decide+kernel
 have hc:=c_PF 0 aw1
 generalize prS aw1.data.toList=p at h0 h1 h2 h3 h4 hc
 obtain⟨S0,e⟩:=p;dsimp only at h0 h1 h2 h3 h4 hc;subst h0;refine⟨S0,h1,?_,?_,h4,hc⟩
 · split at h2
   · rename_i y hy;exact⟨y,hy,h2⟩
   · cases h2
 · split at h3
   · rename_i x hx;exact⟨x,hx,by simpa using h3⟩
   · cases h3
theorem ZiH: ∃S0:Pz.St,CallF Tryz.prog Z56 [NH 0,GF,AF] [.is (.string aw2)] (.tup2 (.rep (StR 0 S0)) (.is (.int .i64 30))):=by
 have h0:(prS aw2.data.toList).2=30:=by decide+kernel
 have hc:=c_PF 0 aw2
 generalize prS aw2.data.toList=p at h0 hc
 obtain⟨S0,e⟩:=p;dsimp only at h0 hc;subst h0;exact⟨S0,hc⟩
theorem ZhM{ps:List (Cel exE)}{l:List Ex}(h: ∃w,CelF exE ps w)(hm:ps.map Cel.x=l){i:Nat}(hi:i<ps.length)(hi':i<l.length):(ps[i].cs)[0]? =some (.int .i64 (l[i]).K):=by
 obtain⟨w,hw⟩:=h;subst hm;have h1:ExR ps[i].x (.agg (ps[i].cs).toArray) w:=hw _ (List.getElem_mem hi)
 generalize ps[i].cs=cs at h1
 rw[List.getElem_map]
 generalize ps[i].x=x at h1
 cases x;unfold ExR at h1;obtain⟨a,len,cap,e,_⟩:=h1;rw[Z4A e];rfl
theorem ZbZ:CallF Tryz.prog ZbS [NH 0,GF,AF] [] (.is (.bool true)):=
CallF.of (fn:=Tryz.f12) Tryz.func12 (n:=56) rfl rfl rfl (fun _ _=>by kernel_rfl) fun E W=>by
 obtain⟨S1,hk1,⟨y1,hy1,hy2⟩,⟨x1,hx1,hx2⟩,hlim,hP1⟩:=ZiM;obtain⟨S2,hP2⟩:=ZiH;refine vQ ?_;refine Ja rfl ?_;apply yI
 repeat first|apply yX|apply yB
 refine yL [] .nil (vQ ?_);refine Jq (Z43 rfl hP1 qF qA) ?_;refine Jm rfl (Jq (Z2c rfl) (Jq (Z2d rfl) (JO.alloc ZT rfl fun b1=>(JO.m (Z2 rfl rfl qU (by exact Zb rfl rfl) (by exact ZF) Zo) (by rfl) ?_))));refine Ja rfl (vP [1,2] ?_);refine Jq (Z43 rfl hP2 qF qA) ?_;refine Jm rfl (Jq (Z2c rfl) (Jq (Z2d rfl) (JO.alloc ZT rfl fun b3=>(JO.m (Z2 rfl rfl qU (by exact Zb rfl rfl) (by exact ZF) Zo) (by rfl) ?_))));refine Ja rfl (vS [1,2,4] ?_);refine J.front b1 (by repeat(first|exact .here|apply Front.there)) ?_;refine J.openOwnSt fun vc vn vr vi vf vw vg vo vs h1c=>?_;refine J.shapeE (xs:=S1.items) (v:=vi) qI (fun pi ai li ci bi oi_ hpi hvi hli hai=>?_);refine J.shapeE (xs:=S1.where_) (v:=vw) qI (fun pw aw lw cw bw ow_ hpw hvw hlw haw=>?_);refine J.pureF (F:=CelF itE pi) qI (fun pui=>?_);refine J.pureF (F:=CelF exE pw) qI (fun puw=>?_);subst hvi hvw;rw[hy1]at hpi;rw[hx1]at hpw;have li1:li=1:=by rw[<-hli,<-List.length_map (f:=Cel.x),hpi];rfl
 have lw1:lw=1:=by rw[<-hlw,<-List.length_map (f:=Cel.x),hpw];rfl
 repeat apply yQ
 refine J.reg0 hmx qK qK ?_;refine yz (Z1 rfl) (yz (ZP rfl rfl) (yz (Z1 rfl) (yg rfl rfl rfl (fun hg=>Z0 Z2r (.inl rfl)) (yg rfl rfl rfl (fun hg=>Z5 Zx (qR rfl) rfl) ?_))));refine yg rfl rfl rfl (fun hg=>ZP (qR rfl) (.inl rfl)) ?_;refine yz (Zl rfl rfl rfl id) (yz (Z1 rfl) (yg rfl rfl rfl (fun hg=>Z0 Z1y (.inl rfl)) (yg rfl rfl rfl (fun hg=>Z5 Z1H (qR rfl) rfl) ?_)));refine yg rfl rfl rfl (fun hg=>ZD Z2i (qR rfl)) ?_;refine yg rfl rfl rfl (fun hg=>ZP (qR rfl) (.inl rfl)) ?_;refine yz (Zl rfl rfl rfl id) (yz (Z1 rfl) (yg rfl rfl rfl (fun hg=>Z0 Z1y (.inl rfl)) (yg rfl rfl rfl (fun hg=>Z5 Z1H (qR rfl) rfl) ?_)));refine yg rfl rfl rfl (fun hg=>Zi Z3N (qR rfl) (hai qM) (.inl rfl) qM qM) ?_;refine yg rfl rfl rfl (fun hg=>Z0 Z6o (qR rfl)) ?_;refine yg rfl rfl rfl (fun hg=>Z17 (sz:=9) (i:=0) (j:=0) (enc:=@Cel.cs _ itE) (y:=pi[0]) (u:=.bool y1.all) Z1O (qR rfl) qI (hai qM) (List.getElem?_eq_getElem (by omega:0<pi.length)) rfl (Zbg (l:=[y1]) pui hpi qM Nat.zero_lt_one)) ?_;refine yz (Zl rfl rfl rfl id) (yz (Z1 rfl) (yg rfl rfl rfl (fun hg=>Z0 Z26 (.inl rfl)) (yg rfl rfl rfl (fun hg=>Z5 ZB (qR rfl) rfl) ?_)));refine yg rfl rfl rfl (fun hg=>ZD Zs (qR rfl)) ?_;refine yg rfl rfl rfl (fun hg=>ZP (qR rfl) (.inl rfl)) ?_;refine yz (Zl rfl rfl rfl id) (yz (Z1 rfl) (yg rfl rfl rfl (fun hg=>Z0 Z26 (.inl rfl)) (yg rfl rfl rfl (fun hg=>Z5 ZB (qR rfl) rfl) ?_)));refine yg rfl rfl rfl (fun hg=>Zi Z2A (qR rfl) (haw qM) (.inl rfl) qM qM) ?_;refine yg rfl rfl rfl (fun hg=>Z0 Z6u (qR rfl)) ?_;refine yg rfl rfl rfl (fun hg=>Z17 (sz:=8) (i:=0) (j:=0) (enc:=@Cel.cs _ exE) (y:=pw[0]) (u:=.int .i64 x1.K) Zx (qR rfl) qI (haw qM) (List.getElem?_eq_getElem (by omega:0<pw.length)) rfl (ZhM (l:=[x1]) puw hpw qM Nat.zero_lt_one)) ?_;refine yg rfl rfl rfl (fun hg=>ZP (qR rfl) (.inl rfl)) ?_;refine yz (Zl rfl rfl rfl id) (yz (Z1 rfl) (yg rfl rfl rfl (fun hg=>Z0 Z3O (.inl rfl)) (yg rfl rfl rfl (fun hg=>Z5 Zx (qR rfl) rfl) ?_)));refine yg rfl rfl rfl (fun hg=>ZP (qR rfl) (.inl rfl)) ?_;refine yz (Zl rfl rfl rfl id) (yz (Z1 rfl) (yg rfl rfl rfl (fun hg=>Z1 (.inl rfl)) (yg rfl rfl rfl (fun hg=>ZP (qR rfl) (.inl rfl)) ?_)));refine yz (Zl rfl rfl rfl id) (yz (Z2l rfl) ?_);apply yn;refine FinS.nil0 ?_;refine vS [0] ?_;refine vR ?_;exact JX.ret1is rfl rfl (by simp[hk1,li1,hy2,lw1,hx2,hlim])
end Go.Proofs.YtbedigkncjbggaaGreatDoor
set_option maxRecDepth 20000
namespace Go.Proofs.YtbedigkncjbggaaGreatDoor
open Go Go.Vc Go.Pz
end Go.Proofs.YtbedigkncjbggaaGreatDoor
set_option maxRecDepth 20000
namespace Go.Proofs.YtbedigkncjbggaaGreatDoor
open Go Go.Vc
open Go.Pz
theorem Zf8{ts:List T3}(h:(readT ts).2≠0):(readT ts).1=st0:=by
 unfold readT at h ⊢
 split
 · rfl
 · rename_i s hs
   rw[hs]at h;dsimp only at h ⊢
   split
   · rfl
   · rename_i hd;rw[if_neg hd]at h;exact absurd rfl h
theorem Zhw{l:List UInt8}(h:(prS l).2≠0):(prS l).1=st0:=by
 by_cases he:(lexL l).2=0
 · rw[Zfo he]at h ⊢;exact Zf8 h
 · rw[ZdZ he]
theorem Zi1(l:List UInt8):SmS (prS l).1/\ ∀x∈exsOf (prS l).1,ect x<=4096:=by
 by_cases h:(prS l).2=0
 · have he:=Zi5 h
   rw[Zfo he]at h ⊢;obtain⟨s,r,h1,_,_,h4⟩:=ZgG h;rw[h4];refine⟨Zas h1,fun x hx=>?_⟩;have:=Zbc (Z2K _) (Z9V _) (Nat.le_refl _) h1 x hx;have:=Z92 l
   omega
 · rw[Zhw h]
   refine⟨⟨Nat.zero_le _,(fun x hx=>by cases hx),Nat.zero_le _,Nat.zero_le _,(fun x hx=>by cases hx),Nat.zero_le _,Nat.zero_le _,Nat.zero_le _,Nat.zero_le _,Nat.zero_le _,Nat.zero_le _⟩,fun x hx=>by simp[exsOf,st0]at hx⟩
end Go.Proofs.YtbedigkncjbggaaGreatDoor
namespace Go.Pz
open Go Go.Vc
section
section
variable{l b q:Int}{x:Ex}{c:Bool}{ts:List T3}
theorem stOp(h:binR ts=(q,b))(hq:0<q)(hl:l<b)(hc:(c&&decide (4<=b))=false):(loopC lev) l x c ts=(lev b ts.tail).bind fun z=>(loopC lev) l (nd q [x,z.1]) (c||decide (b<=4)) z.2:=by
 rw[Z3I Z34,h,if_pos (by simp[hq,hl,hc])]
theorem stStop(h:binR ts=(q,b))(hq:0<q)(hl:(decide (l<b)&& !(c&&decide (4<=b)))=false):(loopC lev) l x c ts=some (x,ts):=by
 have h1:((decide (0<q)&&decide (l<b))&& !(c&&decide (4<=b)))=false:=by rw[Bool.and_assoc,hl,Bool.and_false]
 have h2:(q==0)=false:=by rw[beq_eq_false_iff_ne];omega
 rw[Z3I Z34,h,if_neg (by rw[h1];decide),if_neg (by rw[h2];simp)]
theorem stIs(h:binR ts=(0,0))(hl:l<4)(hi:isT 1 w_IS ts=true):(loopC lev) l x false ts=(wantP 1 Z1M (skT 1 Z1d ts.tail)).bind fun v=>(loopC lev) l (nd (if isT 1 Z1d ts.tail then 19 else 18) [x]) true v.2:=by
 rw[Z3I Z34,h,if_neg (by simp),hi,if_pos (by simp[hl])]
theorem stNo(h:binR ts=(0,0))(hl:((decide (l<4)&& !c)&&isT 1 w_IS ts)=false):(loopC lev) l x c ts=some (x,ts):=by
 rw[Z3I Z34,h,if_neg (by simp),if_neg (by rw[show(((0:Int)==0&&decide (l<4))&& !c)=(decide (l<4)&& !c)from rfl,hl];decide)]
end
theorem loop2t(x:Ex)(ts:List T3):(loopC lev) 2 x true ts=some (x,ts):=by
 cases cls ts with
 |mul q hq h h1 h2 h3 h4 h5 h6=>exact stStop h hq qD
 |add q hq h h1 h2 h3 h4 h5 h6=>exact stStop h hq qD
 |cmp q hq h h1 h2 h3 h4 h5 h6=>exact stStop h hq qD
 |and h h1 h2 h3 h4 h5 h6=>exact stStop h qD qD
 |or h h1 h2 h3 h4 h5 h6 h7=>exact stStop h qD qD
 |no h h1 h2 h3 h4 h5=>exact stNo h (by rfl)
theorem loop2: ∀(n:Nat) (x:Ex) (ts:List T3),ts.length<=n->(loopC lev) 2 x false ts=((loopC lev) 4 x false ts).bind fun z=>cmpP exprX z.1 z.2
 |n,x,ts,hn=>by
   have tl:ts.tail.length<=ts.length:=(List.tail_suffix ts).length_le;have st: ∀(b:Int) (y:Ex×List T3) (q:Int),lev b ts.tail=some y->(loopC lev) 2 (nd q [x,y.1]) false y.2=((loopC lev) 4 (nd q [x,y.1]) false y.2).bind fun z=>cmpP exprX z.1 z.2:=fun b y q hy=>by
     have h7:=(Z34 b _ _ hy).2;cases n with
     |zero=>omega
     |succ n=>exact loop2 n _ _ qM
   cases cls ts with
   |mul q hq h h1 h2 h3 h4 h5 h6=>
     rw[stOp h hq qD qD,stOp h hq qD qD,bas];exact Zm fun y hy=>st 6 y _ hy
   |add q hq h h1 h2 h3 h4 h5 h6=>
     rw[stOp h hq qD qD,stOp h hq qD qD,bas];exact Zm fun y hy=>st 5 y _ hy
   |cmp q hq h h1 h2 h3 h4 h5 h6=>
     rw[stOp h hq qD qD,stStop (l:=4) h hq qD,Option.bind_some];unfold cmpP;rw[h3];show(sumP exprX ts.tail).bind _=(sumP exprX ts.tail).map _;cases sumP exprX ts.tail with
     |none=>rfl
     |some y=>exact loop2t _ _
   |no h h1 h2 h3 h4 h5=>
     rw[stNo (l:=4) h (by rfl),Option.bind_some];unfold cmpP;rw[h3];cases hi:isT 1 w_IS ts with
     |false=>rw[stNo h (by rw[hi];rfl)];rfl
     |true=>
       rw[stIs h qD hi];unfold skT;cases hj:isT 1 Z1d ts.tail with
       |true=>
         show(wantP 1 Z1M ts.tail.tail).bind _=(wantP 1 Z1M ts.tail.tail).map _;cases wantP 1 Z1M ts.tail.tail with
         |none=>rfl
         |some y=>exact loop2t _ _
       |false=>
         show(wantP 1 Z1M ts.tail).bind _=(wantP 1 Z1M ts.tail).map _;cases wantP 1 Z1M ts.tail with
         |none=>rfl
         |some y=>exact loop2t _ _
   |or h h1 h2 h3 h4 h5 h6 h7=>
     rw[stStop h qD qD,stStop (l:=4) h qD qD,Option.bind_some];unfold cmpP;rw[h3,h6];rfl
   |and h h1 h2 h3 h4 h5 h6=>
     rw[stStop h qD qD,stStop (l:=4) h qD qD,Option.bind_some];unfold cmpP;rw[h3,h6];rfl
theorem Zd5{k:Int}{s:ByteArray}{ts r:List T3}(h:Lt r (skT k s ts)):r.length<ts.length:=Nat.lt_of_lt_of_le h.2 (Z2o k s ts).length_le
theorem loop1: ∀(n:Nat) (x:Ex) (c:Bool) (ts:List T3),ts.length<=n->(loopC lev) 1 x c ts=((loopC lev) 2 x c ts).bind fun z=>chainC (notP exprX) 1 [(Z1U,16)] z.1 z.2
 |n,x,c,ts,hn=>by
   have tl:ts.tail.length<=ts.length:=(List.tail_suffix ts).length_le;have st: ∀(b:Int) (c':Bool) (y:Ex×List T3) (q:Int),lev b ts.tail=some y->(loopC lev) 1 (nd q [x,y.1]) c' y.2=((loopC lev) 2 (nd q [x,y.1]) c' y.2).bind fun z=>chainC (notP exprX) 1 [(Z1U,16)] z.1 z.2:=fun b c' y q hy=>by
     have h7:=(Z34 b _ _ hy).2;cases n with
     |zero=>omega
     |succ n=>exact loop1 n _ _ _ qM
   cases cls ts with
   |mul q hq h h1 h2 h3 h4 h5 h6=>
     cases c with
     |false=>
       rw[stOp h hq qD qD,stOp (l:=2) h hq qD qD,bas];exact Zm fun y hy=>st 6 _ y _ hy
     |true=>rw[stStop h hq qD,stStop (l:=2) h hq qD,Option.bind_some,Z1L h2]
   |add q hq h h1 h2 h3 h4 h5 h6=>
     cases c with
     |false=>
       rw[stOp h hq qD qD,stOp (l:=2) h hq qD qD,bas];exact Zm fun y hy=>st 5 _ y _ hy
     |true=>rw[stStop h hq qD,stStop (l:=2) h hq qD,Option.bind_some,Z1L h2]
   |cmp q hq h h1 h2 h3 h4 h5 h6=>
     cases c with
     |false=>
       rw[stOp h hq qD qD,stOp (l:=2) h hq qD qD,bas];exact Zm fun y hy=>st 4 _ y _ hy
     |true=>rw[stStop h hq qD,stStop (l:=2) h hq qD,Option.bind_some,Z1L h2]
   |and h h1 h2 h3 h4 h5 h6=>
     rw[stOp h qD qD (by cases c<;>decide),stStop (l:=2) h qD (by cases c<;>decide),Option.bind_some,Z3A nD h2];refine Zm fun y hy=>?_;have h7:=st 2 true y 16 hy;rw[loop2t,Option.bind_some]at h7;rw[show(c||decide ((2:Int)<=4))=true by cases c<;>rfl];exact h7
   |or h h1 h2 h3 h4 h5 h6 h7=>rw[stStop h qD (by cases c<;>decide),stStop (l:=2) h qD (by cases c<;>decide),Option.bind_some,Z1L h2]
   |no h h1 h2 h3 h4 h5=>
     cases hi:isT 1 w_IS ts with
     |false=>rw[stNo h (by rw[hi,Bool.and_false]),stNo (l:=2) h (by rw[hi,Bool.and_false]),Option.bind_some,Z1L h2]
     |true=>
       cases c with
       |true=>rw[stNo h (by rfl),stNo (l:=2) h (by rfl),Option.bind_some,Z1L h2]
       |false=>
         rw[stIs h qD hi,stIs (l:=2) h qD hi,bas];refine Zm fun y hy=>?_;have h7:=Zd5 (Zk _ _ _ _ hy);cases n with
         |zero=>omega
         |succ n=>exact loop1 n _ _ _ qM
theorem loop1t(x:Ex)(ts:List T3):(loopC lev) 1 x true ts=chainC (notP exprX) 1 [(Z1U,16)] x ts:=by
 rw[loop1 _ _ _ _ (Nat.le_refl _),loop2t];rfl
theorem loop0: ∀(n:Nat) (x:Ex) (c:Bool) (ts:List T3),ts.length<=n->(loopC lev) 0 x c ts=((loopC lev) 1 x c ts).bind fun z=>chainC (andP exprX) 1 [(w_OR,17)] z.1 z.2
 |n,x,c,ts,hn=>by
   have tl:ts.tail.length<=ts.length:=(List.tail_suffix ts).length_le;have st: ∀(b:Int) (c':Bool) (y:Ex×List T3) (q:Int),lev b ts.tail=some y->(loopC lev) 0 (nd q [x,y.1]) c' y.2=((loopC lev) 1 (nd q [x,y.1]) c' y.2).bind fun z=>chainC (andP exprX) 1 [(w_OR,17)] z.1 z.2:=fun b c' y q hy=>by
     have h7:=(Z34 b _ _ hy).2;cases n with
     |zero=>omega
     |succ n=>exact loop0 n _ _ _ qM
   cases cls ts with
   |mul q hq h h1 h2 h3 h4 h5 h6=>
     cases c with
     |false=>
       rw[stOp h hq qD qD,stOp (l:=1) h hq qD qD,bas];exact Zm fun y hy=>st 6 _ y _ hy
     |true=>rw[stStop h hq qD,stStop (l:=1) h hq qD,Option.bind_some,Z1L h1]
   |add q hq h h1 h2 h3 h4 h5 h6=>
     cases c with
     |false=>
       rw[stOp h hq qD qD,stOp (l:=1) h hq qD qD,bas];exact Zm fun y hy=>st 5 _ y _ hy
     |true=>rw[stStop h hq qD,stStop (l:=1) h hq qD,Option.bind_some,Z1L h1]
   |cmp q hq h h1 h2 h3 h4 h5 h6=>
     cases c with
     |false=>
       rw[stOp h hq qD qD,stOp (l:=1) h hq qD qD,bas];exact Zm fun y hy=>st 4 _ y _ hy
     |true=>rw[stStop h hq qD,stStop (l:=1) h hq qD,Option.bind_some,Z1L h1]
   |and h h1 h2 h3 h4 h5 h6=>
     rw[stOp h qD qD (by cases c<;>decide),stOp (l:=1) h qD qD (by cases c<;>decide),bas];exact Zm fun y hy=>st 2 _ y _ hy
   |or h h1 h2 h3 h4 h5 h6 h7=>
     rw[stOp h qD qD (by cases c<;>decide),stStop (l:=1) h qD (by cases c<;>decide),Option.bind_some,Z3A aD h7];refine Zm fun y hy=>?_;have h8:=st 1 true y 17 hy;obtain⟨u,h9,h10⟩:=bnd (show((notP exprX ts.tail).bind fun z=>chainC (notP exprX) 1 [(Z1U,16)] z.1 z.2)=some y from hy);rw[loop1t,Z1L (Z91 nD _ _ _ _ (Nat.le_refl _) h10),Option.bind_some]at h8;rw[show(c||decide ((1:Int)<=4))=true by cases c<;>rfl];exact h8
   |no h h1 h2 h3 h4 h5=>
     cases hi:isT 1 w_IS ts with
     |false=>rw[stNo h (by rw[hi,Bool.and_false]),stNo (l:=1) h (by rw[hi,Bool.and_false]),Option.bind_some,Z1L h1]
     |true=>
       cases c with
       |true=>rw[stNo h (by rfl),stNo (l:=1) h (by rfl),Option.bind_some,Z1L h1]
       |false=>
         rw[stIs h qD hi,stIs (l:=1) h qD hi,bas];refine Zm fun y hy=>?_;have h7:=Zd5 (Zk _ _ _ _ hy);cases n with
         |zero=>omega
         |succ n=>exact loop0 n _ _ _ qM
theorem Z6b{e:Int->Ps Ex}{l:Int}{N:Nat}(h: ∀b,b=1\/b=2\/b=4\/b=5\/b=6->∀ts,okL ts->ts.length<N->e b ts=lev b ts): ∀(m:Nat) (x:Ex) (c:Bool) (ts:List T3),okL ts->ts.length<=N->loopR e l m x c ts=loopR lev l m x c ts
 |0,_,_,_,_,_=>rfl
 |m+1,x,c,ts,ho,hl=>by
   rw[loopR,loopR];refine ite_congr rfl (fun hc=>?_) fun _=>ite_congr rfl (fun hc=>?_) fun _=>rfl
   · have hb:(binR ts).2=1\/(binR ts).2=2\/(binR ts).2=4\/(binR ts).2=5\/(binR ts).2=6:=by
       cases cls ts<;>simp_all
     have hlt:ts.tail.length<ts.length:=by
       cases ts with
       |nil=>simp[binR,binG,isT]at hc
       |cons t r=>simp
     rw[h _ hb ts.tail ho.tail qM];exact Zm fun y hy=>Z6b h m _ _ _ (ho.tail.suf (Z34 _ _ _ hy).1) (by have:=(Z34 _ _ _ hy).2;omega)
   · refine Zm fun y hy=>Z6b h m _ _ _ ?_ ?_
     · exact ho.suf (((Zk _ _ _ _ hy).1.trans (Z2o _ _ _)).trans (List.tail_suffix ts))
     · have h1:=Zd5 (Zk _ _ _ _ hy)
       have h2:=(List.tail_suffix ts).length_le
       omega
theorem ZgE(x:Ex)(ts:List T3):(loopC lev) 4 x false ts=(chainC (factorP exprX) 5 mulO x ts).bind fun z=>chainC (prodP exprX) 5 addO z.1 z.2:=loop4 _ x ts (Nat.le_refl _)
theorem ZfQ(ts:List T3):sumP exprX ts=(factorP exprX ts).bind fun z=>(loopC lev) 4 z.1 false z.2:=by
 show((factorP exprX ts).bind fun z=>chainC (factorP exprX) 5 mulO z.1 z.2).bind (fun z=>chainC (prodP exprX) 5 addO z.1 z.2)=_;rw[bas];exact Zm fun y _=>(ZgE _ _).symm
theorem ZcX{ts:List T3}(h:isT 1 Z1d ts=false):notP exprX ts=(factorP exprX ts).bind fun z=>(loopC lev) 2 z.1 false z.2:=by
 have e:notP exprX ts=(sumP exprX ts).bind fun z=>cmpP exprX z.1 z.2:=by
  cases ts with
  |nil=>rw[notP]
  |cons t r=>rw[notP,if_neg (by rw[h];decide)]
 rw[e,ZfQ,bas];exact Zm fun y _=>(loop2 _ _ _ (Nat.le_refl _)).symm
theorem Z4P{ts:List T3}(h:isT 1 Z1d ts=true):notP exprX ts=(notP exprX ts.tail).bind fun z=>(loopC lev) 2 (nd 4 [z.1]) true z.2:=by
 obtain⟨t,r,rfl,_⟩:=Z5a h;rw[notP,if_pos h];show(notP exprX r).map _=(notP exprX r).bind _;cases notP exprX r with
 |none=>rfl
 |some y=>exact(loop2t _ _).symm
theorem Zau: ∀(n:Nat) (l:Int),(l=0\/l=1\/l=2\/l=4\/l=5\/l=6)->∀ts,okL ts->ts.length<n->exprR n l ts=lev l ts
 |0,_,_,_,_,h=>absurd h qM
 |n+1,l,hl,ts,ho,hn=>by
   have ih: ∀b,b=1\/b=2\/b=4\/b=5\/b=6->∀ts,okL ts->ts.length<n->exprR n b ts=lev b ts:=fun b hb ts ho hn=>Zau n b qM ts ho hn;have hf:factorR (exprR n 0) ts=factorP exprX ts:=ZaO (N:=n) (fun ts ho hn=>by
     rw[Zau n 0 qM ts ho hn];exact(Zdl ts).symm) ts ho qM
   have hfl: ∀y,factorP exprX ts=some y->y.2.length<=n/\okL y.2:=fun y hy=>by
     have:=fD _ _ hy;exact⟨by have:=this.2;omega,ho.suf this.1⟩
   have hstep:((factorR (exprR n 0) ts).bind fun z=>loopR (exprR n) l z.2.length z.1 false z.2)=(factorP exprX ts).bind fun z=>(loopC lev) l z.1 false z.2:=by
     rw[hf];exact Zm fun y hy=>Z6b ih _ _ _ _ (hfl y hy).2 (hfl y hy).1
   rw[exprR];show(if(decide (l<3)&&isT 1 Z1d ts)=true then(exprR n 2 ts.tail).bind fun z=>loopR (exprR n) l z.2.length (nd 4 [z.1]) true z.2 else(factorR (exprR n 0) ts).bind fun z=>loopR (exprR n) l z.2.length z.1 false z.2)=lev l ts
   by_cases hN:(decide (l<3)&&isT 1 Z1d ts)=true
   · rw[if_pos hN]
     simp only[Bool.and_eq_true,decide_eq_true_eq]at hN;have htl:=ZG hN.2;rw[ih 2 qM ts.tail ho.tail (by have:=htl.2;omega)];have hs2:((lev 2 ts.tail).bind fun z=>loopR (exprR n) l z.2.length (nd 4 [z.1]) true z.2)=(notP exprX ts.tail).bind fun z=>(loopC lev) l (nd 4 [z.1]) true z.2:=
       Zm fun y hy=>by
         have h1:=Z34 2 _ _ hy;exact Z6b ih _ _ _ _ (ho.tail.suf h1.1) (by have:=h1.2;have:=htl.2;omega)
     rw[hs2];have hn2:=Z4P hN.2;rcases hl with rfl|rfl|rfl|hl
     · show _=orP exprX ts
       have e1:andP exprX ts=(notP exprX ts.tail).bind fun z=>(loopC lev) 1 (nd 4 [z.1]) true z.2:=by
         show(notP exprX ts).bind (fun z=>chainC (notP exprX) 1 [(Z1U,16)] z.1 z.2)=_;rw[hn2,bas];exact Zm fun y _=>(loop1 _ _ _ _ (Nat.le_refl _)).symm
       show _=(andP exprX ts).bind (fun z=>chainC (andP exprX) 1 [(w_OR,17)] z.1 z.2);rw[e1,bas];exact Zm fun y _=>loop0 _ _ _ _ (Nat.le_refl _)
     · show _=(notP exprX ts).bind (fun z=>chainC (notP exprX) 1 [(Z1U,16)] z.1 z.2)
       rw[hn2,bas];exact Zm fun y _=>loop1 _ _ _ _ (Nat.le_refl _)
     · exact hn2.symm
     · omega
   · rw[if_neg hN,hstep]
     have hN':l<3->isT 1 Z1d ts=false:=fun h=>by simpa [h] using hN
     rcases hl with rfl|rfl|rfl|rfl|rfl|rfl
     · have hn2:=ZcX (hN' qD)
       have e1:andP exprX ts=(factorP exprX ts).bind fun z=>(loopC lev) 1 z.1 false z.2:=by
         show(notP exprX ts).bind (fun z=>chainC (notP exprX) 1 [(Z1U,16)] z.1 z.2)=_;rw[hn2,bas];exact Zm fun y _=>(loop1 _ _ _ _ (Nat.le_refl _)).symm
       show _=(andP exprX ts).bind (fun z=>chainC (andP exprX) 1 [(w_OR,17)] z.1 z.2);rw[e1,bas];exact Zm fun y _=>loop0 _ _ _ _ (Nat.le_refl _)
     · show _=(notP exprX ts).bind (fun z=>chainC (notP exprX) 1 [(Z1U,16)] z.1 z.2)
       rw[ZcX (hN' qD),bas];exact Zm fun y _=>loop1 _ _ _ _ (Nat.le_refl _)
     · exact(ZcX (hN' qD)).symm
     · exact(ZfQ ts).symm
     · show _=(factorP exprX ts).bind (fun z=>chainC (factorP exprX) 5 mulO z.1 z.2)
       exact Zm fun y _=>loop5 _ _ _ (Nat.le_refl _)
     · show _=factorP exprX ts
       cases factorP exprX ts with
       |none=>rfl
       |some y=>exact loop6 _ _
end
end Go.Pz
namespace Go.Pz
open Go Go.Vc
def listW{α:Type}(part:Ps α):Ps (List α):=fun ts=>(part ts).bind fun z=>(listG part z.2.length z.2).map fun y=>(z.1::y.1,y.2)
def colEndR(n:ByteArray)(t:Int)(nn:Bool):Ps Col:=fun ts=>
 if isT 1 Z3l ts then some (⟨n,t,nn,true⟩,ts.tail)else if isT 1 Z3f ts then(wantP 1 Zax ts.tail).map fun v=>(⟨n,t,true,true⟩,v.2)else some (⟨n,t,nn,false⟩,ts)
def colR:Ps Col:=fun ts=>(nameP ts).bind fun n=>(typeP n.2).bind fun t=>
 if isT 1 Z1d t.2 then(wantP 1 Z1M t.2.tail).bind fun v=>colEndR n.1 t.1 true v.2 else colEndR n.1 t.1 false t.2
def createR:Ps St:=fun ts=>
 if isT 1 Z6G ts then(nameP ts.tail).bind fun n=>(wantP 5 s_lp n.2).bind fun a=>(listW colR a.2).bind fun c=>(wantP 5 s_rp c.2).bind fun v=>if c.1.length<=16 then some ({stK 1 with tb:=n.1,cols:=c.1},v.2)else none
 else(wantP 1 Z9Y ts).bind fun a=>(nameP a.2).bind fun n=>(wantP 1 w_ON n.2).bind fun b=>(nameP b.2).bind fun t=>(wantP 5 s_lp t.2).bind fun c=>(nameP c.2).bind fun m=>(wantP 5 s_rp m.2).bind fun d=>
   if isT 1 Z5W d.2 then(wantP 1 Zay d.2.tail).map fun v=>({stK 2 with nm:=n.1,tb:=t.1,names:=[m.1],hash:=true},v.2)
   else some ({stK 2 with nm:=n.1,tb:=t.1,names:=[m.1]},d.2)
def exprsR(e:Ps Ex):Ps (List Ex):=fun ts=>(listW e ts).bind fun l=>if l.1.length<=16 then some l else none
def rowR(e:Ps Ex):Ps (List Ex):=fun ts=>(wantP 5 s_lp ts).bind fun a=>(exprsR e a.2).bind fun l=>(wantP 5 s_rp l.2).map fun v=>(l.1,v.2)
def insRowsR(e:Ps Ex)(tb:ByteArray)(ns:List ByteArray):Ps St:=fun ts=>(wantP 1 Z5M ts).bind fun a=>(listW (rowR e) a.2).bind fun r=>if ns.length<=16/\r.1.length<=32 then some ({stK 3 with tb:=tb,names:=ns,rows:=r.1},r.2)else none
def insertR(e:Ps Ex):Ps St:=fun ts=>(wantP 1 Zaz ts).bind fun a=>(nameP a.2).bind fun n=>
 if isT 5 s_lp n.2 then(listW nameP n.2.tail).bind fun l=>(wantP 5 s_rp l.2).bind fun v=>insRowsR e n.1 l.1 v.2 else insRowsR e n.1 [] n.2
def keyR(e:Ps Ex):Ps Ky:=fun ts=>(e ts).map fun z=>if isT 1 Z6i z.2 then(⟨z.1,true⟩,z.2.tail)else(⟨z.1,false⟩,skT 1 Z6d z.2)
def groupR(e:Ps Ex):Ps (List Ex):=fun ts=>if isT 1 Z5p ts then(wantP 1 w_BY ts.tail).bind fun a=>exprsR e a.2 else some ([],ts)
def orderR(e:Ps Ex):Ps (List Ky):=fun ts=>if isT 1 Z4y ts then(wantP 1 w_BY ts.tail).bind fun a=>listW (keyR e) a.2 else some ([],ts)
def queryR(e:Ps Ex):Ps St:=fun ts=>(listW (itemP e) ts).bind fun i=>(wantP 1 Z5G i.2).bind fun a=>(sourceP a.2).bind fun s=>(joinsG e s.2.length s.2).bind fun j=>
 (whereP e j.2).bind fun w=>(groupR e w.2).bind fun g=>(orderR e g.2).bind fun o=>(limitP o.2).bind fun l=>
  if i.1.length<=16/\j.1.length+1<=4/\o.1.length<=16 then some ({stK 4 with items:=i.1,from_:=s.1::j.1,where_:=w.1,group:=g.1,order:=o.1,limit:=l.1},l.2)else none
def updateR(e:Ps Ex):Ps St:=fun ts=>(nameP ts).bind fun n=>(wantP 1 Zc4 n.2).bind fun a=>(listW (setP e) a.2).bind fun l=>(whereP e l.2).bind fun w=>
 if l.1.length<=16 then some ({stK 5 with tb:=n.1,names:=l.1.map (·.1),sets:=l.1.map (·.2),where_:=w.1},w.2)else none
theorem Z61{α:Type}(most:Nat)(part:Ps α)(ts:List T3):listP most part ts=(listW part ts).bind fun l=>if l.1.length<=most then some l else none:=by
 unfold listP listW;cases part ts with
 |none=>rfl
 |some z=>
   simp only[Option.bind_some];cases listG part z.2.length z.2 with
   |none=>rfl
   |some y=>simp only[Option.bind_some,Option.map_some,List.length_cons]
theorem Zfj(n:ByteArray)(t:Int)(nn:Bool)(ts:List T3):colEndR n t nn ts=colEnd n t nn ts:=by
 unfold colEndR colEnd skT;cases hu:isT 1 Z3l ts with
 |true=>rw[Z6 (k':=1) (s':=Z3f) hu qD];rfl
 |false=>rfl
theorem Ze6:colR=colP:=by
 funext ts
 unfold colR colP;simp only[Zfj]
theorem Zev(ts:List T3):createR ts=createP ts:=by
 unfold createR createP;refine ite_congr rfl (fun _=>?_) fun _=>rfl;refine Zm fun n _=>?_;unfold withinP;rw[Ze6];cases wantP 5 s_lp n.2 with
 |none=>rfl
 |some a=>
   simp only[Option.bind_some,Z61];cases listW colP a.2 with
   |none=>rfl
   |some c=>
     simp only[Option.bind_some]
     by_cases h:c.1.length<=16
     · simp only[if_pos h,Option.bind_some]
       cases wantP 5 s_rp c.2<;>rfl
     · simp only[if_neg h]
       cases wantP 5 s_rp c.2<;>rfl
theorem Zbq(e:Ps Ex):exprsR e=listP 16 e:=by funext ts;rw[Z61];rfl
theorem Zer(e:Ps Ex):rowR e=withinP e:=by funext ts;unfold rowR withinP;rw[Zbq]
theorem ZaX(e:Ps Ex)(tb:ByteArray)(ns:List ByteArray)(ts:List T3):insRowsR e tb ns ts=if ns.length<=16 then insRows e tb ns ts else none:=by
 unfold insRowsR insRows;rw[Zer];cases wantP 1 Z5M ts with
 |none=>simp
 |some a=>
   simp only[Option.bind_some,Z61];cases listW (withinP e) a.2 with
   |none=>simp
   |some r=>
     simp only[Option.bind_some]
     by_cases h:ns.length<=16<;>by_cases h':r.1.length<=32<;>simp[h,h']
theorem ZgW{ts:List T3}(h:okL ts):isLp ts=isT 5 s_lp ts:=by
 cases ts with
 |nil=>rfl
 |cons t r=>
   show((t.k==5)&&(sq t.t s_lp&&(t.n==0)))=((t.k==5)&&sq t.t s_lp);cases hk:t.k==5 with
   |false=>rfl
   |true=>
     have:=(h.cons.1.2.2 (by simpa using hk)).1;rw[this];simp
theorem Zgs{ts:List T3}{z:ByteArray×List T3}(h:okL ts)(hz:nameP ts=some z):okL z.2:=h.suf (ZV _ _ hz).1
theorem ZeI(e:Ps Ex){ts:List T3}(ho:okL ts):insertR e ts=insertP e ts:=by
 unfold insertR insertP;refine Zm fun a ha=>Zm fun n hn=>?_;have h1:okL n.2:=Zgs (ho.suf (Zk _ _ _ _ ha).1) hn;rw[ZgW h1];cases hi:isT 5 s_lp n.2 with
 |false=>
   simp only[Bool.false_eq_true,if_false];rw[ZaX,if_pos (by simp)]
 |true=>
   simp only[if_true];unfold withinP;have hw:wantP 5 s_lp n.2=some ((),n.2.tail):=by unfold wantP;rw[hi];rfl
   rw[hw];simp only[Option.bind_some,Z61,ZaX];cases listW nameP n.2.tail with
   |none=>rfl
   |some l=>
     simp only[Option.bind_some]
     by_cases h:l.1.length<=16
     · simp only[if_pos h,Option.bind_some]
       cases wantP 5 s_rp l.2<;>rfl
     · simp only[if_neg h]
       cases wantP 5 s_rp l.2<;>rfl
theorem Zeo(e:Ps Ex):keyR e=keyP e:=by
 funext ts
 unfold keyR keyP;cases e ts with
 |none=>rfl
 |some z=>
   simp only[Option.map_some]
   congr 1
   unfold skT;cases hd:isT 1 Z6i z.2 with
   |true=>rw[Z6 (k':=1) (s':=Z6d) hd qD];rfl
   |false=>cases isT 1 Z6d z.2<;>rfl
theorem ZeY(e:Ps Ex):groupR e=groupP e:=by funext ts;unfold groupR groupP;rw[Zbq]
theorem ZeD(e:Ps Ex)(ts:List T3):updateR e ts=updateP e ts:=by
 unfold updateR updateP;refine Zm fun n _=>Zm fun a _=>?_;simp only[Z61];cases listW (setP e) a.2 with
 |none=>rfl
 |some l=>
   simp only[Option.bind_some]
   by_cases h:l.1.length<=16
   · simp only[if_pos h,Option.bind_some]
     cases whereP e l.2<;>rfl
   · simp only[if_neg h]
     cases whereP e l.2<;>rfl
theorem Zfu(e:Ps Ex)(ts:List T3):queryR e ts=queryP e ts:=by
 unfold queryR queryP;rw[ZeY];simp only[Z61];cases listW (itemP e) ts with
 |none=>rfl
 |some i=>
   simp only[Option.bind_some]
   by_cases hi:i.1.length<=16
   · simp only[if_pos hi,Option.bind_some]
     refine Zm fun a _=>Zm fun s _=>Zm fun j _=>?_
     by_cases hj:j.1.length+1<=4
     · simp only[if_pos hj]
       refine Zm fun w _=>Zm fun g _=>?_;unfold orderR orderP;rw[Zeo];cases isT 1 Z4y g.2 with
       |false=>
         simp only[Bool.false_eq_true,if_false,Option.bind_some];cases limitP g.2 with
         |none=>rfl
         |some l=>simp[hi,hj]
       |true=>
         simp only[if_true];cases wantP 1 w_BY g.2.tail with
         |none=>rfl
         |some b=>
           simp only[Option.bind_some,Z61];cases listW (keyP e) b.2 with
           |none=>rfl
           |some o=>
             simp only[Option.bind_some]
             by_cases ho:o.1.length<=16
             · simp only[if_pos ho,Option.bind_some]
               cases limitP o.2 with
               |none=>rfl
               |some l=>simp[hi,hj,ho]
             · simp only[if_neg ho]
               cases limitP o.2 with
               |none=>rfl
               |some l=>simp[ho]
     · simp only[if_neg hj]
       cases whereP e j.2 with
       |none=>rfl
       |some w=>
         simp only[Option.bind_some];cases groupP e w.2 with
         |none=>rfl
         |some g=>
           simp only[Option.bind_some];cases orderR e g.2 with
           |none=>rfl
           |some o=>
             simp only[Option.bind_some];cases limitP o.2 with
             |none=>rfl
             |some l=>simp[hj]
   · simp only[if_neg hi]
     cases wantP 1 Z5G i.2 with
     |none=>rfl
     |some a=>
       simp only[Option.bind_some];cases sourceP a.2 with
       |none=>rfl
       |some s=>
         simp only[Option.bind_some];cases joinsG e s.2.length s.2 with
         |none=>rfl
         |some j=>
           simp only[Option.bind_some];cases whereP e j.2 with
           |none=>rfl
           |some w=>
             simp only[Option.bind_some];cases groupP e w.2 with
             |none=>rfl
             |some g=>
               simp only[Option.bind_some];cases orderR e g.2 with
               |none=>rfl
               |some o=>
                 simp only[Option.bind_some];cases limitP o.2 with
                 |none=>rfl
                 |some l=>simp[hi]
end Go.Pz
namespace Go.Pz
open Go Go.Vc
def stmtR(e:Ps Ex):Ps St:=fun ts=>
 if isT 1 Z5c ts then createR ts.tail else if isT 1 Z57 ts then insertR e ts.tail else if isT 1 Z58 ts then queryR e ts.tail
 else if isT 1 Z5h ts then updateR e ts.tail else if isT 1 Z5f ts then removeP e ts.tail
 else if isT 1 Z5X ts then some (stK 7,ts.tail)else if isT 1 Z59 ts then some (stK 8,ts.tail)else if isT 1 Z3V ts then some (stK 9,ts.tail)else none
theorem Zg9(e:Ps Ex){ts:List T3}(ho:okL ts):stmtR e ts=stmtP e ts:=by
 cases ts with
 |nil=>rfl
 |cons t r=>
   have hi: ∀s,isT 1 s (t::r)=((t.k==1)&&sq t.t s):=fun _=>rfl;unfold stmtR stmtP;simp only[hi,List.tail_cons,takeP];cases hk:t.k==1 with
   |false=>simp
   |true=>
     simp only[Bool.true_and,if_true,Option.bind_some,Zev,ZeI e ho.cons.2,Zfu,ZeD]
theorem Zhg{n:Nat}{ts:List T3}(ho:okL ts)(hl:ts.length<n):exprR n 0 ts=exprP n ts:=by
 rw[Zau n 0 (.inl rfl) ts ho hl];show orP exprX ts=_;rw[<-Zdl];exact ZcH ts hl
end Go.Pz
namespace Go.Pz
open Go Go.Vc
structure Rk where
 ts:List T3
 ad:Option Addr
 cap:Nat
variable(T:Rk)
abbrev Rk.k(us:List T3):Nat:=T.ts.length-us.length
abbrev Rk.G:World->Prop:=RowG T3.cells 3 T.ts T.ad T.ts.length
def Rv{α:Type}(o:Option (α×List T3))(us:List T3)(bad:Bool)(z:α×List T3×Bool):Prop:=
 z.2.1<:+us/\(bad=true->z.2.2=true)/\(bad=false->(z.2.2=false/\o=some (z.1,z.2.1))\/(z.2.2=true/\o=none))
section
variable{α β:Type}{o:Option (α×List T3)}{us:List T3}{bad:Bool}
theorem Rv.suf{z:α×List T3×Bool}(h:Rv o us bad z):z.2.1<:+us:=h.1
theorem Rv.bd{z:α×List T3×Bool}(h:Rv o us true z):z.2.2=true:=h.2.1 rfl
theorem Rv.pure(x:α):Rv (some (x,us)) us bad (x,us,bad):=⟨List.suffix_refl _,id,fun h=>.inl ⟨h,rfl⟩⟩
theorem Rv.none(x:α):Rv none us bad (x,us,true):=⟨List.suffix_refl _,fun _=>rfl,fun _=>.inr ⟨rfl,rfl⟩⟩
theorem Rv.badly{us':List T3}(h:us'<:+us)(x:α):Rv o us true (x,us',true):=⟨h,fun _=>rfl,fun h=>by cases h⟩
theorem Rv.ok{z:α×List T3×Bool}(h:Rv o us bad z)(hz:z.2.2=false):bad=false/\o=some (z.1,z.2.1):=by
 cases hb:bad with
 |true=>subst hb;exact absurd h.bd (by rw[hz];decide)
 |false=>
   refine⟨rfl,?_⟩;rcases h.2.2 hb with⟨_,h⟩|⟨h,_⟩
   · exact h
   · rw[hz]at h;cases h
theorem Rv.bind{f:α×List T3->Option (β×List T3)}{z:α×List T3×Bool}{y:β×List T3×Bool}(h:Rv o us bad z)(h2:Rv (f (z.1,z.2.1)) z.2.1 z.2.2 y):Rv (o.bind f) us bad y:=by
 refine⟨h2.1.trans h.1,fun hb=>h2.2.1 (h.2.1 hb),fun hb=>?_⟩;rcases h.2.2 hb with⟨h3,h4⟩|⟨h3,h4⟩
 · rcases h2.2.2 h3 with⟨h5,h6⟩|⟨h5,h6⟩
   · exact .inl ⟨h5,by rw[h4];exact h6⟩
   · exact .inr ⟨h5,by rw[h4];exact h6⟩
 · exact .inr ⟨h2.2.1 h3,by rw[h4];rfl⟩
theorem Rv.map{f:α×List T3->β×List T3}{z:α×List T3×Bool}(h:Rv o us bad z)(e:(f (z.1,z.2.1)).2=z.2.1):Rv (o.map f) us bad ((f (z.1,z.2.1)).1,z.2.1,z.2.2):=by
 rw[Option.map_eq_bind];refine h.bind ?_;show Rv (some (f (z.1,z.2.1))) _ _ _;rw[show f (z.1,z.2.1)=((f (z.1,z.2.1)).1,z.2.1)from Prod.ext rfl e];exact Rv.pure _
def isRB(k:Int)(s:ByteArray)(us:List T3)(bad:Bool):Bool:= !bad&&isT k s us
def skRB(k:Int)(s:ByteArray)(us:List T3)(bad:Bool):List T3:=if isRB k s us bad then us.tail else us
theorem Z2p{k:Int}{s:ByteArray}(h:isRB k s us bad=true):bad=false/\isT k s us=true:=by
 unfold isRB at h;revert h;cases bad<;>simp
theorem Z1e{k:Int}{s:ByteArray}(h:isRB k s us bad=true):skRB k s us bad=us.tail:=by unfold skRB;rw[if_pos h]
theorem Z19{k:Int}{s:ByteArray}(h:isRB k s us bad=false):skRB k s us bad=us:=by unfold skRB;rw[h];rfl
theorem Z3X{k:Int}{s:ByteArray}:skRB k s us bad<:+us:=by
 unfold skRB;split
 · exact List.tail_suffix us
 · exact List.suffix_refl us
theorem Rv.ite_t{k:Int}{s:ByteArray}{p q:Option (α×List T3)}{z:α×List T3×Bool}(h:isRB k s us bad=true)(hz:Rv p us.tail bad z):Rv (if isT k s us then p else q) us bad z:=by
 rw[if_pos (Z2p h).2];exact⟨hz.1.trans (List.tail_suffix _),hz.2.1,hz.2.2⟩
theorem Rv.ite_f{k:Int}{s:ByteArray}{p q:Option (α×List T3)}{z:α×List T3×Bool}(h:isRB k s us bad=false)(hz:Rv q us bad z):Rv (if isT k s us then p else q) us bad z:=by
 cases bad with
 |true=>exact⟨hz.1,hz.2.1,fun h=>by cases h⟩
 |false=>rw[show isT k s us=false by simpa [isRB] using h];exact hz
theorem Rv.want{k:Int}{s:ByteArray}:Rv (wantP k s us) us bad ((),skRB k s us bad,bad|| !isRB k s us bad):=by
 cases h:isRB k s us bad with
 |true=>
   obtain⟨rfl,h1⟩:=Z2p h;unfold wantP;refine Rv.ite_t h ?_;rw[Z1e h];exact Rv.pure ()
 |false=>
   rw[Z19 h];cases bad with
   |true=>exact Rv.badly (List.suffix_refl _) ()
   |false=>
     unfold wantP;rw[show isT k s us=false by simpa [isRB] using h];exact Rv.none ()
def isKB(k:Int)(us:List T3)(bad:Bool):Bool:= !bad&&isK k us
def pkT(us:List T3)(bad:Bool):T3:=if bad then t3D else us.headD t3D
theorem ZaN{k:Int}(hk:k≠0):((pkT us bad).k==k)=isKB k us bad:=by
 unfold pkT isKB;cases bad with
 |true=>show(((0:Int)==k))=false;rw[beq_eq_false_iff_ne];exact fun h=>hk h.symm
 |false=>
   cases us with
   |nil=>show(((0:Int)==k))=false;rw[beq_eq_false_iff_ne];exact fun h=>hk h.symm
   |cons t r=>rfl
theorem Zf3{k:Int}{s:ByteArray}(hk:k≠0):(((pkT us bad).k==k)&&seq (pkT us bad).t s)=isRB k s us bad:=by
 rw[ZaN hk];unfold isKB isRB pkT;cases bad with
 |true=>rfl
 |false=>
   cases us with
   |nil=>rfl
   |cons t r=>show((t.k==k)&&seq t.t s)=((t.k==k)&&sq t.t s);rw[Z2D]
theorem ZaB{k:Int}(h:isKB k us bad=true):bad=false/\isK k us=true:=by
 unfold isKB at h;revert h;cases bad<;>simp
def skK(k:Int)(us:List T3)(bad:Bool):List T3:=if isKB k us bad then us.tail else us
theorem Rv.take{k:Int}:Rv (takeP k us) us bad ((if isKB k us bad then us.headD t3D else t3D),skK k us bad,bad|| !isKB k us bad):=by
 have e:takeP k us=if isK k us then some (us.headD t3D,us.tail)else Option.none:=by cases us<;>rfl
 cases h:isKB k us bad with
 |true=>
   obtain⟨rfl,h1⟩:=ZaB h;rw[e,if_pos h1];unfold skK;rw[h];exact⟨List.tail_suffix _,id,fun _=>.inl ⟨rfl,rfl⟩⟩
 |false=>
   unfold skK;rw[h];cases bad with
   |true=>exact Rv.badly (List.suffix_refl _) _
   |false=>
     rw[e,show isK k us=false by simpa [isKB] using h];exact Rv.none _
end
end Go.Pz
set_option maxRecDepth 20000
namespace Go.Proofs.YtbedigkncjbggaaGreatDoor
open Go Go.Vc
open Go.Pz
abbrev RB(T:Rk)(b:Nat)(us:List T3)(bad:Bool):Own:=⟨b,Z3t,.is (.agg #[.slice T.ad T.ts.length T.cap,.int .i64 (T.k us:Nat),.bool bad])⟩
theorem ZiO{T:Rk}{us:List T3}{bad:Bool}(hus:us<:+T.ts)(h:(bad||decide ((T.ts.length:Int)<=(T.k us:Nat)))=false):bad=false/\us≠[]:=by
 simp only[Bool.or_eq_false_iff,decide_eq_false_iff_not]at h;refine⟨h.1,fun e=>?_⟩;subst e;apply h.2;show(T.ts.length:Int)<=((T.ts.length-0:Nat):Int)
 omega
theorem ZiI{T:Rk}{us:List T3}{bad:Bool}(hus:us<:+T.ts)(h:(bad||decide ((T.ts.length:Int)<=(T.k us:Nat)))=true):pkT us bad=t3D:=by
 unfold pkT;cases bad with
 |true=>rfl
 |false=>
   simp only[Bool.false_or,decide_eq_true_eq]at h;have hl:=hus.length_le;have:us.length=0:=by
     have:T.ts.length<=T.ts.length-us.length:=by exact_mod_cast h
     by_cases hz:us.length=0
     · exact hz
     · omega
   rw[List.length_eq_zero_iff.1 this];rfl
theorem Zio{T:Rk}{us:List T3}(hs:us<:+T.ts)(h:us≠[]):T.ts[T.k us]? =some (us.headD t3D):=by
 obtain⟨ps,e⟩:=hs;cases us with
 |nil=>exact absurd rfl h
 |cons t r=>
   show T.ts[T.ts.length-(t::r).length]? =some t;rw[<-e];simp
theorem Z9W{T:Rk}{us:List T3}(hs:us<:+T.ts)(h:us≠[]):T.k us<T.ts.length:=by
 have h1:=hs.length_le;have h2:0<us.length:=List.length_pos_iff.2 h;show T.ts.length-us.length<_
 omega
theorem Z5K{T:Rk}{us:List T3}(hs:us<:+T.ts)(h:us≠[]):T.k us.tail=T.k us+1:=by
 have h1:=hs.length_le;have h2:0<us.length:=List.length_pos_iff.2 h;show T.ts.length-us.tail.length=T.ts.length-us.length+1;rw[List.length_tail];omega
theorem Zdi{us:List T3}{bad:Bool}(h:bad=false):pkT us bad=us.headD t3D:=by subst h;rfl
theorem ZhB{k:Int}{s:ByteArray}{us:List T3}{bad:Bool}(h:isRB k s us bad=true):us≠[]:=ZaG (Z2p h).2
theorem ZgU{k:Int}{us:List T3}{bad:Bool}(h:isKB k us bad=true):us≠[]:=Z81 (ZaB h).2
abbrev tkV(t:T3):Value:=.agg (T3.cells t).toArray
abbrev inRK{T:Rk}{us:List T3}(hs:us<:+T.ts)(h:us≠[]):((T.k us:Nat):Int)+1=(T.k us.tail:Nat):=by rw[Z5K hs h];rfl
theorem Z2v(T:Rk)(b0 o0:Nat)(ha:T.ts.length≠0->T.ad=some ⟨b0,o0,none⟩)(h9:T.ts.length<=2049)(b:Nat)(us:List T3)(hus:us<:+T.ts)(bad:Bool):CallL Tryz.prog Z8G [RB T b us bad] [T.G] [.is (.pointer (some ⟨b,0,none⟩))] (fun _:Unit=>True) (fun _=>[RB T b us bad]) (fun _=>.is (tkV (pkT us bad))):=
CallL.of (fn:=Tryz.f126) Tryz.func126 (n:=30) rfl rfl rfl (fun _ _=>by kernel_rfl) fun E W hb0=>by
 refine vQ ?_;refine JO.alloc Z1q rfl fun b2=>(vS [0,2] ?_);refine J.reg0 hmx qK qK ?_;refine yz (Z1 rfl) (yz (Z4 rfl) (yz (Z0 Ze rfl) (yz (Z5 Z1O rfl rfl) (yz (Z1 rfl) (yg rfl rfl rfl (fun hg=>Z1 (.inl rfl)) (yg rfl rfl rfl (fun hg=>Z4 (qR rfl)) ?_))))));refine yg rfl rfl rfl (fun hg=>Z0 ZK (qR rfl)) ?_;refine yg rfl rfl rfl (fun hg=>Z5 Zx (qR rfl) rfl) ?_;refine yg rfl rfl rfl (fun hg=>Z1 (.inl rfl)) (yg rfl rfl rfl (fun hg=>Z4 (qR rfl)) ?_);refine yg rfl rfl rfl (fun hg=>Z0 Z4i (qR rfl)) ?_;refine yg rfl rfl rfl (fun hg=>Z5 ZC (qR rfl) rfl) ?_;refine yg rfl rfl rfl (fun hg=>ZD ZR (qR rfl)) ?_;refine yg rfl rfl rfl (fun hg=>Z47 (qR rfl) (qR rfl)) ?_;refine yz (Zw rfl rfl rfl id) ?_;apply yn;refine FinS.nil0 ?_;refine vS [0,2,18] ?_;refine yC rfl (fun ht18=>?_) (fun ht18=>?_);refine vQ ?_;refine Jq (Zd (cs:=[_,_,_]) Z1b .nil rfl rfl) (JO.m (Z2 rfl rfl qU qC qO ZL) (by rfl) ?_);refine vS [2] ?_;refine vR ?_;exact JX.retLC (Lr:=[_]) rfl () trivial (.swap _ _ _) rfl hb0 rfl ZM HasOwn.mem rfl (by rw[ZiI hus ht18];rfl);apply yK
 repeat first|apply yX|apply yB
 obtain⟨hbd,hne⟩:=ZiO hus ht18;have hlt:=Z9W hus hne;have hkt:=Z5K hus hne;have hk9:T.ts.length<=4096:=by omega
 repeat apply yQ
 refine J.front b2 (by repeat(first|exact .here|apply Front.there)) ?_;refine J.reg1 hmx qK qK ?_;refine yz (Z1 rfl) (yz (Z4 rfl) (yz (Z0 Z4i rfl) (yz (Z5 ZC rfl rfl) (yz (Z1 rfl) (yz (Z4 rfl) (yz (Z0 ZK rfl) (yz (Z5 Zx rfl rfl) (yz (Zi Z1f rfl (ha qM) rfl qM qM) ?_))))))));refine yz (Z3W (enc:=T3.cells) (sz:=3) (i:=T.k us) (y:=us.headD t3D) (cs:=T3.cells (us.headD t3D)) ZM rfl qI (ha qM) (Zio hus hne) qM rfl) ?_;refine RT.m rfl (Z2 rfl rfl qU qC qO ZL) (by rfl) ?_;apply yn;refine FinS.nil1 ?_;refine vS [2] ?_;refine vR ?_;exact JX.retLC (Lr:=[_]) rfl () trivial (.swap _ _ _) rfl hb0 rfl ZM HasOwn.mem rfl (by rw[Zdi hbd])
theorem Z4e(T:Rk)(b0 o0:Nat)(ha:T.ts.length≠0->T.ad=some ⟨b0,o0,none⟩)(h9:T.ts.length<=2049)(b:Nat)(us:List T3)(hus:us<:+T.ts)(bad:Bool)(kd:Int)(hkd:kd≠0)(s:ByteArray):CallL Tryz.prog Z9t [RB T b us bad] [T.G] [.is (.pointer (some ⟨b,0,none⟩)),.is (.int .i64 kd),.is (.string s)] (fun _:Unit=>True) (fun _=>[RB T b (skRB kd s us bad) bad]) (fun _=>.is (.bool (isRB kd s us bad))):=
CallL.of (fn:=Tryz.f72) Tryz.func72 (n:=27) rfl rfl rfl (fun _ _=>by kernel_rfl) fun E W hb0=>by
 refine vQ ?_;refine Ja rfl (vP [0,1,2] ?_);refine Jm rfl (JO.callK (Lr:=[]) (Z2v T b0 o0 ha h9 b (us) (hus) (bad)) rfl (.refl _) qF qA ?_);intro _ _;refine vD ?_;refine JO.alloc Z1q rfl fun b7=>(JO.m (Z2 rfl rfl qU (by exact Zb rfl rfl) (by first|exact Zb rfl rfl|exact ZF) ZL) (by rfl) ?_);refine vS [0,1,2,7] ?_;refine J.reg0 hmx qK qK ?_;refine yz (Z0 Z1i rfl) (yz (Z5 Zx rfl rfl) (yz (Z1 rfl) (yz (ZP rfl rfl) (yz (Z1 rfl) (yg rfl rfl rfl (fun hg=>Z0 Z1x (.inl rfl)) (yg rfl rfl rfl (fun hg=>Z5 Zr (qR rfl) rfl) ?_))))));refine yg rfl rfl rfl (fun hg=>Z1 (.inl rfl)) (yg rfl rfl rfl (fun hg=>Z2g (qR rfl) (qR rfl)) ?_);refine yz (Zl rfl rfl rfl id) ?_;apply yn;refine FinS.nil0 ?_;refine vS [0,19] ?_;refine yC rfl (fun ht19=>?_) (fun ht19=>?_);have hB:isRB kd s us bad=true:=by rw[<-Zf3 hkd];exact ht19
 have hne:=ZhB hB;have hlt:=Z9W hus hne;have hkt:=Z5K hus hne;have hk9:T.ts.length<=4096:=by omega
 refine vQ ?_;refine Jm rfl (Jq (Z4 rfl) (Jq (Z0 ZK rfl) (Jq (Z5 Zx rfl rfl) (Jq (Zv (cc:=(T.k us.tail:Nat)) rfl rfl (inRK hus hne) qM qM) ?_))));refine Jq (Z4 rfl) (Jq (Z0 ZK rfl) (JO.m (Z9 (cs':=[_,_,_]) rfl rfl qU rfl rfl rfl rfl Z29) (by rfl) ?_));apply yI
 repeat first|apply yX|apply yB
 refine yL [] .nil (vQ ?_);refine Ja rfl (vS [6] ?_);refine vR ?_;exact JX.retL1 (Lr:=[_]) rfl () trivial (by rw[Z1e hB];exact .swap _ _ _) rfl rfl hb0 rfl (Sub.isEq (by rw[hB]));apply yK
 repeat first|apply yX|apply yB
 have hB:isRB kd s us bad=false:=by rw[<-Zf3 hkd];exact ht19
 refine vQ ?_;refine Ja rfl (vS [6] ?_);refine vR ?_;exact JX.retL1 (Lr:=[_]) rfl () trivial (by rw[Z19 hB];exact .swap _ _ _) rfl rfl hb0 rfl (Sub.isEq (by rw[hB]))
theorem ZZ(T:Rk)(b0 o0:Nat)(ha:T.ts.length≠0->T.ad=some ⟨b0,o0,none⟩)(h9:T.ts.length<=2049)(b:Nat)(us:List T3)(hus:us<:+T.ts)(bad:Bool)(s:ByteArray):CallL Tryz.prog Z8B [RB T b us bad] [T.G] [.is (.pointer (some ⟨b,0,none⟩)),.is (.string s)] (fun _:Unit=>True) (fun _=>[RB T b (skRB 5 s us bad) bad]) (fun _=>.is (.bool (isRB 5 s us bad))):=
CallL.of (fn:=Tryz.f39) Tryz.func39 (n:=8) rfl rfl rfl (fun _ _=>by kernel_rfl) fun E W hb0=>by
 refine vQ ?_;refine Ja rfl (vP [0,1] ?_);refine Jm rfl (Jm rfl (JO.callK (Lr:=[]) (Z4e T b0 o0 ha h9 b (us) (hus) (bad) 5 qD s) rfl (.refl _) qF qA ?_));intro _ _;refine vD ?_;refine Ja rfl (vS [4] ?_);refine vR ?_;exact JX.retL1 rfl () trivial (.refl _) rfl rfl hb0 rfl (Sub.refl _)
theorem Zg(T:Rk)(b0 o0:Nat)(ha:T.ts.length≠0->T.ad=some ⟨b0,o0,none⟩)(h9:T.ts.length<=2049)(b:Nat)(us:List T3)(hus:us<:+T.ts)(bad:Bool)(s:ByteArray):CallL Tryz.prog Z8p [RB T b us bad] [T.G] [.is (.pointer (some ⟨b,0,none⟩)),.is (.string s)] (fun _:Unit=>True) (fun _=>[RB T b (skRB 1 s us bad) bad]) (fun _=>.is (.bool (isRB 1 s us bad))):=
CallL.of (fn:=Tryz.f31) Tryz.func31 (n:=8) rfl rfl rfl (fun _ _=>by kernel_rfl) fun E W hb0=>by
 refine vQ ?_;refine Ja rfl (vP [0,1] ?_);refine Jm rfl (Jm rfl (JO.callK (Lr:=[]) (Z4e T b0 o0 ha h9 b (us) (hus) (bad) 1 qD s) rfl (.refl _) qF qA ?_));intro _ _;refine vD ?_;refine Ja rfl (vS [4] ?_);refine vR ?_;exact JX.retL1 rfl () trivial (.refl _) rfl rfl hb0 rfl (Sub.refl _)
theorem Zh(T:Rk)(b0 o0:Nat)(ha:T.ts.length≠0->T.ad=some ⟨b0,o0,none⟩)(h9:T.ts.length<=2049)(b:Nat)(us:List T3)(hus:us<:+T.ts)(bad:Bool)(kd:Int)(hkd:kd≠0)(s:ByteArray):CallL Tryz.prog Z8A [RB T b us bad] [T.G] [.is (.pointer (some ⟨b,0,none⟩)),.is (.int .i64 kd),.is (.string s)] (fun z:Unit×List T3×Bool=>Rv (wantP kd s us) us bad z) (fun z=>[RB T b z.2.1 z.2.2]) (fun z=>.is (.tuple #[])):=
CallL.of (fn:=Tryz.f36) Tryz.func36 (n:=14) rfl rfl rfl (fun _ _=>by kernel_rfl) fun E W hb0=>by
 refine vQ ?_;refine Jm rfl (Jm rfl (Jm rfl (JO.callK (Lr:=[]) (Z4e T b0 o0 ha h9 b (us) (hus) (bad) kd hkd s) rfl (.refl _) qF qA ?_)));intro _ _;refine vD ?_;refine Jq (Z22 rfl) (vS [0,10] ?_);refine yC rfl (fun ht10=>?_) (fun ht10=>?_);have hr:=Rv.want (us:=us) (bad:=bad) (k:=kd) (s:=s);rw[show(bad|| !isRB kd s us bad)=true by rw[ht10,Bool.or_true]]at hr;refine vQ ?_;refine Jm rfl (Jq (Z4 rfl) (Jq (Z0 Ze rfl) (JO.m (Z9 (cs':=[_,_,_]) rfl rfl qU rfl rfl rfl rfl Z1A) (by rfl) ?_)));apply yI;refine JX.normal_ret ?_;exact JX.retL0 rfl ((),skRB kd s us bad,_) (by first|exact hr|(have hr:=Rv.want (us:=us) (bad:=bad) (k:=kd) (s:=s);rw[show(bad|| !isRB kd s us bad)=bad by rw[ht10,Bool.or_false]]at hr;exact hr)) (.refl _) rfl hb0 rfl;apply yK;refine JX.normal_ret ?_;exact JX.retL0 rfl ((),skRB kd s us bad,_) (by first|exact hr|(have hr:=Rv.want (us:=us) (bad:=bad) (k:=kd) (s:=s);rw[show(bad|| !isRB kd s us bad)=bad by rw[ht10,Bool.or_false]]at hr;exact hr)) (.refl _) rfl hb0 rfl
theorem Z5B(T:Rk)(b0 o0:Nat)(ha:T.ts.length≠0->T.ad=some ⟨b0,o0,none⟩)(h9:T.ts.length<=2049)(b:Nat)(us:List T3)(hus:us<:+T.ts)(bad:Bool)(kd:Int)(hkd:kd≠0):CallL Tryz.prog Z8Z [RB T b us bad] [T.G] [.is (.pointer (some ⟨b,0,none⟩)),.is (.int .i64 kd)] (fun z:T3×List T3×Bool=>Rv (takeP kd us) us bad z) (fun z=>[RB T b z.2.1 z.2.2]) (fun z=>.is (tkV z.1)):=
CallL.of (fn:=Tryz.f79) Tryz.func79 (n:=24) rfl rfl rfl (fun _ _=>by kernel_rfl) fun E W hb0=>by
 refine vQ ?_;refine JO.alloc Z1q rfl fun b4=>(vP [0,1,4] ?_);refine Jm rfl (JO.callK (Lr:=[_]) (Z2v T b0 o0 ha h9 b (us) (hus) (bad)) rfl (.swap _ _ _) qF qA ?_);intro _ _;refine vD ?_;refine JO.alloc Z1q rfl fun b5=>(JO.m (Z2 rfl rfl qU (by exact Zb rfl rfl) (by first|exact Zb rfl rfl|exact ZF) ZL) (by rfl) ?_);refine vP [0,1,4,5] ?_;refine Jq (Z0 Z1i rfl) (Jq (Z5 Zx rfl rfl) (Jm rfl (Jq (Z28 rfl rfl) (vS [0,4,5,11] ?_))));refine yC rfl (fun ht11=>?_) (fun ht11=>?_);have hB:isKB kd us bad=false:=by rw[<-ZaN hkd];simpa using ht11
 have hr:=Rv.take (us:=us) (bad:=bad) (k:=kd);unfold skK at hr;rw[hB]at hr;simp only[Bool.false_eq_true,if_false,Bool.not_false,Bool.or_true]at hr;refine vQ ?_;refine Jm rfl (Jq (Z4 rfl) (Jq (Z0 Ze rfl) (JO.m (Z9 (cs':=[_,_,_]) rfl rfl qU rfl rfl rfl rfl Z1A) (by rfl) ?_)));refine vP [4] ?_;refine Jq (Zd (cs:=[_,_,_]) Z1b .nil rfl rfl) (JO.m (Z2 rfl rfl qU (by exact Zb rfl rfl) (by first|exact Zb rfl rfl|exact ZF) ZL) (by rfl) ?_);refine vS [4] ?_;refine vR ?_;exact JX.retLC (Lr:=[_,_]) rfl ((t3D,us,true)) (hr) (qP) rfl hb0 rfl ZM HasOwn.mem rfl rfl;apply yK
 repeat first|apply yX|apply yB
 have hB:isKB kd us bad=true:=by rw[<-ZaN hkd];simpa using ht11
 have hne:=ZgU hB;have hlt:=Z9W hus hne;have hkt:=Z5K hus hne;have hk9:T.ts.length<=4096:=by omega
 have hr:=Rv.take (us:=us) (bad:=bad) (k:=kd);unfold skK at hr;rw[hB]at hr;simp only[if_true,Bool.not_true,Bool.or_false]at hr;rw[<-Zdi (ZaB hB).1]at hr;refine vQ ?_;refine Jm rfl (Jq (Z4 rfl) (Jq (Z0 ZK rfl) (Jq (Z5 Zx rfl rfl) (Jq (Zv (cc:=(T.k us.tail:Nat)) rfl rfl (inRK hus hne) qM qM) ?_))));refine Jq (Z4 rfl) (Jq (Z0 ZK rfl) (JO.m (Z9 (cs':=[_,_,_]) rfl rfl qU rfl rfl rfl rfl Z29) (by rfl) ?_));refine vP [4,5] ?_;refine Jq (ZU (cs:=[_,_,_]) ZM rfl rfl rfl) (JO.m (Z2 rfl rfl qU (by exact Zb rfl rfl) (by first|exact Zb rfl rfl|exact ZF) ZL) (by rfl) ?_);refine vS [4] ?_;refine vR ?_;exact JX.retLC (Lr:=[_,_]) rfl ((pkT us bad,us.tail,bad)) (hr) (qP) rfl hb0 rfl ZM HasOwn.mem rfl rfl
theorem ZY(T:Rk)(b0 o0:Nat)(ha:T.ts.length≠0->T.ad=some ⟨b0,o0,none⟩)(h9:T.ts.length<=2049)(b:Nat)(us:List T3)(hus:us<:+T.ts)(bad:Bool):CallL Tryz.prog Z8k [RB T b us bad] [T.G] [.is (.pointer (some ⟨b,0,none⟩))] (fun z:ByteArray×List T3×Bool=>Rv (nameP us) us bad z) (fun z=>[RB T b z.2.1 z.2.2]) (fun z=>.is (.string z.1)):=
CallL.of (fn:=Tryz.f37) Tryz.func37 (n:=6) rfl rfl rfl (fun _ _=>by kernel_rfl) fun E W hb0=>by
 refine vQ ?_;refine Ja rfl (vP [0] ?_);refine Jm rfl (JO.callK (Lr:=[]) (Z5B T b0 o0 ha h9 b (us) (hus) (bad) 2 qD) rfl (.refl _) qF qA ?_);intro z hz;refine vD ?_;refine Jq (Z4l (off:=1) qK rfl rfl) ?_;refine Ja rfl (vS [2] ?_);refine vR ?_;exact JX.retL1 rfl (z.1.t,z.2.1,z.2.2) (by unfold nameP;exact hz.map rfl) (.refl _) rfl rfl hb0 rfl (Sub.refl _)
section
variable{us:List T3}{bad:Bool}
theorem Zh3(h:isRB 1 Z7q us bad=true):Rv (typeP us) us bad (1,us.tail,bad):=by
 unfold typeP;exact Rv.ite_t h (.pure _)
theorem Zhf(h:isRB 1 Z7q us bad=false)(h2:isRB 1 Z6K us bad=true):Rv (typeP us) us bad (2,us.tail,bad):=by
 unfold typeP;exact Rv.ite_f h (Rv.ite_t h2 (.pure _))
theorem ZhH(h:isRB 1 Z7q us bad=false)(h2:isRB 1 Z6K us bad=false)(h3:isRB 1 Z7X us bad=true):Rv (typeP us) us bad (3,us.tail,bad):=by
 unfold typeP;exact Rv.ite_f h (Rv.ite_f h2 (Rv.ite_t h3 (.pure _)))
theorem Zhr(h:isRB 1 Z7q us bad=false)(h2:isRB 1 Z6K us bad=false)(h3:isRB 1 Z7X us bad=false):Rv (typeP us) us bad (0,us,true):=by
 unfold typeP;exact Rv.ite_f h (Rv.ite_f h2 (Rv.ite_f h3 (.none _)))
end
theorem Z7o(T:Rk)(b0 o0:Nat)(ha:T.ts.length≠0->T.ad=some ⟨b0,o0,none⟩)(h9:T.ts.length<=2049)(b:Nat)(us:List T3)(hus:us<:+T.ts)(bad:Bool):CallL Tryz.prog Z7l [RB T b us bad] [T.G] [.is (.pointer (some ⟨b,0,none⟩))] (fun z:Col×List T3×Bool=>Rv (colR us) us bad z) (fun z=>[RB T b z.2.1 z.2.2]) (fun z=>.is (.agg z.1.cells.toArray)):=
CallL.of (fn:=Tryz.f73) Tryz.func73 (n:=37) rfl rfl rfl (fun _ _=>by kernel_rfl) fun E W hb0=>by
 refine vQ ?_;refine JO.alloc Z50 rfl fun b2=>(vP [0,2] ?_);refine Jm rfl ?_;refine JO.callK (Lr:=[_]) (ZY T b0 o0 ha h9 b _ ?hs _) rfl qP qF qA ?_
 case hs=>exact qW
 intro z hz;refine vD ?_;refine Jq (Zd (cs:=[_,_,_,_]) Z9i (.cons rfl .nil) rfl rfl) (JO.alloc Z50 rfl fun b3=>(JO.m (Z2 rfl rfl qU (by exact Zb rfl rfl) (by first|exact Zb rfl rfl|exact ZF) Z33) (by rfl) ?_));refine vS [0,2,3] ?_;refine J.cutZN (fun x:Int×List T3×Bool=>[(0,.is (.pointer (some ⟨b,0,none⟩))),(2,.is (.pointer (some ⟨b2,0,none⟩))),(3,.is (.pointer (some ⟨b3,0,none⟩)))]) (fun x:Int×List T3×Bool=>RB T b x.2.1 x.2.2::⟨b3,Z1l,.is (.agg #[.string z.1,.int .i64 (x.1),.bool false,.bool false])⟩::⟨b2,Z1l,.is (.agg #[.string ⟨#[]⟩,.int .i64 0,.bool false,.bool false])⟩::[]) (fun x:Int×List T3×Bool=>Rv (typeP z.2.1) z.2.1 z.2.2 x) ?_ ?_
 · apply yk
   refine J.front b (by repeat(first|exact .here|apply Front.there)) ?_;refine vQ ?_;refine Jm rfl ?_;refine JO.callK (Lr:=_) (Zg T b0 o0 ha h9 b _ ?hs _ Z7q) rfl (.refl _) qF qA ?_
   case hs=>exact hz.suf.trans hus
   intro _ _;refine vD ?_;refine Ja rfl (vS [0,2,3,10] ?_);refine yC rfl (fun ht10=>?_) (fun ht10=>?_);rw[Z1e ht10];refine vQ ?_;refine Jq (Z0 Z2F rfl) (JO.m (Z9 (cs':=[_,_,_,_]) rfl rfl qU rfl rfl rfl rfl Z29) (by rfl) ?_);apply yI
   repeat refine JX.normal_block ?_
   refine JX.midZ ((1,z.2.1.tail,z.2.2)) ?_ [0,2,3] ?_ ?_ ?_
   · exact Zh3 ht10
   · exact qS
   · exact qH
   · exact qG
   rw[Z19 ht10];refine vQ ?_;refine Jm rfl ?_;refine JO.callK (Lr:=_) (Zg T b0 o0 ha h9 b _ ?hs _ Z6K) rfl (.refl _) qF qA ?_
   case hs=>exact hz.suf.trans hus
   intro _ _;refine vD ?_;refine Ja rfl (vS [0,2,3,14] ?_);refine yC rfl (fun ht14=>?_) (fun ht14=>?_);rw[Z1e ht14];refine vQ ?_;refine Jq (Z0 Z2F rfl) (JO.m (Z9 (cs':=[_,_,_,_]) rfl rfl qU rfl rfl rfl rfl Z29) (by rfl) ?_);apply yI
   repeat refine JX.normal_block ?_
   refine JX.midZ ((2,z.2.1.tail,z.2.2)) ?_ [0,2,3] ?_ ?_ ?_
   · exact Zhf ht10 ht14
   · exact qS
   · exact qH
   · exact qG
   rw[Z19 ht14];refine vQ ?_;refine Jm rfl ?_;refine JO.callK (Lr:=_) (Zg T b0 o0 ha h9 b _ ?hs _ Z7X) rfl (.refl _) qF qA ?_
   case hs=>exact hz.suf.trans hus
   intro _ _;refine vD ?_;refine Ja rfl (vS [0,2,3,18] ?_);refine yC rfl (fun ht18=>?_) (fun ht18=>?_);rw[Z1e ht18];refine vQ ?_;refine Jq (Z0 Z2F rfl) (JO.m (Z9 (cs':=[_,_,_,_]) rfl rfl qU rfl rfl rfl rfl Z29) (by rfl) ?_);apply yI
   repeat refine JX.normal_block ?_
   refine JX.midZ ((3,z.2.1.tail,z.2.2)) ?_ [0,2,3] ?_ ?_ ?_
   · exact ZhH ht10 ht14 ht18
   · exact qS
   · exact qH
   · exact qG
   rw[Z19 ht18];refine vQ ?_;refine Jm rfl (Jq (Z4 rfl) (Jq (Z0 Ze rfl) (JO.m (Z9 (cs':=[_,_,_]) rfl rfl qU rfl rfl rfl rfl Z1A) (by rfl) ?_)));apply yI
   repeat refine JX.normal_block ?_
   refine JX.midZ ((0,z.2.1,true)) ?_ [0,2,3] ?_ ?_ ?_
   · exact Zhr ht10 ht14 ht18
   · exact qS
   · exact qH
   · exact qG
 · intro⟨tp,u1,d1⟩ htp
   try dsimp only
   refine vQ ?_;refine Jm rfl ?_;refine JO.callK (Lr:=_) (Zg T b0 o0 ha h9 b _ ?hs _ Z1d) rfl (.refl _) qF qA ?_
   case hs=>exact htp.suf.trans (hz.suf.trans hus)
   intro _ _;refine vD ?_;refine vS [0,2,3,23] ?_;refine J.cutZN (fun x:Bool×List T3×Bool=>[(0,.is (.pointer (some ⟨b,0,none⟩))),(2,.is (.pointer (some ⟨b2,0,none⟩))),(3,.is (.pointer (some ⟨b3,0,none⟩)))]) (fun x:Bool×List T3×Bool=>RB T b x.2.1 x.2.2::⟨b3,Z1l,.is (.agg #[.string z.1,.int .i64 (tp),.bool x.1,.bool false])⟩::⟨b2,Z1l,.is (.agg #[.string ⟨#[]⟩,.int .i64 0,.bool false,.bool false])⟩::[]) (fun x:Bool×List T3×Bool=>x.2.1<:+us/\ ∀y:Col×List T3×Bool,Rv (colEndR z.1 tp x.1 x.2.1) x.2.1 x.2.2 y->Rv (colR us) us bad y) ?_ ?_
   · refine yC rfl (fun ht23=>?_) (fun ht23=>?_)
     rw[Z1e ht23];refine vQ ?_;refine Jm rfl ?_;refine JO.callK (Lr:=_) (Zh T b0 o0 ha h9 b _ ?hs _ 1 qD Z1M) rfl (.refl _) qF qA ?_
     case hs=>exact(List.tail_suffix _).trans (htp.suf.trans (hz.suf.trans hus))
     intro z25 hz25;refine vD ?_;refine vP [0,2,3] ?_;refine Jq (Z0 Z3D rfl) (JO.m (Z9 (cs':=[_,_,_,_]) rfl rfl qU rfl rfl rfl rfl Z1A) (by rfl) ?_);apply yI;refine JX.midZ ((true,z25.2.1,z25.2.2)) ?_ [0,2,3] ?_ ?_ ?_
     · exact⟨hz25.suf.trans ((List.tail_suffix _).trans (htp.suf.trans hz.suf)),fun y hy=>(by unfold colR;exact hz.bind (htp.bind (Rv.ite_t ht23 (hz25.bind hy))))⟩
     · exact qS
     · exact qH
     · exact qG
     apply yK;rw[Z19 ht23];refine JX.midZ ((false,u1,d1)) ?_ [0,2,3] ?_ ?_ ?_
     · exact⟨htp.suf.trans hz.suf,fun y hy=>(by unfold colR;exact hz.bind (htp.bind (Rv.ite_f ht23 hy)))⟩
     · exact qS
     · exact qH
     · exact qG
   · intro⟨nn,u2,d2⟩ ⟨hu2,hJ⟩
     try dsimp only
     try dsimp only at hu2 hJ
     refine vQ ?_;refine Jm rfl ?_;refine JO.callK (Lr:=_) (Zg T b0 o0 ha h9 b _ ?hs _ Z3l) rfl (.refl _) qF qA ?_
     case hs=>exact hu2.trans hus
     intro _ _;refine vD ?_;refine vS [0,2,3,28] ?_;refine J.cutZN (fun x:(Bool×Bool)×List T3×Bool=>[(2,.is (.pointer (some ⟨b2,0,none⟩))),(3,.is (.pointer (some ⟨b3,0,none⟩)))]) (fun x:(Bool×Bool)×List T3×Bool=>RB T b x.2.1 x.2.2::⟨b3,Z1l,.is (.agg #[.string z.1,.int .i64 (tp),.bool x.1.1,.bool x.1.2])⟩::⟨b2,Z1l,.is (.agg #[.string ⟨#[]⟩,.int .i64 0,.bool false,.bool false])⟩::[]) (fun x:(Bool×Bool)×List T3×Bool=>Rv (colEndR z.1 tp nn u2) u2 d2 (⟨z.1,tp,x.1.1,x.1.2⟩,x.2.1,x.2.2)) ?_ ?_
     · refine yC rfl (fun ht28=>?_) (fun ht28=>?_)
       rw[Z1e ht28];refine vQ ?_;refine Jq (Z0 Z2U rfl) (JO.m (Z9 (cs':=[_,_,_,_]) rfl rfl qU rfl rfl rfl rfl Z1A) (by rfl) ?_);apply yI;refine JX.midZ (((nn,true),u2.tail,d2)) ?_ [2,3] ?_ ?_ ?_
       · exact(by unfold colEndR;exact Rv.ite_t ht28 (.pure _))
       · exact qS
       · exact qH
       · exact qG
       rw[Z19 ht28];refine vQ ?_;refine Jm rfl ?_;refine JO.callK (Lr:=_) (Zg T b0 o0 ha h9 b _ ?hs _ Z3f) rfl (.refl _) qF qA ?_
       case hs=>exact hu2.trans hus
       intro _ _;refine vD ?_;refine vS [0,2,3,31] ?_;refine yC rfl (fun ht31=>?_) (fun ht31=>?_);rw[Z1e ht31];refine vQ ?_;refine Jm rfl ?_;refine JO.callK (Lr:=_) (Zh T b0 o0 ha h9 b _ ?hs _ 1 qD Zax) rfl (.refl _) qF qA ?_
       case hs=>exact(List.tail_suffix _).trans (hu2.trans hus)
       intro z33 hz33;refine vD ?_;refine vP [2,3] ?_;refine Jq (Z0 Z3D rfl) (JO.m (Z9 (cs':=[_,_,_,_]) rfl rfl qU rfl rfl rfl rfl Z1A) (by rfl) ?_);refine vP [2,3] ?_;refine Jq (Z0 Z2U rfl) (JO.m (Z9 (cs':=[_,_,_,_]) rfl rfl qU rfl rfl rfl rfl Z1A) (by rfl) ?_);apply yI;refine JX.midZ (((true,true),z33.2.1,z33.2.2)) ?_ [2,3] ?_ ?_ ?_
       · exact(by unfold colEndR;exact Rv.ite_f ht28 (Rv.ite_t ht31 (Rv.map (f:=fun v:Unit×List T3=>((⟨z.1,tp,true,true⟩:Col),v.2)) hz33 rfl)))
       · exact qS
       · exact qH
       · exact qG
       apply yK;rw[Z19 ht31];refine JX.midZ (((nn,false),u2,d2)) ?_ [2,3] ?_ ?_ ?_
       · exact(by unfold colEndR;exact Rv.ite_f ht28 (Rv.ite_f ht31 (.pure _)))
       · exact qS
       · exact qH
       · exact qG
     · intro⟨⟨n3,q3⟩,u3,d3⟩ hce
       try dsimp only
       try dsimp only at hce
       refine vQ ?_;refine Jq (ZU (cs:=[_,_,_,_]) Z1Q rfl rfl rfl) (JO.m (Z2 rfl rfl qU (by exact Zb rfl rfl) (by first|exact Zb rfl rfl|exact ZF) Z33) (by rfl) ?_);refine vS [2] ?_;refine vR ?_;exact JX.retLC (Lr:=[_,_]) rfl ((⟨z.1,tp,n3,q3⟩:Col),u3,d3) (hJ _ hce) qP rfl hb0 rfl Z1Q HasOwn.mem rfl rfl
end Go.Proofs.YtbedigkncjbggaaGreatDoor
