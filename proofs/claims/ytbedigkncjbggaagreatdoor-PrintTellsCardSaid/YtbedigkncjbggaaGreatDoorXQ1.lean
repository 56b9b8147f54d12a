/- What the program reads of tokens: its grammar, in plain words. No condition. -/
import Derived.Test.YtbedigkncjbggaaGreatDoorXG3
namespace Go.Vc
open Go
abbrev yX:=@JX.next
abbrev yB:=@JX.normal_block
abbrev yP:=@JX.ret_pass
abbrev yR:=@JX.ret_block
abbrev yH:=@JX.hit
abbrev yM:=@JX.miss
abbrev yE:=@JX.exit_pass
abbrev yQ:=@J.seq
abbrev yN:=@J.plain
abbrev yI:=@JO.nil
abbrev yh:=@List.mem_cons_self
abbrev yx:=@List.mem_cons_of_mem
abbrev yc:=@List.mem_cons
theorem yd{p:Prop}[Decidable p]:(decide p=true)=p:=decide_eq_true_eq
theorem yf{p:Prop}[Decidable p]:(decide p=false)↔ ¬p:=decide_eq_false_iff_not
theorem ya{α:Type _}{l:List α}:[]++l=l:=rfl
theorem yb{α:Type _}{a:α}{l k:List α}:(a::l)++k=a::(l++k):=rfl
abbrev yU:=@Upd.there
abbrev yi:=@Zh
abbrev ye:=@Zm4
abbrev yo:=@Zjm
abbrev yJ:=@JO.t
abbrev yL:=@J.sel
abbrev yC:=@J.cond
abbrev yT:=@J.ret
abbrev yK:=@J.skip
abbrev yk:=@J.block
abbrev yn:=@RT.nil
abbrev yz:=@RT.t
abbrev yg:=@RT.g
end Go.Vc
namespace Go.Vc
open Go
theorem qF{p:Prop}(h:p:=by intro F hF;repeat(first|(rcases yc.1 hF with rfl|hF;· (repeat first|exact yh|apply yx))|(cases hF;done))):p:=h
theorem qI{p:Prop}(h:p:=by repeat first|exact yh|apply yx):p:=h
theorem qU{p:Prop}(h:p:=by repeat first|exact .here|apply yU):p:=h
theorem qC{p:Prop}(h:p:=by first|exact yi rfl rfl|exact ye):p:=h
theorem qO{p:Prop}(h:p:=by first|exact yi rfl rfl|exact ye|exact yo):p:=h
theorem qM{p:Prop}(h:p:=by omega):p:=h
theorem qD{p:Prop}(h:p:=by decide):p:=h
theorem qX{p:Prop}(h:p:=by first|(simp[binR, *];done)|(simp[binG, *];done)|(simp[opOf, *];done)|simp[binR,binG,opOf, *]):p:=h
theorem qN{p:Prop}(h:p:=by assumption):p:=h
theorem qP{p:Prop}(h:p:=by first|exact List.Perm.refl _|exact List.perm_middle (l₁:=[])|exact List.perm_middle (l₁:=[_])|exact List.perm_middle (l₁:=[_,_])|exact List.perm_middle (l₁:=[_,_,_])|exact List.perm_middle (l₁:=[_,_,_,_])):p:=h
theorem qW{p:Prop}(h:p:=by first|exact hus|(refine List.IsSuffix.trans ?_ hus;(repeat(first|exact List.suffix_refl _|assumption|exact Rv.suf (by assumption)|exact InvW.suf (by assumption)|exact Z4i|(refine List.IsSuffix.trans Z4i ?_)|(refine List.IsSuffix.trans (List.tail_suffix _) ?_)|(refine List.IsSuffix.trans (Rv.suf (by assumption)) ?_)|(refine List.IsSuffix.trans (InvW.suf (by assumption)) ?_))))):p:=h
theorem vD{G H:Prop}(n:H)(h:H->G:=by intro n;(try dsimp only[ya,yb]);exact n):G:=h n
theorem qK{p:Prop}(h:p:=by kernel_rfl):p:=h
theorem yV{p:Prop}(h:p:=by repeat first|exact .here|apply Tl.past|apply Tl.there):p:=h
theorem qS{p:Prop}(h:p:=by repeat first|exact .nil|apply Sel.cons rfl):p:=h
theorem qA{p:Prop}(h:p:=by repeat first|exact .nil|apply Args.one rfl):p:=h
theorem qG{p:Prop}(h:p:=by exact fun G hG=>by repeat(first|exact hG|refine List.mem_cons_of_mem _ ?_)):p:=h
theorem qH{p:Prop}(h:p:=by repeat(first|exact .all|exact .nil|refine Has.own (by repeat first|exact .here|apply Tl.past|apply Tl.there) ?_|refine Has.cons (by repeat(first|exact .here|apply Pk.past|apply Pk.there)) ?_)):p:=h
theorem qB{p:Prop}(h:p:=by repeat(first|exact .slnil|exact List.Sublist.refl _|apply List.Sublist.cons_cons|apply List.Sublist.cons)):p:=h
theorem qR{π:Prop}{K:List (Nat×Ty)}{x:Operand}{T:Ty}(h:opTy K x=some (.opt π T)):KnG π K x T:=.inr ⟨_,h,fun h=>h⟩
def yG(_:List Nat):Prop:=True
section
variable{P:Program}{c:Ctx}{K K0:List (Nat×Ty)}{L:List Own}{Φ:List (World->Prop)}{x:Code}{Q:Exit->Act->World->Prop}{ops:Array Oper}{rest:List Oper}{op:Op}{d:Nat}{ty:TypeId}{pos:String}{after:Array Edge}{T:Ty}{u:Operand}
theorem yS{s:List Nat}(_:yG s)(h:Sel K s K0)(hj:J P c K0 L Φ x Q):J P c K L Φ x Q:=J.sel s h hj
theorem Jq(h:Ob P L Φ (Kn K) ⟨some d,op,ty,pos,after,none⟩ T)(n:JO P c ((d,T)::K) L Φ ops rest Q)(hd:Nat.blt d c.n=true:=by exact rfl):JO P c K L Φ ops (⟨some d,op,ty,pos,after,none⟩::rest) Q:=JO.t h hd n
theorem Jm(h:Kn K u T)(n:JO P c ((d,T)::K) L Φ ops rest Q)(hd:Nat.blt d c.n=true:=by exact rfl):JO P c K L Φ ops (⟨some d,.move u,ty,pos,after,none⟩::rest) Q:=JO.t (Z2 h) hd n
theorem Ja(h:Kn K u T)(n:JO P c ((d,T)::K) L Φ ops rest Q)(hd:Nat.blt d c.n=true:=by exact rfl):JO P c K L Φ ops (⟨some d,.assign u,ty,pos,after,none⟩::rest) Q:=JO.t (Z15 h) hd n
end
theorem vN{G H:Prop}(n:H)(h:H->G:=by intro n;(repeat first|apply yI|apply yX|apply yB);(repeat apply yQ);exact n):G:=h n
theorem vS(s:List Nat){G H:Prop}(n:H)(h:yG s->H->G:=by intro t n;(repeat first|apply yI|apply yX|apply yB);refine yS t (by repeat first|exact .nil|apply Sel.cons rfl) ?_;(repeat apply yQ);exact n):G:=h trivial n
theorem vP(s:List Nat){G H:Prop}(n:H)(h:yG s->H->G:=by intro t n;(repeat first|apply yI|apply yX|apply yB);refine yS t (by repeat first|exact .nil|apply Sel.cons rfl) ?_;(repeat apply yQ);apply yN;exact n):G:=h trivial n
theorem vR{G H:Prop}(n:H)(h:H->G:=by intro n;(repeat apply yQ);apply yT;(repeat first|apply yP|apply yR);exact n):G:=h n
theorem vQ{G H:Prop}(n:H)(h:H->G:=by intro n;(repeat apply yQ);apply yN;exact n):G:=h n
end Go.Vc
namespace Go.Vc
open Go
theorem qZ{p:Prop}(h:p:=by first|decide|(simp only[Z1O,List.length_append,List.length_cons,List.length_nil];omega)|omega|(simp only[Z1O,List.length_append,List.length_cons,List.length_nil]at*;omega)):p:=h
end Go.Vc
namespace Go.Pz
open Go Go.Vc
abbrev w_OR:ByteArray:=⟨#[79,82]⟩
abbrev Z22:ByteArray:=⟨#[65,78,68]⟩
abbrev Z1c:ByteArray:=⟨#[78,79,84]⟩
abbrev w_IS:ByteArray:=⟨#[73,83]⟩
abbrev Z1v:ByteArray:=⟨#[78,85,76,76]⟩
abbrev Z5j:ByteArray:=⟨#[84,82,85,69]⟩
abbrev Z4B:ByteArray:=⟨#[70,65,76,83,69]⟩
abbrev Z2E:ByteArray:=⟨#[67,79,85,78,84]⟩
abbrev Z53:ByteArray:=⟨#[83,85,77]⟩
abbrev Z5r:ByteArray:=⟨#[77,73,78]⟩
abbrev Z5M:ByteArray:=⟨#[77,65,88]⟩
abbrev ZcX:ByteArray:=⟨#[84,65,66,76,69]⟩
abbrev ZcV:ByteArray:=⟨#[73,78,68,69,88]⟩
abbrev w_ON:ByteArray:=⟨#[79,78]⟩
abbrev Zcv:ByteArray:=⟨#[85,83,73,78,71]⟩
abbrev ZeO:ByteArray:=⟨#[72,65,83,72]⟩
abbrev Z9E:ByteArray:=⟨#[73,78,84]⟩
abbrev Z96:ByteArray:=⟨#[66,79,79,76]⟩
abbrev Zam:ByteArray:=⟨#[84,69,88,84]⟩
abbrev Z6J:ByteArray:=⟨#[80,82,73,77,65,82,89]⟩
abbrev ZgE:ByteArray:=⟨#[75,69,89]⟩
abbrev Z6o:ByteArray:=⟨#[85,78,73,81,85,69]⟩
abbrev Zfs:ByteArray:=⟨#[73,78,84,79]⟩
abbrev Z9q:ByteArray:=⟨#[86,65,76,85,69,83]⟩
abbrev Z6E:ByteArray:=⟨#[70,82,79,77]⟩
abbrev ZW:ByteArray:=⟨#[73,78,78,69,82]⟩
abbrev Z3c:ByteArray:=⟨#[74,79,73,78]⟩
abbrev Z91:ByteArray:=⟨#[87,72,69,82,69]⟩
abbrev Z5C:ByteArray:=⟨#[71,82,79,85,80]⟩
abbrev w_BY:ByteArray:=⟨#[66,89]⟩
abbrev Z4X:ByteArray:=⟨#[79,82,68,69,82]⟩
abbrev Z6a:ByteArray:=⟨#[76,73,77,73,84]⟩
abbrev Z55:ByteArray:=⟨#[65,83,67]⟩
abbrev Z4s:ByteArray:=⟨#[68,69,83,67]⟩
abbrev w_AS:ByteArray:=⟨#[65,83]⟩
abbrev ZgW:ByteArray:=⟨#[83,69,84]⟩
abbrev Z7u:ByteArray:=⟨#[67,82,69,65,84,69]⟩
abbrev Z7s:ByteArray:=⟨#[73,78,83,69,82,84]⟩
abbrev Z40:ByteArray:=⟨#[83,69,76,69,67,84]⟩
abbrev Z7A:ByteArray:=⟨#[85,80,68,65,84,69]⟩
abbrev Z7x:ByteArray:=⟨#[68,69,76,69,84,69]⟩
abbrev Z9a:ByteArray:=⟨#[66,69,71,73,78]⟩
abbrev Z7y:ByteArray:=⟨#[67,79,77,77,73,84]⟩
abbrev Z5L:ByteArray:=⟨#[82,79,76,76,66,65,67,75]⟩
abbrev s_lp:ByteArray:=⟨#[40]⟩
abbrev s_rp:ByteArray:=⟨#[41]⟩
abbrev ZU:ByteArray:=⟨#[44]⟩
abbrev Z5d:ByteArray:=⟨#[59]⟩
abbrev Z1g:ByteArray:=⟨#[42]⟩
abbrev Z30:ByteArray:=⟨#[43]⟩
abbrev Z1s:ByteArray:=⟨#[45]⟩
abbrev Z2F:ByteArray:=⟨#[47]⟩
abbrev Z3E:ByteArray:=⟨#[37]⟩
abbrev s_eq:ByteArray:=⟨#[61]⟩
abbrev s_ne:ByteArray:=⟨#[60,62]⟩
abbrev s_lt:ByteArray:=⟨#[60]⟩
abbrev s_le:ByteArray:=⟨#[60,61]⟩
abbrev s_gt:ByteArray:=⟨#[62]⟩
abbrev s_ge:ByteArray:=⟨#[62,61]⟩
abbrev Z5p:ByteArray:=⟨#[46]⟩
def sq(a b:ByteArray):Bool:=a.data.toList==b.data.toList
theorem Z1G(a b:ByteArray):seq a b=sq a b:=by unfold seq sq;rw[ByteArray.toList_eq,ByteArray.toList_eq]
abbrev Ps(α:Type):=List T3->Option (α×List T3)
def isT(k:Int)(s:ByteArray):List T3->Bool
 |t::_=>(t.k==k)&&sq t.t s
 |[]=>false
def skT(k:Int)(s:ByteArray)(ts:List T3):List T3:=if isT k s ts then ts.tail else ts
def wantP(k:Int)(s:ByteArray):Ps Unit:=fun ts=>if isT k s ts then some ((),ts.tail)else none
def takeP(k:Int):Ps T3
 |t::r=>if t.k==k then some (t,r)else none
 |[]=>none
def nameP:Ps ByteArray:=fun ts=>(takeP 2 ts).map fun z=>(z.1.t,z.2)
abbrev em:ByteArray:=⟨#[]⟩
abbrev nd(k:Int)(kids:List Ex):Ex:=.mk k 0 0 em em em 0 kids
abbrev lit(vk vn:Int)(vs:ByteArray):Ex:=.mk 1 vk vn vs em em 0 []
abbrev ex0:Ex:=.mk 0 0 0 em em em 0 []
def opOf(k:Int):List (ByteArray×Int)->List T3->Option Int
 |[],_=>none
 |(s,n)::l,ts=>if isT k s ts then some n else opOf k l ts
def chainG(part:Ps Ex)(k:Int)(ops:List (ByteArray×Int)):Nat->Ex->Ps Ex
 |0,x,ts=>some (x,ts)
 |n+1,x,ts=>match opOf k ops ts with
   |none=>some (x,ts)
   |some q=>(part ts.tail).bind fun z=>chainG part k ops n (nd q [x,z.1]) z.2
def chainP(part:Ps Ex)(k:Int)(ops:List (ByteArray×Int)):Ps Ex:=fun ts=>(part ts).bind fun z=>chainG part k ops z.2.length z.1 z.2
abbrev mulO:List (ByteArray×Int):=[(Z1g,7),(Z2F,8),(Z3E,9)]
abbrev addO:List (ByteArray×Int):=[(Z30,5),(Z1s,6)]
abbrev cmpO:List (ByteArray×Int):=[(s_eq,10),(s_ne,11),(s_lt,12),(s_le,13),(s_gt,14),(s_ge,15)]
def aggK(s:ByteArray):Option Int:=if sq s Z2E then some 20 else if sq s Z53 then some 21 else if sq s Z5r then some 22 else if sq s Z5M then some 23 else none
def kwP(e:Ps Ex):Ps Ex:=fun ts=>(takeP 1 ts).bind fun z=>
 if sq z.1.t Z5j then some (lit 2 1 em,z.2)
 else if sq z.1.t Z4B then some (lit 2 0 em,z.2)
 else if sq z.1.t Z1v then some (lit 0 0 em,z.2)
 else match aggK z.1.t with
   |none=>none
   |some q=>(wantP 5 s_lp z.2).bind fun y=>
     if sq z.1.t Z2E&&isT 5 Z1g y.2 then(wantP 5 s_rp y.2.tail).map fun v=>(nd 20 [],v.2)
     else(e y.2).bind fun x=>(wantP 5 s_rp x.2).map fun v=>(nd q [x.1],v.2)
def atomP(e:Ps Ex):Ps Ex
 |[]=>none
 |t::r=>
   if t.k==3 then some (lit 1 t.n em,r)
   else if t.k==4 then some (lit 3 0 t.t,r)
   else if t.k==2 then(if isT 5 Z5p r then(nameP r.tail).map fun z=>(.mk 2 0 0 em t.t z.1 0 [],z.2)else some (.mk 2 0 0 em em t.t 0 [],r))
   else if t.k==1 then kwP e (t::r)
   else(wantP 5 s_lp (t::r)).bind fun y=>(e y.2).bind fun x=>(wantP 5 s_rp x.2).map fun v=>(x.1,v.2)
def factorP(e:Ps Ex):Ps Ex
 |[]=>atomP e []
 |t::r=>if isT 5 Z1s (t::r)then(factorP e r).map fun z=>(nd 3 [z.1],z.2)else atomP e (t::r)
def prodP(e:Ps Ex):Ps Ex:=chainP (factorP e) 5 mulO
def sumP(e:Ps Ex):Ps Ex:=chainP (prodP e) 5 addO
def cmpP(e:Ps Ex)(x:Ex):Ps Ex:=fun ts=>match opOf 5 cmpO ts with
 |some q=>(sumP e ts.tail).map fun z=>(nd q [x,z.1],z.2)
 |none=>if isT 1 w_IS ts then(if isT 1 Z1c ts.tail then(wantP 1 Z1v ts.tail.tail).map fun v=>(nd 19 [x],v.2)else(wantP 1 Z1v ts.tail).map fun v=>(nd 18 [x],v.2))else some (x,ts)
def notP(e:Ps Ex):Ps Ex
 |[]=>(sumP e []).bind fun z=>cmpP e z.1 z.2
 |t::r=>if isT 1 Z1c (t::r)then(notP e r).map fun z=>(nd 4 [z.1],z.2)else(sumP e (t::r)).bind fun z=>cmpP e z.1 z.2
def andP(e:Ps Ex):Ps Ex:=chainP (notP e) 1 [(Z22,16)]
def orP(e:Ps Ex):Ps Ex:=chainP (andP e) 1 [(w_OR,17)]
def exprP:Nat->Ps Ex
 |0=>fun _=>none
 |n+1=>orP (exprP n)
def exprX:Ps Ex:=fun ts=>exprP (ts.length+1) ts
def listG{α:Type}(part:Ps α):Nat->Ps (List α)
 |0,ts=>some ([],ts)
 |n+1,ts=>if isT 5 ZU ts then(part ts.tail).bind fun z=>(listG part n z.2).map fun y=>(z.1::y.1,y.2)else some ([],ts)
def listP{α:Type}(most:Nat)(part:Ps α):Ps (List α):=fun ts=>(part ts).bind fun z=>(listG part z.2.length z.2).bind fun y=>if y.1.length+1<=most then some (z.1::y.1,y.2)else none
def withinP{α:Type}(part:Ps α):Ps (List α):=fun ts=>(wantP 5 s_lp ts).bind fun a=>(listP 16 part a.2).bind fun l=>(wantP 5 s_rp l.2).map fun v=>(l.1,v.2)
structure Col where
 nm:ByteArray
 ty:Int
 nn:Bool
 un:Bool
structure Src where
 tb:ByteArray
 nm:ByteArray
 on:List Ex
structure Itm where
 all:Bool
 ex:Ex
structure Ky where
 ex:Ex
 desc:Bool
structure St where
 kind:Int
 tb:ByteArray
 nm:ByteArray
 cols:List Col
 names:List ByteArray
 rows:List (List Ex)
 items:List Itm
 from_:List Src
 where_:List Ex
 group:List Ex
 order:List Ky
 limit:Int
 sets:List Ex
 hash:Bool
def st0:St:=⟨0,em,em,[],[],[],[],[],[],[],[],0,[],false⟩
def stK(k:Int):St:=⟨k,em,em,[],[],[],[],[],[],[],[],-1,[],false⟩
def typeP:Ps Int:=fun ts=>if isT 1 Z9E ts then some (1,ts.tail)else if isT 1 Z96 ts then some (2,ts.tail)else if isT 1 Zam ts then some (3,ts.tail)else none
def colEnd(n:ByteArray)(t:Int)(nn:Bool):Ps Col:=fun ts=>
 if isT 1 Z6J ts then(wantP 1 ZgE ts.tail).map fun v=>(⟨n,t,true,true⟩,v.2)else some (⟨n,t,nn,isT 1 Z6o ts⟩,skT 1 Z6o ts)
def colP:Ps Col:=fun ts=>(nameP ts).bind fun n=>(typeP n.2).bind fun t=>
 if isT 1 Z1c t.2 then(wantP 1 Z1v t.2.tail).bind fun v=>colEnd n.1 t.1 true v.2 else colEnd n.1 t.1 false t.2
def createP:Ps St:=fun ts=>
 if isT 1 ZcX ts then(nameP ts.tail).bind fun n=>(withinP colP n.2).map fun c=>({stK 1 with tb:=n.1,cols:=c.1},c.2)
 else(wantP 1 ZcV ts).bind fun a=>(nameP a.2).bind fun n=>(wantP 1 w_ON n.2).bind fun b=>(nameP b.2).bind fun t=>(wantP 5 s_lp t.2).bind fun c=>(nameP c.2).bind fun m=>(wantP 5 s_rp m.2).bind fun d=>
   if isT 1 Zcv d.2 then(wantP 1 ZeO d.2.tail).map fun v=>({stK 2 with nm:=n.1,tb:=t.1,names:=[m.1],hash:=true},v.2)
   else some ({stK 2 with nm:=n.1,tb:=t.1,names:=[m.1]},d.2)
def isLp:List T3->Bool
 |t::_=>(t.k==5)&&(sq t.t s_lp&&(t.n==0))
 |[]=>false
def insRows(e:Ps Ex)(tb:ByteArray)(ns:List ByteArray):Ps St:=fun ts=>(wantP 1 Z9q ts).bind fun a=>(listP 32 (withinP e) a.2).map fun r=>({stK 3 with tb:=tb,names:=ns,rows:=r.1},r.2)
def insertP(e:Ps Ex):Ps St:=fun ts=>(wantP 1 Zfs ts).bind fun a=>(nameP a.2).bind fun n=>
 if isLp n.2 then(withinP nameP n.2).bind fun l=>insRows e n.1 l.1 l.2 else insRows e n.1 [] n.2
def itemP(e:Ps Ex):Ps Itm:=fun ts=>if isT 5 Z1g ts then some (⟨true,ex0⟩,ts.tail)else(e ts).map fun z=>(⟨false,z.1⟩,z.2)
def isK(k:Int):List T3->Bool
 |t::_=>t.k==k
 |[]=>false
def sourceP:Ps Src:=fun ts=>(nameP ts).bind fun n=>
 if isT 1 w_AS n.2 then(nameP n.2.tail).map fun m=>(⟨n.1,m.1,[]⟩,m.2)
 else if isK 2 n.2 then(nameP n.2).map fun m=>(⟨n.1,m.1,[]⟩,m.2)else some (⟨n.1,n.1,[]⟩,n.2)
def keyP(e:Ps Ex):Ps Ky:=fun ts=>(e ts).map fun z=>if isT 1 Z55 z.2 then(⟨z.1,false⟩,z.2.tail)else(⟨z.1,isT 1 Z4s z.2⟩,skT 1 Z4s z.2)
def whereP(e:Ps Ex):Ps (List Ex):=fun ts=>if isT 1 Z91 ts then(e ts.tail).map fun z=>([z.1],z.2)else some ([],ts)
def joinP(e:Ps Ex):Ps Src:=fun ts=>(wantP 1 Z3c ts).bind fun a=>(sourceP a.2).bind fun s=>(wantP 1 w_ON s.2).bind fun b=>(e b.2).map fun x=>({s.1 with on:=[x.1]},x.2)
def joinsG(e:Ps Ex):Nat->Ps (List Src)
 |0,ts=>some ([],ts)
 |n+1,ts=>if isT 1 ZW ts||isT 1 Z3c ts then(joinP e (skT 1 ZW ts)).bind fun s=>(joinsG e n s.2).map fun y=>(s.1::y.1,y.2)else some ([],ts)
def groupP(e:Ps Ex):Ps (List Ex):=fun ts=>if isT 1 Z5C ts then(wantP 1 w_BY ts.tail).bind fun a=>listP 16 e a.2 else some ([],ts)
def orderP(e:Ps Ex):Ps (List Ky):=fun ts=>if isT 1 Z4X ts then(wantP 1 w_BY ts.tail).bind fun a=>listP 16 (keyP e) a.2 else some ([],ts)
def limitP:Ps Int:=fun ts=>if isT 1 Z6a ts then(takeP 3 ts.tail).map fun z=>(z.1.n,z.2)else some (-1,ts)
def queryP(e:Ps Ex):Ps St:=fun ts=>(listP 16 (itemP e) ts).bind fun i=>(wantP 1 Z6E i.2).bind fun a=>(sourceP a.2).bind fun s=>(joinsG e s.2.length s.2).bind fun j=>
 if j.1.length+1<=4 then(whereP e j.2).bind fun w=>(groupP e w.2).bind fun g=>(orderP e g.2).bind fun o=>(limitP o.2).map fun l=>
  ({stK 4 with items:=i.1,from_:=s.1::j.1,where_:=w.1,group:=g.1,order:=o.1,limit:=l.1},l.2)
 else none
def setP(e:Ps Ex):Ps (ByteArray×Ex):=fun ts=>(nameP ts).bind fun n=>(wantP 5 s_eq n.2).bind fun a=>(e a.2).map fun x=>((n.1,x.1),x.2)
def updateP(e:Ps Ex):Ps St:=fun ts=>(nameP ts).bind fun n=>(wantP 1 ZgW n.2).bind fun a=>(listP 16 (setP e) a.2).bind fun l=>(whereP e l.2).map fun w=>
 ({stK 5 with tb:=n.1,names:=l.1.map (·.1),sets:=l.1.map (·.2),where_:=w.1},w.2)
def removeP(e:Ps Ex):Ps St:=fun ts=>(wantP 1 Z6E ts).bind fun a=>(nameP a.2).bind fun n=>(whereP e n.2).map fun w=>({stK 6 with tb:=n.1,where_:=w.1},w.2)
def stmtP(e:Ps Ex):Ps St:=fun ts=>(takeP 1 ts).bind fun w=>
 if sq w.1.t Z7u then createP w.2 else if sq w.1.t Z7s then insertP e w.2 else if sq w.1.t Z40 then queryP e w.2
 else if sq w.1.t Z7A then updateP e w.2 else if sq w.1.t Z7x then removeP e w.2
 else if sq w.1.t Z9a then some (stK 7,w.2)else if sq w.1.t Z7y then some (stK 8,w.2)else if sq w.1.t Z5L then some (stK 9,w.2)else none
mutual
def hgt:Ex->Nat
 | .mk _ _ _ _ _ _ _ kids=>hgts kids+1
def hgts:List Ex->Nat
 |[]=>0
 |x::xs=>max (hgt x) (hgts xs)
end
def exsOf(s:St):List Ex:=s.rows.flatten++s.items.map (·.ex)++(s.from_.map (·.on)).flatten++s.order.map (·.ex)++s.where_++s.group++s.sets
def deepS(s:St):Bool:=(exsOf s).any fun x=>decide (32<hgt x)
def wholeP(ts:List T3):Option St:=(stmtP (exprP (ts.length+1)) ts).bind fun z=>match skT 5 Z5d z.2 with|[]=>some z.1|_::_=>none
def readT(ts:List T3):St×Int:=match wholeP ts with
 |none=>(st0,30)
 |some s=>if deepS s then(st0,31)else(s,0)
def readS(l:List T3×Int):St×Int:=if l.2==0 then readT l.1 else(st0,l.2)
end Go.Pz
namespace Go.Pz
open Go Go.Vc
def Lt(r ts:List T3):Prop:=r<:+ts/\r.length<ts.length
theorem Lt.trans{a b c:List T3}(h:Lt a b)(k:b<:+c):Lt a c:=⟨h.1.trans k,Nat.lt_of_lt_of_le h.2 k.length_le⟩
theorem Lt.trans'{a b c:List T3}(h:a<:+b)(k:Lt b c):Lt a c:=⟨h.trans k.1,Nat.lt_of_le_of_lt h.length_le k.2⟩
theorem Lt.cons(t:T3)(r:List T3):Lt r (t::r):=⟨List.suffix_cons t r,by simp⟩
def Dn{α:Type}(p:Ps α):Prop:=∀ts z,p ts=some z->Lt z.2 ts
def Dn0{α:Type}(p:Ps α):Prop:=∀ts z,p ts=some z->z.2<:+ts
theorem Dn.le{α:Type}{p:Ps α}(h:Dn p):Dn0 p:=fun ts z e=>(h ts z e).1
theorem Z5t{k:Int}{s:ByteArray}{ts:List T3}(h:isT k s ts=true): ∃t r,ts=t::r/\t.k=k/\t.t.data.toList=s.data.toList:=by
 cases ts with
 |nil=>cases h
 |cons t r=>
   simp only[isT,Bool.and_eq_true,beq_iff_eq,sq]at h;exact⟨t,r,rfl,h.1,h.2⟩
theorem ZG{k:Int}{s:ByteArray}{ts:List T3}(h:isT k s ts=true):Lt ts.tail ts:=by
 obtain⟨t,r,rfl,_⟩:=Z5t h;exact Lt.cons t r
theorem Z2p(k:Int)(s:ByteArray)(ts:List T3):skT k s ts<:+ts:=by
 unfold skT;split
 · exact List.tail_suffix ts
 · exact List.suffix_refl ts
theorem Zi(k:Int)(s:ByteArray):Dn (wantP k s):=fun ts z h=>by
 unfold wantP at h
 split at h
 · rename_i hi;injection h with h;subst h;exact ZG hi
 · cases h
theorem Z1N(k:Int):Dn (takeP k):=fun ts z h=>by
 cases ts with
 |nil=>cases h
 |cons t r=>
   rw[takeP]at h
   split at h
   · injection h with h;subst h;exact Lt.cons t r
   · cases h
theorem Dn.map{α β:Type}{p:Ps α}(hp:Dn p)(f:α×List T3->β):Dn (fun ts=>(p ts).map fun z=>(f z,z.2)):=fun ts z h=>by
 obtain⟨y,hy,rfl⟩:=Option.map_eq_some_iff.1 h;exact hp ts y hy
theorem Z14:Dn nameP:=(Z1N 2).map _
theorem bnd{α β:Type}{p:Option α}{f:α->Option β}{z:β}(h:p.bind f=some z): ∃y,p=some y/\f y=some z:=Option.bind_eq_some_iff.1 h
theorem mpd{α β:Type}{p:Option α}{f:α->β}{z:β}(h:p.map f=some z): ∃y,p=some y/\f y=z:=Option.map_eq_some_iff.1 h
theorem Z3A{k:Int}{q:Int}: ∀{l:List (ByteArray×Int)} {ts:List T3},opOf k l ts=some q->Lt ts.tail ts
 |[],_,h=>by cases h
 |(s,n)::l,ts,h=>by
   unfold opOf at h
   split at h
   · rename_i hi;exact ZG hi
   · exact Z3A h
theorem Zdt{part:Ps Ex}{k:Int}{ops:List (ByteArray×Int)}(hp:Dn0 part): ∀(n:Nat) (x:Ex),Dn0 (chainG part k ops n x)
 |0,x,ts,z,h=>by unfold chainG at h;injection h with h;subst h;exact List.suffix_refl ts
 |n+1,x,ts,z,h=>by
   unfold chainG at h
   split at h
   · injection h with h;subst h;exact List.suffix_refl ts
   · rename_i q hq
     obtain⟨y,h1,h2⟩:=bnd h;exact((Zdt hp n _ _ _ h2).trans (hp _ _ h1)).trans (Z3A hq).1
theorem Z7W{part:Ps Ex}{k:Int}{ops:List (ByteArray×Int)}(hp:Dn part):Dn (chainP part k ops):=fun ts z h=>by
 obtain⟨y,h1,h2⟩:=bnd h;exact Lt.trans' (Zdt hp.le _ _ _ _ h2) (hp _ _ h1)
theorem Zlr{e:Ps Ex}(he:Dn0 e):Dn (kwP e):=fun ts z h=>by
 obtain⟨y,h1,h2⟩:=bnd h;have h3:=Z1N 1 _ _ h1
 split at h2
 · injection h2 with h2;subst h2;exact h3
 · split at h2
   · injection h2 with h2;subst h2;exact h3
   · split at h2
     · injection h2 with h2;subst h2;exact h3
     · split at h2
       · cases h2
       · obtain⟨u,h4,h5⟩:=bnd h2
         have h6:=Lt.trans (Zi _ _ _ _ h4) h3.1
         split at h5
         · rename_i hi
           simp only[Bool.and_eq_true]at hi;obtain⟨v,h7,rfl⟩:=mpd h5;exact Lt.trans (Zi _ _ _ _ h7) ((ZG hi.2).1.trans h6.1)
         · obtain⟨v,h7,h8⟩:=bnd h5
           obtain⟨v',h9,rfl⟩:=mpd h8;exact Lt.trans (Zi _ _ _ _ h9) ((he _ _ h7).trans h6.1)
theorem Zf1{e:Ps Ex}(he:Dn0 e):Dn (atomP e):=fun ts z h=>by
 cases ts with
 |nil=>cases h
 |cons t r=>
   rw[atomP]at h
   split at h
   · injection h with h;subst h;exact Lt.cons t r
   · split at h
     · injection h with h;subst h;exact Lt.cons t r
     · split at h
       · split at h
         · rename_i hi
           obtain⟨v,h7,rfl⟩:=mpd h;exact Lt.trans (Z14 _ _ h7) ((ZG hi).1.trans (Lt.cons t r).1)
         · injection h with h;subst h;exact Lt.cons t r
       · split at h
         · exact Zlr he _ _ h
         · obtain⟨u,h4,h5⟩:=bnd h
           obtain⟨v,h7,h8⟩:=bnd h5;obtain⟨v',h9,rfl⟩:=mpd h8;exact Lt.trans (Zi _ _ _ _ h9) ((he _ _ h7).trans (Zi _ _ _ _ h4).1)
theorem Z4k{e:Ps Ex}(he:Dn0 e):Dn (factorP e)
 |[],z,h=>by rw[factorP]at h;exact Zf1 he _ _ h
 |t::r,z,h=>by
   rw[factorP]at h
   split at h
   · obtain⟨v,h7,rfl⟩:=mpd h
     exact Lt.trans (Z4k he r v h7) (Lt.cons t r).1
   · exact Zf1 he _ _ h
theorem Z5V{e:Ps Ex}(he:Dn0 e):Dn (prodP e):=Z7W (Z4k he)
theorem Z31{e:Ps Ex}(he:Dn0 e):Dn (sumP e):=Z7W (Z5V he)
theorem Zgn{e:Ps Ex}(he:Dn0 e)(x:Ex):Dn0 (cmpP e x):=fun ts z h=>by
 unfold cmpP at h
 split at h
 · rename_i q hq
   obtain⟨v,h7,rfl⟩:=mpd h;exact(Z31 he _ _ h7).1.trans (Z3A hq).1
 · split at h
   · rename_i hi
     split at h
     · rename_i hj
       obtain⟨v,h7,rfl⟩:=mpd h;exact((Zi _ _ _ _ h7).1.trans (ZG hj).1).trans (ZG hi).1
     · obtain⟨v,h7,rfl⟩:=mpd h
       exact(Zi _ _ _ _ h7).1.trans (ZG hi).1
   · injection h with h;subst h;exact List.suffix_refl ts
theorem Z6e{e:Ps Ex}(he:Dn0 e):Dn (notP e)
 |[],z,h=>by
   rw[notP]at h;obtain⟨y,h1,h2⟩:=bnd h;exact Lt.trans' (Zgn he _ _ _ h2) (Z31 he _ _ h1)
 |t::r,z,h=>by
   rw[notP]at h
   split at h
   · obtain⟨v,h7,rfl⟩:=mpd h
     exact Lt.trans (Z6e he r v h7) (Lt.cons t r).1
   · obtain⟨y,h1,h2⟩:=bnd h
     exact Lt.trans' (Zgn he _ _ _ h2) (Z31 he _ _ h1)
theorem Z74{e:Ps Ex}(he:Dn0 e):Dn (andP e):=Z7W (Z6e he)
theorem Zil{e:Ps Ex}(he:Dn0 e):Dn (orP e):=Z7W (Z74 he)
theorem Z34: ∀n,Dn (exprP n)
 |0,ts,z,h=>by cases h
 |n+1,ts,z,h=>Zil (Z34 n).le ts z h
theorem Z6k:Dn exprX:=fun ts z h=>Z34 _ ts z h
def Eq_(n:Nat)(e e':Ps Ex):Prop:=∀ts,ts.length<n->e ts=e' ts
theorem Zr{α β:Type}{p:Option α}{f g:α->Option β}(h: ∀y,p=some y->f y=g y):p.bind f=p.bind g:=by
 cases p with
 |none=>rfl
 |some y=>exact h y rfl
theorem Zds{part part':Ps Ex}{k:Int}{ops:List (ByteArray×Int)}{N:Nat}(hp:Dn0 part)(h:Eq_ N part part'): ∀(n:Nat) (x:Ex) (ts:List T3),ts.length<=N->chainG part k ops n x ts=chainG part' k ops n x ts
 |0,_,_,_=>rfl
 |n+1,x,ts,hl=>by
   unfold chainG
   split
   · rfl
   · rename_i q hq
     have h1:=Z3A hq;rw[<-h ts.tail (by have:=h1.2;omega)];exact Zr fun y hy=>Zds hp h n _ _ (by have:=(hp _ _ hy).length_le;have:=h1.2;omega)
theorem Z8d{part part':Ps Ex}{k:Int}{ops:List (ByteArray×Int)}{N:Nat}(hp:Dn part)(h:Eq_ N part part'):Eq_ N (chainP part k ops) (chainP part' k ops):=fun ts hl=>by
 unfold chainP;rw[<-h ts hl];exact Zr fun y hy=>Zds hp.le h _ _ _ (by have:=(hp _ _ hy).2;omega)
section
variable{e e':Ps Ex}{N:Nat}(h:Eq_ N e e')
include h
theorem Zm6(ts:List T3)(hl:ts.length<=N):kwP e ts=kwP e' ts:=by
 unfold kwP;refine Zr fun y hy=>?_;have h1:=(Z1N 1 _ _ hy).2
 split
 · rfl
 · split
   · rfl
   · split
     · rfl
     · split
       · rfl
       · refine Zr fun u hu=>?_
         have h2:=(Zi _ _ _ _ hu).2
         split
         · rfl
         · rw[h u.2 qM]
theorem ZeE: ∀(ts:List T3),ts.length<=N->atomP e ts=atomP e' ts
 |[],_=>rfl
 |t::r,hl=>by
   rw[atomP,atomP,Zm6 h (t::r) hl];have hb:((wantP 5 s_lp (t::r)).bind fun y=>(e y.2).bind fun x=>(wantP 5 s_rp x.2).map fun v=>(x.1,v.2))=((wantP 5 s_lp (t::r)).bind fun y=>(e' y.2).bind fun x=>(wantP 5 s_rp x.2).map fun v=>(x.1,v.2)):=
     Zr fun y hy=>by
       have h1:=(Zi _ _ _ _ hy).2;rw[h y.2 qM]
   rw[hb]
theorem Zcd: ∀(ts:List T3),ts.length<=N->factorP e ts=factorP e' ts
 |[],hl=>by rw[factorP,factorP];exact ZeE h [] hl
 |t::r,hl=>by
   rw[factorP,factorP,Zcd r (by simp at hl;omega),ZeE h (t::r) hl]
end
theorem Zjx{e e':Ps Ex}{N:Nat}(he:Dn0 e)(h:Eq_ N e e'):Eq_ (N+1) (prodP e) (prodP e'):=Z8d (Z4k he) fun ts hl=>Zcd h ts qM
theorem ZcT{e e':Ps Ex}{N:Nat}(he:Dn0 e)(h:Eq_ N e e'):Eq_ (N+1) (sumP e) (sumP e'):=Z8d (Z5V he) (Zjx he h)
theorem Zgv{e e':Ps Ex}{N:Nat}(he:Dn0 e)(h:Eq_ N e e')(x:Ex):Eq_ (N+1) (cmpP e x) (cmpP e' x):=fun ts hl=>by
 unfold cmpP
 split
 · rename_i q hq
   rw[ZcT he h ts.tail (by have:=(Z3A hq).2;omega)]
 · rfl
theorem Zg8{e e':Ps Ex}{N:Nat}(he:Dn0 e)(h:Eq_ N e e'):Eq_ (N+1) (notP e) (notP e')
 |[],hl=>by
   rw[notP,notP,<-ZcT he h [] hl];exact Zr fun y hy=>Zgv he h _ _ (by have:=(Z31 he _ _ hy).2;omega)
 |t::r,hl=>by
   rw[notP,notP,Zg8 he h r (by simp at hl;omega),<-ZcT he h (t::r) hl]
   congr 1
   exact Zr fun y hy=>Zgv he h _ _ (by have:=(Z31 he _ _ hy).2;omega)
theorem Zkz{e e':Ps Ex}{N:Nat}(he:Dn0 e)(h:Eq_ N e e'):Eq_ (N+1) (andP e) (andP e'):=Z8d (Z6e he) (Zg8 he h)
theorem Zii{e e':Ps Ex}{N:Nat}(he:Dn0 e)(h:Eq_ N e e'):Eq_ (N+1) (orP e) (orP e'):=Z8d (Z74 he) (Zkz he h)
theorem ZbK: ∀n m,n<=m->Eq_ n (exprP n) (exprP m)
 |0,_,_=>fun ts hl=>absurd hl qM
 |n+1,0,h=>absurd h qM
 |n+1,m+1,h=>Zii (Z34 n).le (ZbK n m qM)
theorem Zfh{n:Nat}:Eq_ n exprX (exprP n):=fun ts hl=>(ZbK (ts.length+1) n qM) ts qM
theorem ZeK(ts:List T3):exprX ts=orP exprX ts:=by
 show orP (exprP ts.length) ts=orP exprX ts;exact(Zii (N:=ts.length) Z6k.le Zfh ts qM).symm
end Go.Pz
namespace Go.Pz
open Go Go.Vc
def okT(t:T3):Prop:=1<=t.k/\t.k<=5/\(t.k=5->t.n=0/\t.t.data.toList.length<=2)
def okL(ts:List T3):Prop:=∀t∈ts,okT t
theorem okL.suf{r ts:List T3}(h:okL ts)(hs:r<:+ts):okL r:=fun t ht=>h t (hs.subset ht)
theorem okL.tail{ts:List T3}(h:okL ts):okL ts.tail:=h.suf (List.tail_suffix ts)
abbrev binL:List (Int×ByteArray×Int×Int):=[(1,w_OR,17,1),(1,Z22,16,2),(5,s_eq,10,4),(5,s_ne,11,4),(5,s_lt,12,4),(5,s_le,13,4),(5,s_gt,14,4),(5,s_ge,15,4),(5,Z30,5,5),(5,Z1s,6,5),(5,Z1g,7,6),(5,Z2F,8,6),(5,Z3E,9,6)]
def binG:List (Int×ByteArray×Int×Int)->List T3->Int×Int
 |[],_=>(0,0)
 |(k,s,q,b)::l,ts=>if isT k s ts then(q,b)else binG l ts
def binR(ts:List T3):Int×Int:=binG binL ts
def factorR(e:Ps Ex):Ps Ex
 |[]=>none
 |t::r=>
   if isT 5 Z1s (t::r)then(factorR e r).map fun z=>(nd 3 [z.1],z.2)
   else if t.k==0 then none
   else if t.k==3 then some (lit 1 t.n em,r)
   else if t.k==4 then some (lit 3 0 t.t,r)
   else if t.k==2 then(if isT 5 Z5p r then(nameP r.tail).map fun z=>(.mk 2 0 0 em t.t z.1 0 [],z.2)else some (.mk 2 0 0 em em t.t 0 [],r))
   else if sq t.t Z5j then some (lit 2 1 em,r)
   else if sq t.t Z4B then some (lit 2 0 em,r)
   else if sq t.t Z1v then some (lit 0 0 em,r)
   else if(t.k==5)&&sq t.t s_lp then(e r).bind fun x=>(wantP 5 s_rp x.2).map fun v=>(x.1,v.2)
   else match aggK t.t with
     |none=>none
     |some q=>(wantP 5 s_lp r).bind fun y=>
       if q==20&&isT 5 Z1g y.2 then(wantP 5 s_rp y.2.tail).map fun v=>(nd 20 [],v.2)
       else(e y.2).bind fun x=>(wantP 5 s_rp x.2).map fun v=>(nd q [x.1],v.2)
def loopR(e:Int->Ps Ex)(least:Int):Nat->Ex->Bool->Ps Ex
 |0,x,_,ts=>some (x,ts)
 |m+1,x,c,ts=>
   if(decide (0<(binR ts).1)&&decide (least<(binR ts).2))&& !(c&&decide (4<=(binR ts).2))then(e (binR ts).2 ts.tail).bind fun z=>loopR e least m (nd (binR ts).1 [x,z.1]) (c||decide ((binR ts).2<=4)) z.2
   else if(((binR ts).1==0&&decide (least<4))&& !c)&&isT 1 w_IS ts then(wantP 1 Z1v (skT 1 Z1c ts.tail)).bind fun v=>loopR e least m (nd (if isT 1 Z1c ts.tail then 19 else 18) [x]) true v.2
   else some (x,ts)
def exprR:Nat->Int->Ps Ex
 |0,_=>fun _=>none
 |n+1,l=>fun ts=>if decide (l<3)&&isT 1 Z1c ts then(exprR n 2 ts.tail).bind fun z=>loopR (exprR n) l z.2.length (nd 4 [z.1]) true z.2 else(factorR (exprR n 0) ts).bind fun z=>loopR (exprR n) l z.2.length z.1 false z.2
theorem Z8{k k':Int}{s s':ByteArray}{ts:List T3}(h:isT k s ts=true)(hne:(k==k'&&(s.data.toList==s'.data.toList))=false):isT k' s' ts=false:=by
 obtain⟨t,r,rfl,h1,h2⟩:=Z5t h;show((t.k==k')&&(t.t.data.toList==s'.data.toList))=false;rw[h1,h2];exact hne
inductive Cls (ts:List T3):Prop where
 |or (h:binR ts=(17,1)) (h1:isT 1 w_OR ts=true) (h2:opOf 1 [(Z22,16)] ts=none) (h3:opOf 5 cmpO ts=none) (h4:opOf 5 addO ts=none) (h5:opOf 5 mulO ts=none) (h6:isT 1 w_IS ts=false) (h7:opOf 1 [(w_OR,17)] ts=some 17)
 |and (h:binR ts=(16,2)) (h1:opOf 1 [(w_OR,17)] ts=none) (h2:opOf 1 [(Z22,16)] ts=some 16) (h3:opOf 5 cmpO ts=none) (h4:opOf 5 addO ts=none) (h5:opOf 5 mulO ts=none) (h6:isT 1 w_IS ts=false)
 |cmp (q:Int) (hq:0<q) (h:binR ts=(q,4)) (h1:opOf 1 [(w_OR,17)] ts=none) (h2:opOf 1 [(Z22,16)] ts=none) (h3:opOf 5 cmpO ts=some q) (h4:opOf 5 addO ts=none) (h5:opOf 5 mulO ts=none) (h6:isT 1 w_IS ts=false)
 |add (q:Int) (hq:0<q) (h:binR ts=(q,5)) (h1:opOf 1 [(w_OR,17)] ts=none) (h2:opOf 1 [(Z22,16)] ts=none) (h3:opOf 5 cmpO ts=none) (h4:opOf 5 addO ts=some q) (h5:opOf 5 mulO ts=none) (h6:isT 1 w_IS ts=false)
 |mul (q:Int) (hq:0<q) (h:binR ts=(q,6)) (h1:opOf 1 [(w_OR,17)] ts=none) (h2:opOf 1 [(Z22,16)] ts=none) (h3:opOf 5 cmpO ts=none) (h4:opOf 5 addO ts=none) (h5:opOf 5 mulO ts=some q) (h6:isT 1 w_IS ts=false)
 |no (h:binR ts=(0,0)) (h1:opOf 1 [(w_OR,17)] ts=none) (h2:opOf 1 [(Z22,16)] ts=none) (h3:opOf 5 cmpO ts=none) (h4:opOf 5 addO ts=none) (h5:opOf 5 mulO ts=none)
theorem cls(ts:List T3):Cls ts:=by
 cases h0:isT 1 w_OR ts with
 |true=>
   have n_w_AND:isT 1 Z22 ts=false:=Z8 h0 qD;have n_s_eq:isT 5 s_eq ts=false:=Z8 h0 qD;have n_s_ne:isT 5 s_ne ts=false:=Z8 h0 qD;have n_s_lt:isT 5 s_lt ts=false:=Z8 h0 qD;have n_s_le:isT 5 s_le ts=false:=Z8 h0 qD;have n_s_gt:isT 5 s_gt ts=false:=Z8 h0 qD;have n_s_ge:isT 5 s_ge ts=false:=Z8 h0 qD;have n_s_plus:isT 5 Z30 ts=false:=Z8 h0 qD;have n_s_minus:isT 5 Z1s ts=false:=Z8 h0 qD;have n_s_star:isT 5 Z1g ts=false:=Z8 h0 qD;have n_s_slash:isT 5 Z2F ts=false:=Z8 h0 qD;have n_s_pct:isT 5 Z3E ts=false:=Z8 h0 qD;have n_w_IS:isT 1 w_IS ts=false:=Z8 h0 qD;exact .or qX h0 qX qX qX qX n_w_IS qX
 |false=>
 cases h1:isT 1 Z22 ts with
 |true=>
   have n_w_OR:isT 1 w_OR ts=false:=Z8 h1 qD;have n_s_eq:isT 5 s_eq ts=false:=Z8 h1 qD;have n_s_ne:isT 5 s_ne ts=false:=Z8 h1 qD;have n_s_lt:isT 5 s_lt ts=false:=Z8 h1 qD;have n_s_le:isT 5 s_le ts=false:=Z8 h1 qD;have n_s_gt:isT 5 s_gt ts=false:=Z8 h1 qD;have n_s_ge:isT 5 s_ge ts=false:=Z8 h1 qD;have n_s_plus:isT 5 Z30 ts=false:=Z8 h1 qD;have n_s_minus:isT 5 Z1s ts=false:=Z8 h1 qD;have n_s_star:isT 5 Z1g ts=false:=Z8 h1 qD;have n_s_slash:isT 5 Z2F ts=false:=Z8 h1 qD;have n_s_pct:isT 5 Z3E ts=false:=Z8 h1 qD;have n_w_IS:isT 1 w_IS ts=false:=Z8 h1 qD;exact .and qX qX qX qX qX qX n_w_IS
 |false=>
 cases c0:isT 5 s_eq ts with
 |true=>
   have n_w_OR:isT 1 w_OR ts=false:=Z8 c0 qD;have n_w_AND:isT 1 Z22 ts=false:=Z8 c0 qD;have n_s_ne:isT 5 s_ne ts=false:=Z8 c0 qD;have n_s_lt:isT 5 s_lt ts=false:=Z8 c0 qD;have n_s_le:isT 5 s_le ts=false:=Z8 c0 qD;have n_s_gt:isT 5 s_gt ts=false:=Z8 c0 qD;have n_s_ge:isT 5 s_ge ts=false:=Z8 c0 qD;have n_s_plus:isT 5 Z30 ts=false:=Z8 c0 qD;have n_s_minus:isT 5 Z1s ts=false:=Z8 c0 qD;have n_s_star:isT 5 Z1g ts=false:=Z8 c0 qD;have n_s_slash:isT 5 Z2F ts=false:=Z8 c0 qD;have n_s_pct:isT 5 Z3E ts=false:=Z8 c0 qD;have n_w_IS:isT 1 w_IS ts=false:=Z8 c0 qD;exact .cmp 10 qD qX qX qX qX qX qX n_w_IS
 |false=>
 cases c1:isT 5 s_ne ts with
 |true=>
   have n_w_OR:isT 1 w_OR ts=false:=Z8 c1 qD;have n_w_AND:isT 1 Z22 ts=false:=Z8 c1 qD;have n_s_eq:isT 5 s_eq ts=false:=Z8 c1 qD;have n_s_lt:isT 5 s_lt ts=false:=Z8 c1 qD;have n_s_le:isT 5 s_le ts=false:=Z8 c1 qD;have n_s_gt:isT 5 s_gt ts=false:=Z8 c1 qD;have n_s_ge:isT 5 s_ge ts=false:=Z8 c1 qD;have n_s_plus:isT 5 Z30 ts=false:=Z8 c1 qD;have n_s_minus:isT 5 Z1s ts=false:=Z8 c1 qD;have n_s_star:isT 5 Z1g ts=false:=Z8 c1 qD;have n_s_slash:isT 5 Z2F ts=false:=Z8 c1 qD;have n_s_pct:isT 5 Z3E ts=false:=Z8 c1 qD;have n_w_IS:isT 1 w_IS ts=false:=Z8 c1 qD;exact .cmp 11 qD qX qX qX qX qX qX n_w_IS
 |false=>
 cases c2:isT 5 s_lt ts with
 |true=>
   have n_w_OR:isT 1 w_OR ts=false:=Z8 c2 qD;have n_w_AND:isT 1 Z22 ts=false:=Z8 c2 qD;have n_s_eq:isT 5 s_eq ts=false:=Z8 c2 qD;have n_s_ne:isT 5 s_ne ts=false:=Z8 c2 qD;have n_s_le:isT 5 s_le ts=false:=Z8 c2 qD;have n_s_gt:isT 5 s_gt ts=false:=Z8 c2 qD;have n_s_ge:isT 5 s_ge ts=false:=Z8 c2 qD;have n_s_plus:isT 5 Z30 ts=false:=Z8 c2 qD;have n_s_minus:isT 5 Z1s ts=false:=Z8 c2 qD;have n_s_star:isT 5 Z1g ts=false:=Z8 c2 qD;have n_s_slash:isT 5 Z2F ts=false:=Z8 c2 qD;have n_s_pct:isT 5 Z3E ts=false:=Z8 c2 qD;have n_w_IS:isT 1 w_IS ts=false:=Z8 c2 qD;exact .cmp 12 qD qX qX qX qX qX qX n_w_IS
 |false=>
 cases c3:isT 5 s_le ts with
 |true=>
   have n_w_OR:isT 1 w_OR ts=false:=Z8 c3 qD;have n_w_AND:isT 1 Z22 ts=false:=Z8 c3 qD;have n_s_eq:isT 5 s_eq ts=false:=Z8 c3 qD;have n_s_ne:isT 5 s_ne ts=false:=Z8 c3 qD;have n_s_lt:isT 5 s_lt ts=false:=Z8 c3 qD;have n_s_gt:isT 5 s_gt ts=false:=Z8 c3 qD;have n_s_ge:isT 5 s_ge ts=false:=Z8 c3 qD;have n_s_plus:isT 5 Z30 ts=false:=Z8 c3 qD;have n_s_minus:isT 5 Z1s ts=false:=Z8 c3 qD;have n_s_star:isT 5 Z1g ts=false:=Z8 c3 qD;have n_s_slash:isT 5 Z2F ts=false:=Z8 c3 qD;have n_s_pct:isT 5 Z3E ts=false:=Z8 c3 qD;have n_w_IS:isT 1 w_IS ts=false:=Z8 c3 qD;exact .cmp 13 qD qX qX qX qX qX qX n_w_IS
 |false=>
 cases c4:isT 5 s_gt ts with
 |true=>
   have n_w_OR:isT 1 w_OR ts=false:=Z8 c4 qD;have n_w_AND:isT 1 Z22 ts=false:=Z8 c4 qD;have n_s_eq:isT 5 s_eq ts=false:=Z8 c4 qD;have n_s_ne:isT 5 s_ne ts=false:=Z8 c4 qD;have n_s_lt:isT 5 s_lt ts=false:=Z8 c4 qD;have n_s_le:isT 5 s_le ts=false:=Z8 c4 qD;have n_s_ge:isT 5 s_ge ts=false:=Z8 c4 qD;have n_s_plus:isT 5 Z30 ts=false:=Z8 c4 qD;have n_s_minus:isT 5 Z1s ts=false:=Z8 c4 qD;have n_s_star:isT 5 Z1g ts=false:=Z8 c4 qD;have n_s_slash:isT 5 Z2F ts=false:=Z8 c4 qD;have n_s_pct:isT 5 Z3E ts=false:=Z8 c4 qD;have n_w_IS:isT 1 w_IS ts=false:=Z8 c4 qD;exact .cmp 14 qD qX qX qX qX qX qX n_w_IS
 |false=>
 cases c5:isT 5 s_ge ts with
 |true=>
   have n_w_OR:isT 1 w_OR ts=false:=Z8 c5 qD;have n_w_AND:isT 1 Z22 ts=false:=Z8 c5 qD;have n_s_eq:isT 5 s_eq ts=false:=Z8 c5 qD;have n_s_ne:isT 5 s_ne ts=false:=Z8 c5 qD;have n_s_lt:isT 5 s_lt ts=false:=Z8 c5 qD;have n_s_le:isT 5 s_le ts=false:=Z8 c5 qD;have n_s_gt:isT 5 s_gt ts=false:=Z8 c5 qD;have n_s_plus:isT 5 Z30 ts=false:=Z8 c5 qD;have n_s_minus:isT 5 Z1s ts=false:=Z8 c5 qD;have n_s_star:isT 5 Z1g ts=false:=Z8 c5 qD;have n_s_slash:isT 5 Z2F ts=false:=Z8 c5 qD;have n_s_pct:isT 5 Z3E ts=false:=Z8 c5 qD;have n_w_IS:isT 1 w_IS ts=false:=Z8 c5 qD;exact .cmp 15 qD qX qX qX qX qX qX n_w_IS
 |false=>
 cases a0:isT 5 Z30 ts with
 |true=>
   have n_w_OR:isT 1 w_OR ts=false:=Z8 a0 qD;have n_w_AND:isT 1 Z22 ts=false:=Z8 a0 qD;have n_s_eq:isT 5 s_eq ts=false:=Z8 a0 qD;have n_s_ne:isT 5 s_ne ts=false:=Z8 a0 qD;have n_s_lt:isT 5 s_lt ts=false:=Z8 a0 qD;have n_s_le:isT 5 s_le ts=false:=Z8 a0 qD;have n_s_gt:isT 5 s_gt ts=false:=Z8 a0 qD;have n_s_ge:isT 5 s_ge ts=false:=Z8 a0 qD;have n_s_minus:isT 5 Z1s ts=false:=Z8 a0 qD;have n_s_star:isT 5 Z1g ts=false:=Z8 a0 qD;have n_s_slash:isT 5 Z2F ts=false:=Z8 a0 qD;have n_s_pct:isT 5 Z3E ts=false:=Z8 a0 qD;have n_w_IS:isT 1 w_IS ts=false:=Z8 a0 qD;exact .add 5 qD qX qX qX qX qX qX n_w_IS
 |false=>
 cases a1:isT 5 Z1s ts with
 |true=>
   have n_w_OR:isT 1 w_OR ts=false:=Z8 a1 qD;have n_w_AND:isT 1 Z22 ts=false:=Z8 a1 qD;have n_s_eq:isT 5 s_eq ts=false:=Z8 a1 qD;have n_s_ne:isT 5 s_ne ts=false:=Z8 a1 qD;have n_s_lt:isT 5 s_lt ts=false:=Z8 a1 qD;have n_s_le:isT 5 s_le ts=false:=Z8 a1 qD;have n_s_gt:isT 5 s_gt ts=false:=Z8 a1 qD;have n_s_ge:isT 5 s_ge ts=false:=Z8 a1 qD;have n_s_plus:isT 5 Z30 ts=false:=Z8 a1 qD;have n_s_star:isT 5 Z1g ts=false:=Z8 a1 qD;have n_s_slash:isT 5 Z2F ts=false:=Z8 a1 qD;have n_s_pct:isT 5 Z3E ts=false:=Z8 a1 qD;have n_w_IS:isT 1 w_IS ts=false:=Z8 a1 qD;exact .add 6 qD qX qX qX qX qX qX n_w_IS
 |false=>
 cases m0:isT 5 Z1g ts with
 |true=>
   have n_w_OR:isT 1 w_OR ts=false:=Z8 m0 qD;have n_w_AND:isT 1 Z22 ts=false:=Z8 m0 qD;have n_s_eq:isT 5 s_eq ts=false:=Z8 m0 qD;have n_s_ne:isT 5 s_ne ts=false:=Z8 m0 qD;have n_s_lt:isT 5 s_lt ts=false:=Z8 m0 qD;have n_s_le:isT 5 s_le ts=false:=Z8 m0 qD;have n_s_gt:isT 5 s_gt ts=false:=Z8 m0 qD;have n_s_ge:isT 5 s_ge ts=false:=Z8 m0 qD;have n_s_plus:isT 5 Z30 ts=false:=Z8 m0 qD;have n_s_minus:isT 5 Z1s ts=false:=Z8 m0 qD;have n_s_slash:isT 5 Z2F ts=false:=Z8 m0 qD;have n_s_pct:isT 5 Z3E ts=false:=Z8 m0 qD;have n_w_IS:isT 1 w_IS ts=false:=Z8 m0 qD;exact .mul 7 qD qX qX qX qX qX qX n_w_IS
 |false=>
 cases m1:isT 5 Z2F ts with
 |true=>
   have n_w_OR:isT 1 w_OR ts=false:=Z8 m1 qD;have n_w_AND:isT 1 Z22 ts=false:=Z8 m1 qD;have n_s_eq:isT 5 s_eq ts=false:=Z8 m1 qD;have n_s_ne:isT 5 s_ne ts=false:=Z8 m1 qD;have n_s_lt:isT 5 s_lt ts=false:=Z8 m1 qD;have n_s_le:isT 5 s_le ts=false:=Z8 m1 qD;have n_s_gt:isT 5 s_gt ts=false:=Z8 m1 qD;have n_s_ge:isT 5 s_ge ts=false:=Z8 m1 qD;have n_s_plus:isT 5 Z30 ts=false:=Z8 m1 qD;have n_s_minus:isT 5 Z1s ts=false:=Z8 m1 qD;have n_s_star:isT 5 Z1g ts=false:=Z8 m1 qD;have n_s_pct:isT 5 Z3E ts=false:=Z8 m1 qD;have n_w_IS:isT 1 w_IS ts=false:=Z8 m1 qD;exact .mul 8 qD qX qX qX qX qX qX n_w_IS
 |false=>
 cases m2:isT 5 Z3E ts with
 |true=>
   have n_w_OR:isT 1 w_OR ts=false:=Z8 m2 qD;have n_w_AND:isT 1 Z22 ts=false:=Z8 m2 qD;have n_s_eq:isT 5 s_eq ts=false:=Z8 m2 qD;have n_s_ne:isT 5 s_ne ts=false:=Z8 m2 qD;have n_s_lt:isT 5 s_lt ts=false:=Z8 m2 qD;have n_s_le:isT 5 s_le ts=false:=Z8 m2 qD;have n_s_gt:isT 5 s_gt ts=false:=Z8 m2 qD;have n_s_ge:isT 5 s_ge ts=false:=Z8 m2 qD;have n_s_plus:isT 5 Z30 ts=false:=Z8 m2 qD;have n_s_minus:isT 5 Z1s ts=false:=Z8 m2 qD;have n_s_star:isT 5 Z1g ts=false:=Z8 m2 qD;have n_s_slash:isT 5 Z2F ts=false:=Z8 m2 qD;have n_w_IS:isT 1 w_IS ts=false:=Z8 m2 qD;exact .mul 9 qD qX qX qX qX qX qX n_w_IS
 |false=>
 exact .no qX qX qX qX qX qX
end Go.Pz
namespace Go.Pz
open Go Go.Vc
theorem okL.cons{t:T3}{r:List T3}(h:okL (t::r)):okT t/\okL r:=⟨h t (by simp),fun x hx=>h x (by simp[hx])⟩
theorem Zmn{s t:ByteArray}(h:sq s t=true):s.data.toList.length=t.data.toList.length:=by
 unfold sq at h;rw[beq_iff_eq]at h;rw[h]
theorem Z6j{t:T3}(h:okT t)(hk:t.k=5){s:ByteArray}(hs:2<s.data.toList.length):sq t.t s=false:=by
 cases e:sq t.t s with
 |false=>rfl
 |true=>have:=Zmn e;have:=(h.2.2 hk).2;omega
theorem agg20{s:ByteArray}{q:Int}(hq:aggK s=some q):(q==20)=sq s Z2E:=by
 unfold aggK at hq
 by_cases h1:sq s Z2E=true
 · rw[if_pos h1]at hq;injection hq with hq;subst hq;rw[h1];rfl
 · have h1':sq s Z2E=false:=by simpa using h1
   rw[if_neg h1]at hq;rw[h1']
   by_cases h2:sq s Z53=true
   · rw[if_pos h2]at hq;injection hq with hq;subst hq;rfl
   · rw[if_neg h2]at hq
     by_cases h3:sq s Z5r=true
     · rw[if_pos h3]at hq;injection hq with hq;subst hq;rfl
     · rw[if_neg h3]at hq
       by_cases h4:sq s Z5M=true
       · rw[if_pos h4]at hq;injection hq with hq;subst hq;rfl
       · rw[if_neg h4]at hq;cases hq
theorem ZbR{e e':Ps Ex}{N:Nat}(h: ∀ts,okL ts->ts.length<N->e ts=e' ts): ∀ts,okL ts->ts.length<=N->factorR e ts=factorP e' ts
 |[],_,_=>rfl
 |t::r,ho,hl=>by
   have hr:okL r:=ho.cons.2;have ht:=ho.cons.1;have hl':r.length<N:=by simp at hl;omega
   rw[factorR,factorP,ZbR h r hr qM];refine ite_congr rfl (fun _=>rfl) fun hm=>?_;rw[atomP,if_neg (show ¬(t.k==0)=true by have:=ht.1;rw[beq_iff_eq];omega)];refine ite_congr rfl (fun _=>rfl) fun h3=>ite_congr rfl (fun _=>rfl) fun h4=>ite_congr rfl (fun _=>rfl) fun h2=>?_;rw[beq_iff_eq]at h3 h4 h2
   by_cases h1:t.k=1
   · have hk5:(t.k==5)=false:=by rw[h1];rfl
     have htk:takeP 1 (t::r)=some (t,r):=by rw[takeP,h1];rfl
     rw[if_pos (show(t.k==1)=true by rw[h1];rfl),hk5,Bool.false_and,if_neg (show ¬false=true by decide)];unfold kwP;rw[htk,Option.bind_some];refine ite_congr rfl (fun _=>rfl) fun _=>ite_congr rfl (fun _=>rfl) fun _=>ite_congr rfl (fun _=>rfl) fun _=>?_;cases hq:aggK t.t with
     |none=>rfl
     |some q=>
       refine Zr fun y hy=>?_;have hys:=(Zi _ _ _ _ hy);rw[agg20 hq,h y.2 (hr.suf hys.1) (by have:=hys.2;omega)]
   · have h5:t.k=5:=by have:=ht.1;have:=ht.2.1;omega
     have hk5:(t.k==5)=true:=by rw[h5];rfl
     rw[Z6j ht h5 (s:=Z5j) qD,Z6j ht h5 (s:=Z4B) qD,Z6j ht h5 (s:=Z1v) qD,if_neg (show ¬(t.k==1)=true by rw[h5];decide)];rw[if_neg (show ¬false=true by decide),if_neg (show ¬false=true by decide),if_neg (show ¬false=true by decide),hk5,Bool.true_and];have hw:wantP 5 s_lp (t::r)=if sq t.t s_lp then some ((),r)else none:=by
       show(if((t.k==5)&&sq t.t s_lp)=true then some ((),r)else none)=_;rw[hk5,Bool.true_and]
     rw[hw]
     by_cases hs:sq t.t s_lp=true
     · rw[if_pos hs,if_pos hs,h r hr hl'];rfl
     · have ha:aggK t.t=none:=by
         unfold aggK;rw[Z6j ht h5 (s:=Z2E) qD,Z6j ht h5 (s:=Z53) qD,Z6j ht h5 (s:=Z5r) qD,Z6j ht h5 (s:=Z5M) qD]
         rfl
       rw[if_neg hs,if_neg hs,ha];rfl
theorem Z8m{part:Ps Ex}{k:Int}{ops:List (ByteArray×Int)}(hp:Dn part): ∀(n m:Nat) (x:Ex) (ts:List T3),ts.length<=n->ts.length<=m->chainG part k ops n x ts=chainG part k ops m x ts
 |0,m,x,ts,h,_=>by
   have:ts=[]:=List.length_eq_zero_iff.1 qM;subst this;cases m with
   |zero=>rfl
   |succ m=>rw[chainG,chainG,show opOf k ops []=none by induction ops with|nil=>rfl|cons a l ih=>obtain⟨s,n⟩:=a;exact ih]
 |n+1,0,x,ts,_,h=>by
   have:ts=[]:=List.length_eq_zero_iff.1 qM;subst this;rw[chainG,chainG,show opOf k ops []=none by induction ops with|nil=>rfl|cons a l ih=>obtain⟨s,n⟩:=a;exact ih]
 |n+1,m+1,x,ts,h,h'=>by
   unfold chainG
   split
   · rfl
   · rename_i q hq
     have h1:=(Z3A hq).2;exact Zr fun y hy=>Z8m hp n m _ _ (by have:=(hp _ _ hy).2;omega) (by have:=(hp _ _ hy).2;omega)
def chainC(part:Ps Ex)(k:Int)(ops:List (ByteArray×Int))(x:Ex):Ps Ex:=fun ts=>chainG part k ops ts.length x ts
theorem Z1Z{part:Ps Ex}{k:Int}{ops:List (ByteArray×Int)}{x:Ex}{ts:List T3}(h:opOf k ops ts=none):chainC part k ops x ts=some (x,ts):=by
 unfold chainC;cases ts.length with
 |zero=>rfl
 |succ n=>rw[chainG,h]
theorem Z3O{part:Ps Ex}{k q:Int}{ops:List (ByteArray×Int)}{x:Ex}{ts:List T3}(hp:Dn part)(h:opOf k ops ts=some q):chainC part k ops x ts=(part ts.tail).bind fun z=>chainC part k ops (nd q [x,z.1]) z.2:=by
 have h1:=(Z3A h).2;unfold chainC;rw[Z8m hp _ (ts.length+1) x ts qM qM,chainG,h];exact Zr fun y hy=>Z8m hp _ _ _ _ (by have:=(hp _ _ hy).2;omega) qM
theorem Z9A{part:Ps Ex}{k:Int}{ops:List (ByteArray×Int)}(hp:Dn part): ∀(n:Nat) (x:Ex) (ts:List T3) (z:Ex×List T3),ts.length<=n->chainC part k ops x ts=some z->opOf k ops z.2=none
 |n,x,ts,z,hl,h=>by
   cases hq:opOf k ops ts with
   |none=>rw[Z1Z hq]at h;injection h with h;subst h;exact hq
   |some q=>
     rw[Z3O hp hq]at h;obtain⟨y,h1,h2⟩:=bnd h;have h3:=(Z3A hq).2;have h4:=(hp _ _ h1).2;cases n with
     |zero=>omega
     |succ n=>exact Z9A hp n _ _ _ qM h2
theorem Z83{e:Int->Ps Ex}{l:Int}{m:Nat}{x:Ex}{c:Bool}:loopR e l m x c []=some (x,[]):=by
 cases m with
 |zero=>rfl
 |succ m=>simp[loopR,binR,binG,isT]
theorem Z5S{e:Int->Ps Ex}{l:Int}(he: ∀b,Dn (e b)): ∀(n m:Nat) (x:Ex) (c:Bool) (ts:List T3),ts.length<=n->ts.length<=m->loopR e l n x c ts=loopR e l m x c ts
 |0,m,x,c,ts,h,_=>by
   have:ts=[]:=List.length_eq_zero_iff.1 qM;subst this;rw[Z83,Z83]
 |n+1,0,x,c,ts,_,h=>by
   have:ts=[]:=List.length_eq_zero_iff.1 qM;subst this;rw[Z83,Z83]
 |n+1,m+1,x,c,ts,h,h'=>by
   rw[loopR,loopR]
   split
   · refine Zr fun y hy=>Z5S he n m _ _ _ ?_ ?_<;>(have h1:=(he _ _ _ hy).2;have h2:ts.tail.length<=ts.length:=(List.tail_suffix ts).length_le;simp at h1;omega)
   · split
     · refine Zr fun y hy=>Z5S he n m _ _ _ ?_ ?_<;>(have h1:=(Zi _ _ _ _ hy).2;have h2:=(Z2p 1 Z1c ts.tail).length_le;simp at h2;omega)
     · rfl
def loopC(e:Int->Ps Ex)(l:Int)(x:Ex)(c:Bool):Ps Ex:=fun ts=>loopR e l ts.length x c ts
theorem Z41{e:Int->Ps Ex}(he: ∀b,Dn (e b))(l:Int)(x:Ex)(c:Bool)(ts:List T3):loopC e l x c ts=
   if(decide (0<(binR ts).1)&&decide (l<(binR ts).2))&& !(c&&decide (4<=(binR ts).2))then(e (binR ts).2 ts.tail).bind fun z=>loopC e l (nd (binR ts).1 [x,z.1]) (c||decide ((binR ts).2<=4)) z.2
   else if(((binR ts).1==0&&decide (l<4))&& !c)&&isT 1 w_IS ts then(wantP 1 Z1v (skT 1 Z1c ts.tail)).bind fun v=>loopC e l (nd (if isT 1 Z1c ts.tail then 19 else 18) [x]) true v.2
   else some (x,ts):=by
 unfold loopC;rw[Z5S he _ (ts.length+1) x c ts qM qM,loopR]
 split
 · refine Zr fun y hy=>Z5S he _ _ _ _ _ ?_ qM
   have h1:=(he _ _ _ hy).2;have h2:ts.tail.length<=ts.length:=(List.tail_suffix ts).length_le;omega
 · split
   · refine Zr fun y hy=>Z5S he _ _ _ _ _ ?_ qM
     have h1:=(Zi _ _ _ _ hy).2;have h2:=(Z2p 1 Z1c ts.tail).length_le;simp at h2;omega
   · rfl
def lev(b:Int):Ps Ex:=if b=0 then orP exprX else if b=1 then andP exprX else if b=2 then notP exprX else if b=4 then sumP exprX else if b=5 then prodP exprX else factorP exprX
theorem Z3r(b:Int):Dn (lev b):=by
 have h:=Z6k.le;unfold lev
 repeat' split
 · exact Zil h
 · exact Z74 h
 · exact Z6e h
 · exact Z31 h
 · exact Z5V h
 · exact Z4k h
theorem bas{α β γ:Type}(p:Option α)(f:α->Option β)(g:β->Option γ):(p.bind f).bind g=p.bind fun x=>(f x).bind g:=Option.bind_assoc p f g
section
theorem fD:Dn (factorP exprX):=Z4k Z6k.le
theorem pD:Dn (prodP exprX):=Z5V Z6k.le
theorem nD:Dn (notP exprX):=Z6e Z6k.le
theorem aD:Dn (andP exprX):=Z74 Z6k.le
theorem loop6(x:Ex)(ts:List T3):(loopC lev) 6 x false ts=some (x,ts):=by
 rw[Z41 Z3r];cases cls ts<;>simp_all
theorem loop5: ∀(n:Nat) (x:Ex) (ts:List T3),ts.length<=n->(loopC lev) 5 x false ts=chainC (factorP exprX) 5 mulO x ts
 |n,x,ts,hn=>by
   rw[Z41 Z3r];cases cls ts with
   |mul q hq h h1 h2 h3 h4 h5 h6=>
     rw[Z3O fD h5];have hl:=(Z3A h5).2;simp only[h,hq,decide_true,Bool.false_and,Bool.not_false,Bool.and_true,Bool.true_and];rw[if_pos qD];refine Zr fun y hy=>?_;have h7:=(Z3r 6 _ _ hy).2;cases n with
     |zero=>omega
     |succ n=>exact loop5 n _ _ qM
   |_=>rw[Z1Z ‹opOf 5 mulO ts=none›];simp_all
theorem loop4: ∀(n:Nat) (x:Ex) (ts:List T3),ts.length<=n->(loopC lev) 4 x false ts=(chainC (factorP exprX) 5 mulO x ts).bind fun z=>chainC (prodP exprX) 5 addO z.1 z.2
 |n,x,ts,hn=>by
   rw[Z41 Z3r];cases cls ts with
   |mul q hq h h1 h2 h3 h4 h5 h6=>
     rw[Z3O fD h5,bas];have hl:=(Z3A h5).2;simp only[h,hq,decide_true,Bool.false_and,Bool.not_false,Bool.and_true,Bool.true_and];rw[if_pos qD];refine Zr fun y hy=>?_;have h7:=(Z3r 6 _ _ hy).2;cases n with
     |zero=>omega
     |succ n=>exact loop4 n _ _ qM
   |add q hq h h1 h2 h3 h4 h5 h6=>
     rw[Z1Z h5,Option.bind_some,Z3O pD h4];have hl:=(Z3A h4).2;simp only[h,hq,decide_true,Bool.false_and,Bool.not_false,Bool.and_true,Bool.true_and];rw[if_pos qD];refine Zr fun y hy=>?_;have h7:=(Z3r 5 _ _ hy).2;have hy':prodP exprX ts.tail=some y:=hy;obtain⟨u,h8,h9⟩:=bnd (show((factorP exprX ts.tail).bind fun z=>chainC (factorP exprX) 5 mulO z.1 z.2)=some y from hy');have h10:=Z9A fD _ _ _ _ (Nat.le_refl _) h9;cases n with
     |zero=>omega
     |succ n=>
       have:=loop4 n (nd q [x,y.1]) y.2 qM;rw[Z1Z h10,Option.bind_some]at this;exact this
   |_=>rw[Z1Z ‹opOf 5 mulO ts=none›,Option.bind_some,Z1Z ‹opOf 5 addO ts=none›];simp_all
end
end Go.Pz
namespace Go.Pz
open Go Go.Vc
section
section
variable{l b q:Int}{x:Ex}{c:Bool}{ts:List T3}
theorem stOp(h:binR ts=(q,b))(hq:0<q)(hl:l<b)(hc:(c&&decide (4<=b))=false):(loopC lev) l x c ts=(lev b ts.tail).bind fun z=>(loopC lev) l (nd q [x,z.1]) (c||decide (b<=4)) z.2:=by
 rw[Z41 Z3r,h,if_pos (by simp[hq,hl,hc])]
theorem stStop(h:binR ts=(q,b))(hq:0<q)(hl:(decide (l<b)&& !(c&&decide (4<=b)))=false):(loopC lev) l x c ts=some (x,ts):=by
 have h1:((decide (0<q)&&decide (l<b))&& !(c&&decide (4<=b)))=false:=by rw[Bool.and_assoc,hl,Bool.and_false]
 have h2:(q==0)=false:=by rw[beq_eq_false_iff_ne];omega
 rw[Z41 Z3r,h,if_neg (by rw[h1];decide),if_neg (by rw[h2];simp)]
theorem stIs(h:binR ts=(0,0))(hl:l<4)(hi:isT 1 w_IS ts=true):(loopC lev) l x false ts=(wantP 1 Z1v (skT 1 Z1c ts.tail)).bind fun v=>(loopC lev) l (nd (if isT 1 Z1c ts.tail then 19 else 18) [x]) true v.2:=by
 rw[Z41 Z3r,h,if_neg (by simp),hi,if_pos (by simp[hl])]
theorem stNo(h:binR ts=(0,0))(hl:((decide (l<4)&& !c)&&isT 1 w_IS ts)=false):(loopC lev) l x c ts=some (x,ts):=by
 rw[Z41 Z3r,h,if_neg (by simp),if_neg (by rw[show(((0:Int)==0&&decide (l<4))&& !c)=(decide (l<4)&& !c)from rfl,hl];decide)]
end
theorem loop2t(x:Ex)(ts:List T3):(loopC lev) 2 x true ts=some (x,ts):=by
 cases cls ts with
 |mul q hq h h1 h2 h3 h4 h5 h6=>exact stStop h hq qD
 |add q hq h h1 h2 h3 h4 h5 h6=>exact stStop h hq qD
 |cmp q hq h h1 h2 h3 h4 h5 h6=>exact stStop h hq qD
 |and h h1 h2 h3 h4 h5 h6=>exact stStop h qD qD
 |or h h1 h2 h3 h4 h5 h6 h7=>exact stStop h qD qD
 |no h h1 h2 h3 h4 h5=>exact stNo h (by rfl)
theorem loop2: ∀(n:Nat) (x:Ex) (ts:List T3),ts.length<=n->(loopC lev) 2 x false ts=((loopC lev) 4 x false ts).bind fun z=>cmpP exprX z.1 z.2
 |n,x,ts,hn=>by
   have tl:ts.tail.length<=ts.length:=(List.tail_suffix ts).length_le;have st: ∀(b:Int) (y:Ex×List T3) (q:Int),lev b ts.tail=some y->(loopC lev) 2 (nd q [x,y.1]) false y.2=((loopC lev) 4 (nd q [x,y.1]) false y.2).bind fun z=>cmpP exprX z.1 z.2:=fun b y q hy=>by
     have h7:=(Z3r b _ _ hy).2;cases n with
     |zero=>omega
     |succ n=>exact loop2 n _ _ qM
   cases cls ts with
   |mul q hq h h1 h2 h3 h4 h5 h6=>
     rw[stOp h hq qD qD,stOp h hq qD qD,bas];exact Zr fun y hy=>st 6 y _ hy
   |add q hq h h1 h2 h3 h4 h5 h6=>
     rw[stOp h hq qD qD,stOp h hq qD qD,bas];exact Zr fun y hy=>st 5 y _ hy
   |cmp q hq h h1 h2 h3 h4 h5 h6=>
     rw[stOp h hq qD qD,stStop (l:=4) h hq qD,Option.bind_some];unfold cmpP;rw[h3];show(sumP exprX ts.tail).bind _=(sumP exprX ts.tail).map _;cases sumP exprX ts.tail with
     |none=>rfl
     |some y=>exact loop2t _ _
   |no h h1 h2 h3 h4 h5=>
     rw[stNo (l:=4) h (by rfl),Option.bind_some];unfold cmpP;rw[h3];cases hi:isT 1 w_IS ts with
     |false=>rw[stNo h (by rw[hi];rfl)];rfl
     |true=>
       rw[stIs h qD hi];unfold skT;cases hj:isT 1 Z1c ts.tail with
       |true=>
         show(wantP 1 Z1v ts.tail.tail).bind _=(wantP 1 Z1v ts.tail.tail).map _;cases wantP 1 Z1v ts.tail.tail with
         |none=>rfl
         |some y=>exact loop2t _ _
       |false=>
         show(wantP 1 Z1v ts.tail).bind _=(wantP 1 Z1v ts.tail).map _;cases wantP 1 Z1v ts.tail with
         |none=>rfl
         |some y=>exact loop2t _ _
   |or h h1 h2 h3 h4 h5 h6 h7=>
     rw[stStop h qD qD,stStop (l:=4) h qD qD,Option.bind_some];unfold cmpP;rw[h3,h6];rfl
   |and h h1 h2 h3 h4 h5 h6=>
     rw[stStop h qD qD,stStop (l:=4) h qD qD,Option.bind_some];unfold cmpP;rw[h3,h6];rfl
theorem ZeN{k:Int}{s:ByteArray}{ts r:List T3}(h:Lt r (skT k s ts)):r.length<ts.length:=Nat.lt_of_lt_of_le h.2 (Z2p k s ts).length_le
theorem loop1: ∀(n:Nat) (x:Ex) (c:Bool) (ts:List T3),ts.length<=n->(loopC lev) 1 x c ts=((loopC lev) 2 x c ts).bind fun z=>chainC (notP exprX) 1 [(Z22,16)] z.1 z.2
 |n,x,c,ts,hn=>by
   have tl:ts.tail.length<=ts.length:=(List.tail_suffix ts).length_le;have st: ∀(b:Int) (c':Bool) (y:Ex×List T3) (q:Int),lev b ts.tail=some y->(loopC lev) 1 (nd q [x,y.1]) c' y.2=((loopC lev) 2 (nd q [x,y.1]) c' y.2).bind fun z=>chainC (notP exprX) 1 [(Z22,16)] z.1 z.2:=fun b c' y q hy=>by
     have h7:=(Z3r b _ _ hy).2;cases n with
     |zero=>omega
     |succ n=>exact loop1 n _ _ _ qM
   cases cls ts with
   |mul q hq h h1 h2 h3 h4 h5 h6=>
     cases c with
     |false=>
       rw[stOp h hq qD qD,stOp (l:=2) h hq qD qD,bas];exact Zr fun y hy=>st 6 _ y _ hy
     |true=>rw[stStop h hq qD,stStop (l:=2) h hq qD,Option.bind_some,Z1Z h2]
   |add q hq h h1 h2 h3 h4 h5 h6=>
     cases c with
     |false=>
       rw[stOp h hq qD qD,stOp (l:=2) h hq qD qD,bas];exact Zr fun y hy=>st 5 _ y _ hy
     |true=>rw[stStop h hq qD,stStop (l:=2) h hq qD,Option.bind_some,Z1Z h2]
   |cmp q hq h h1 h2 h3 h4 h5 h6=>
     cases c with
     |false=>
       rw[stOp h hq qD qD,stOp (l:=2) h hq qD qD,bas];exact Zr fun y hy=>st 4 _ y _ hy
     |true=>rw[stStop h hq qD,stStop (l:=2) h hq qD,Option.bind_some,Z1Z h2]
   |and h h1 h2 h3 h4 h5 h6=>
     rw[stOp h qD qD (by cases c<;>decide),stStop (l:=2) h qD (by cases c<;>decide),Option.bind_some,Z3O nD h2];refine Zr fun y hy=>?_;have h7:=st 2 true y 16 hy;rw[loop2t,Option.bind_some]at h7;rw[show(c||decide ((2:Int)<=4))=true by cases c<;>rfl];exact h7
   |or h h1 h2 h3 h4 h5 h6 h7=>rw[stStop h qD (by cases c<;>decide),stStop (l:=2) h qD (by cases c<;>decide),Option.bind_some,Z1Z h2]
   |no h h1 h2 h3 h4 h5=>
     cases hi:isT 1 w_IS ts with
     |false=>rw[stNo h (by rw[hi,Bool.and_false]),stNo (l:=2) h (by rw[hi,Bool.and_false]),Option.bind_some,Z1Z h2]
     |true=>
       cases c with
       |true=>rw[stNo h (by rfl),stNo (l:=2) h (by rfl),Option.bind_some,Z1Z h2]
       |false=>
         rw[stIs h qD hi,stIs (l:=2) h qD hi,bas];refine Zr fun y hy=>?_;have h7:=ZeN (Zi _ _ _ _ hy);cases n with
         |zero=>omega
         |succ n=>exact loop1 n _ _ _ qM
theorem loop1t(x:Ex)(ts:List T3):(loopC lev) 1 x true ts=chainC (notP exprX) 1 [(Z22,16)] x ts:=by
 rw[loop1 _ _ _ _ (Nat.le_refl _),loop2t];rfl
theorem loop0: ∀(n:Nat) (x:Ex) (c:Bool) (ts:List T3),ts.length<=n->(loopC lev) 0 x c ts=((loopC lev) 1 x c ts).bind fun z=>chainC (andP exprX) 1 [(w_OR,17)] z.1 z.2
 |n,x,c,ts,hn=>by
   have tl:ts.tail.length<=ts.length:=(List.tail_suffix ts).length_le;have st: ∀(b:Int) (c':Bool) (y:Ex×List T3) (q:Int),lev b ts.tail=some y->(loopC lev) 0 (nd q [x,y.1]) c' y.2=((loopC lev) 1 (nd q [x,y.1]) c' y.2).bind fun z=>chainC (andP exprX) 1 [(w_OR,17)] z.1 z.2:=fun b c' y q hy=>by
     have h7:=(Z3r b _ _ hy).2;cases n with
     |zero=>omega
     |succ n=>exact loop0 n _ _ _ qM
   cases cls ts with
   |mul q hq h h1 h2 h3 h4 h5 h6=>
     cases c with
     |false=>
       rw[stOp h hq qD qD,stOp (l:=1) h hq qD qD,bas];exact Zr fun y hy=>st 6 _ y _ hy
     |true=>rw[stStop h hq qD,stStop (l:=1) h hq qD,Option.bind_some,Z1Z h1]
   |add q hq h h1 h2 h3 h4 h5 h6=>
     cases c with
     |false=>
       rw[stOp h hq qD qD,stOp (l:=1) h hq qD qD,bas];exact Zr fun y hy=>st 5 _ y _ hy
     |true=>rw[stStop h hq qD,stStop (l:=1) h hq qD,Option.bind_some,Z1Z h1]
   |cmp q hq h h1 h2 h3 h4 h5 h6=>
     cases c with
     |false=>
       rw[stOp h hq qD qD,stOp (l:=1) h hq qD qD,bas];exact Zr fun y hy=>st 4 _ y _ hy
     |true=>rw[stStop h hq qD,stStop (l:=1) h hq qD,Option.bind_some,Z1Z h1]
   |and h h1 h2 h3 h4 h5 h6=>
     rw[stOp h qD qD (by cases c<;>decide),stOp (l:=1) h qD qD (by cases c<;>decide),bas];exact Zr fun y hy=>st 2 _ y _ hy
   |or h h1 h2 h3 h4 h5 h6 h7=>
     rw[stOp h qD qD (by cases c<;>decide),stStop (l:=1) h qD (by cases c<;>decide),Option.bind_some,Z3O aD h7];refine Zr fun y hy=>?_;have h8:=st 1 true y 17 hy;obtain⟨u,h9,h10⟩:=bnd (show((notP exprX ts.tail).bind fun z=>chainC (notP exprX) 1 [(Z22,16)] z.1 z.2)=some y from hy);rw[loop1t,Z1Z (Z9A nD _ _ _ _ (Nat.le_refl _) h10),Option.bind_some]at h8;rw[show(c||decide ((1:Int)<=4))=true by cases c<;>rfl];exact h8
   |no h h1 h2 h3 h4 h5=>
     cases hi:isT 1 w_IS ts with
     |false=>rw[stNo h (by rw[hi,Bool.and_false]),stNo (l:=1) h (by rw[hi,Bool.and_false]),Option.bind_some,Z1Z h1]
     |true=>
       cases c with
       |true=>rw[stNo h (by rfl),stNo (l:=1) h (by rfl),Option.bind_some,Z1Z h1]
       |false=>
         rw[stIs h qD hi,stIs (l:=1) h qD hi,bas];refine Zr fun y hy=>?_;have h7:=ZeN (Zi _ _ _ _ hy);cases n with
         |zero=>omega
         |succ n=>exact loop0 n _ _ _ qM
theorem Z6u{e:Int->Ps Ex}{l:Int}{N:Nat}(h: ∀b,b=1\/b=2\/b=4\/b=5\/b=6->∀ts,okL ts->ts.length<N->e b ts=lev b ts): ∀(m:Nat) (x:Ex) (c:Bool) (ts:List T3),okL ts->ts.length<=N->loopR e l m x c ts=loopR lev l m x c ts
 |0,_,_,_,_,_=>rfl
 |m+1,x,c,ts,ho,hl=>by
   rw[loopR,loopR];refine ite_congr rfl (fun hc=>?_) fun _=>ite_congr rfl (fun hc=>?_) fun _=>rfl
   · have hb:(binR ts).2=1\/(binR ts).2=2\/(binR ts).2=4\/(binR ts).2=5\/(binR ts).2=6:=by
       cases cls ts<;>simp_all
     have hlt:ts.tail.length<ts.length:=by
       cases ts with
       |nil=>simp[binR,binG,isT]at hc
       |cons t r=>simp
     rw[h _ hb ts.tail ho.tail qM];exact Zr fun y hy=>Z6u h m _ _ _ (ho.tail.suf (Z3r _ _ _ hy).1) (by have:=(Z3r _ _ _ hy).2;omega)
   · refine Zr fun y hy=>Z6u h m _ _ _ ?_ ?_
     · exact ho.suf (((Zi _ _ _ _ hy).1.trans (Z2p _ _ _)).trans (List.tail_suffix ts))
     · have h1:=ZeN (Zi _ _ _ _ hy)
       have h2:=(List.tail_suffix ts).length_le
       omega
theorem Zjw(x:Ex)(ts:List T3):(loopC lev) 4 x false ts=(chainC (factorP exprX) 5 mulO x ts).bind fun z=>chainC (prodP exprX) 5 addO z.1 z.2:=loop4 _ x ts (Nat.le_refl _)
theorem ZhB(ts:List T3):sumP exprX ts=(factorP exprX ts).bind fun z=>(loopC lev) 4 z.1 false z.2:=by
 show((factorP exprX ts).bind fun z=>chainC (factorP exprX) 5 mulO z.1 z.2).bind (fun z=>chainC (prodP exprX) 5 addO z.1 z.2)=_;rw[bas];exact Zr fun y _=>(Zjw _ _).symm
theorem Zf2{ts:List T3}(h:isT 1 Z1c ts=false):notP exprX ts=(factorP exprX ts).bind fun z=>(loopC lev) 2 z.1 false z.2:=by
 have e:notP exprX ts=(sumP exprX ts).bind fun z=>cmpP exprX z.1 z.2:=by
  cases ts with
  |nil=>rw[notP]
  |cons t r=>rw[notP,if_neg (by rw[h];decide)]
 rw[e,ZhB,bas];exact Zr fun y _=>(loop2 _ _ _ (Nat.le_refl _)).symm
theorem Z5n{ts:List T3}(h:isT 1 Z1c ts=true):notP exprX ts=(notP exprX ts.tail).bind fun z=>(loopC lev) 2 (nd 4 [z.1]) true z.2:=by
 obtain⟨t,r,rfl,_⟩:=Z5t h;rw[notP,if_pos h];show(notP exprX r).map _=(notP exprX r).bind _;cases notP exprX r with
 |none=>rfl
 |some y=>exact(loop2t _ _).symm
theorem ZbD: ∀(n:Nat) (l:Int),(l=0\/l=1\/l=2\/l=4\/l=5\/l=6)->∀ts,okL ts->ts.length<n->exprR n l ts=lev l ts
 |0,_,_,_,_,h=>absurd h qM
 |n+1,l,hl,ts,ho,hn=>by
   have ih: ∀b,b=1\/b=2\/b=4\/b=5\/b=6->∀ts,okL ts->ts.length<n->exprR n b ts=lev b ts:=fun b hb ts ho hn=>ZbD n b qM ts ho hn;have hf:factorR (exprR n 0) ts=factorP exprX ts:=ZbR (N:=n) (fun ts ho hn=>by
     rw[ZbD n 0 qM ts ho hn];exact(ZeK ts).symm) ts ho qM
   have hfl: ∀y,factorP exprX ts=some y->y.2.length<=n/\okL y.2:=fun y hy=>by
     have:=fD _ _ hy;exact⟨by have:=this.2;omega,ho.suf this.1⟩
   have hstep:((factorR (exprR n 0) ts).bind fun z=>loopR (exprR n) l z.2.length z.1 false z.2)=(factorP exprX ts).bind fun z=>(loopC lev) l z.1 false z.2:=by
     rw[hf];exact Zr fun y hy=>Z6u ih _ _ _ _ (hfl y hy).2 (hfl y hy).1
   rw[exprR];show(if(decide (l<3)&&isT 1 Z1c ts)=true then(exprR n 2 ts.tail).bind fun z=>loopR (exprR n) l z.2.length (nd 4 [z.1]) true z.2 else(factorR (exprR n 0) ts).bind fun z=>loopR (exprR n) l z.2.length z.1 false z.2)=lev l ts
   by_cases hN:(decide (l<3)&&isT 1 Z1c ts)=true
   · rw[if_pos hN]
     simp only[Bool.and_eq_true,decide_eq_true_eq]at hN;have htl:=ZG hN.2;rw[ih 2 qM ts.tail ho.tail (by have:=htl.2;omega)];have hs2:((lev 2 ts.tail).bind fun z=>loopR (exprR n) l z.2.length (nd 4 [z.1]) true z.2)=(notP exprX ts.tail).bind fun z=>(loopC lev) l (nd 4 [z.1]) true z.2:=
       Zr fun y hy=>by
         have h1:=Z3r 2 _ _ hy;exact Z6u ih _ _ _ _ (ho.tail.suf h1.1) (by have:=h1.2;have:=htl.2;omega)
     rw[hs2];have hn2:=Z5n hN.2;rcases hl with rfl|rfl|rfl|hl
     · show _=orP exprX ts
       have e1:andP exprX ts=(notP exprX ts.tail).bind fun z=>(loopC lev) 1 (nd 4 [z.1]) true z.2:=by
         show(notP exprX ts).bind (fun z=>chainC (notP exprX) 1 [(Z22,16)] z.1 z.2)=_;rw[hn2,bas];exact Zr fun y _=>(loop1 _ _ _ _ (Nat.le_refl _)).symm
       show _=(andP exprX ts).bind (fun z=>chainC (andP exprX) 1 [(w_OR,17)] z.1 z.2);rw[e1,bas];exact Zr fun y _=>loop0 _ _ _ _ (Nat.le_refl _)
     · show _=(notP exprX ts).bind (fun z=>chainC (notP exprX) 1 [(Z22,16)] z.1 z.2)
       rw[hn2,bas];exact Zr fun y _=>loop1 _ _ _ _ (Nat.le_refl _)
     · exact hn2.symm
     · omega
   · rw[if_neg hN,hstep]
     have hN':l<3->isT 1 Z1c ts=false:=fun h=>by simpa [h] using hN
     rcases hl with rfl|rfl|rfl|rfl|rfl|rfl
     · have hn2:=Zf2 (hN' qD)
       have e1:andP exprX ts=(factorP exprX ts).bind fun z=>(loopC lev) 1 z.1 false z.2:=by
         show(notP exprX ts).bind (fun z=>chainC (notP exprX) 1 [(Z22,16)] z.1 z.2)=_;rw[hn2,bas];exact Zr fun y _=>(loop1 _ _ _ _ (Nat.le_refl _)).symm
       show _=(andP exprX ts).bind (fun z=>chainC (andP exprX) 1 [(w_OR,17)] z.1 z.2);rw[e1,bas];exact Zr fun y _=>loop0 _ _ _ _ (Nat.le_refl _)
     · show _=(notP exprX ts).bind (fun z=>chainC (notP exprX) 1 [(Z22,16)] z.1 z.2)
       rw[Zf2 (hN' qD),bas];exact Zr fun y _=>loop1 _ _ _ _ (Nat.le_refl _)
     · exact(Zf2 (hN' qD)).symm
     · exact(ZhB ts).symm
     · show _=(factorP exprX ts).bind (fun z=>chainC (factorP exprX) 5 mulO z.1 z.2)
       exact Zr fun y _=>loop5 _ _ _ (Nat.le_refl _)
     · show _=factorP exprX ts
       cases factorP exprX ts with
       |none=>rfl
       |some y=>exact loop6 _ _
end
end Go.Pz
namespace Go.Pz
open Go Go.Vc
theorem Zjk:Dn typeP:=fun ts z h=>by
 unfold typeP at h
 split at h
 · rename_i hi;injection h with h;subst h;exact ZG hi
 split at h
 · rename_i hi;injection h with h;subst h;exact ZG hi
 split at h
 · rename_i hi;injection h with h;subst h;exact ZG hi
 · cases h
theorem Zdc(n:ByteArray)(t:Int)(nn:Bool):Dn0 (colEnd n t nn):=fun ts z h=>by
 unfold colEnd at h
 split at h
 · rename_i hi
   obtain⟨v,h7,rfl⟩:=mpd h;exact(Zi _ _ _ _ h7).1.trans (ZG hi).1
 · injection h with h;subst h;exact Z2p _ _ _
theorem ZcE:Dn colP:=fun ts z h=>by
 obtain⟨n,h1,h2⟩:=bnd h;obtain⟨t,h3,h4⟩:=bnd h2;have h5:Lt t.2 ts:=Lt.trans (Zjk _ _ h3) (Z14 _ _ h1).1
 split at h4
 · rename_i hi
   obtain⟨v,h6,h7⟩:=bnd h4;exact Lt.trans' ((Zdc _ _ _ _ _ h7).trans ((Zi _ _ _ _ h6).1.trans (ZG hi).1)) h5
 · exact Lt.trans' (Zdc _ _ _ _ _ h4) h5
theorem ZbE{α:Type}{part:Ps α}(hp:Dn0 part): ∀n,Dn0 (listG part n)
 |0,ts,z,h=>by rw[listG]at h;injection h with h;subst h;exact List.suffix_refl ts
 |n+1,ts,z,h=>by
   rw[listG]at h
   split at h
   · rename_i hi
     obtain⟨w,h1,h2⟩:=bnd h;obtain⟨y,h3,rfl⟩:=mpd h2;exact(ZbE hp n _ _ h3).trans ((hp _ _ h1).trans (ZG hi).1)
   · injection h with h;subst h;exact List.suffix_refl ts
theorem Z3N{α:Type}{part:Ps α}(hp:Dn0 part)(most:Nat):Dn0 (listP most part):=fun ts z h=>by
 obtain⟨w,h1,h2⟩:=bnd h;obtain⟨y,h3,h4⟩:=bnd h2
 split at h4
 · injection h4 with h4;subst h4;exact(show y.2<:+w.2 from ZbE hp _ _ _ h3).trans (hp _ _ h1)
 · cases h4
theorem Z5s{α:Type}{part:Ps α}(hp:Dn part)(most:Nat):Dn (listP most part):=fun ts z h=>by
 obtain⟨w,h1,h2⟩:=bnd h;obtain⟨y,h3,h4⟩:=bnd h2
 split at h4
 · injection h4 with h4;subst h4;exact Lt.trans' (show y.2<:+w.2 from ZbE hp.le _ _ _ h3) (hp _ _ h1)
 · cases h4
theorem Z3T{α:Type}{part:Ps α}(hp:Dn0 part):Dn (withinP part):=fun ts z h=>by
 obtain⟨a,h1,h2⟩:=bnd h;obtain⟨l,h3,h4⟩:=bnd h2;obtain⟨v,h5,rfl⟩:=mpd h4;exact Lt.trans (Zi _ _ _ _ h5) ((Z3N hp 16 _ _ h3).trans (Zi _ _ _ _ h1).1)
theorem Z4I{e:Ps Ex}(he:Dn e):Dn (itemP e):=fun ts z h=>by
 unfold itemP at h
 split at h
 · rename_i hi;injection h with h;subst h;exact ZG hi
 · obtain⟨v,h5,rfl⟩:=mpd h;exact he _ _ h5
theorem Z68{e:Ps Ex}(he:Dn e):Dn (keyP e):=fun ts z h=>by
 obtain⟨v,h5,h6⟩:=mpd h;have h7:=he _ _ h5
 split at h6
 · rename_i hi;subst h6;exact Lt.trans (ZG hi) h7.1
 · subst h6;exact Lt.trans' (Z2p _ _ _) h7
theorem Z77{e:Ps Ex}(he:Dn e):Dn (setP e):=fun ts z h=>by
 obtain⟨a,h1,h2⟩:=bnd h;obtain⟨l,h3,h4⟩:=bnd h2;obtain⟨v,h5,rfl⟩:=mpd h4;exact Lt.trans (he _ _ h5) ((Zi _ _ _ _ h3).1.trans (Z14 _ _ h1).1)
theorem Z3P:Dn sourceP:=fun ts z h=>by
 obtain⟨a,h1,h2⟩:=bnd h;have h3:=Z14 _ _ h1
 split at h2
 · rename_i hi
   obtain⟨v,h5,rfl⟩:=mpd h2;exact Lt.trans (Z14 _ _ h5) ((ZG hi).1.trans h3.1)
 split at h2
 · obtain⟨v,h5,rfl⟩:=mpd h2
   exact Lt.trans (Z14 _ _ h5) h3.1
 · injection h2 with h2;subst h2;exact h3
theorem Z4O{e:Ps Ex}(he:Dn e):Dn (joinP e):=fun ts z h=>by
 obtain⟨a,h1,h2⟩:=bnd h;obtain⟨s,h3,h4⟩:=bnd h2;obtain⟨b,h5,h6⟩:=bnd h4;obtain⟨v,h7,rfl⟩:=mpd h6;exact Lt.trans (he _ _ h7) ((Zi _ _ _ _ h5).1.trans ((Z3P _ _ h3).1.trans (Zi _ _ _ _ h1).1))
def Stop(q:List T3):Prop:=∀k s,(k==5&&(sq s Z5d||sq s s_rp))=false->isT k s q=false
def Stab{α:Type}(q:List T3)(p p':Ps α):Prop:=∀l z,p l=some z->p' (l++q)=some (z.1,z.2++q)
section
variable{q:List T3}(hq:Stop q)
theorem Zc3{k:Int}{s:ByteArray}{l:List T3}(h:isT k s l=true):l≠[]:=by
 obtain⟨t,r,rfl,_⟩:=Z5t h;simp
include hq
section
variable{e e':Ps Ex}(he:Stab q e e')
include he
end
section
variable{e e':Ps Ex}(he:Stab q e e')(hd:Dn e)
include he
include hd
end
end
end Go.Pz
set_option maxRecDepth 20000
namespace Go.Pz
open Go Go.Vc
abbrev kw(s:ByteArray):T3:=⟨1,s,0⟩
abbrev nm_(s:ByteArray):T3:=⟨2,s,0⟩
abbrev sg(s:ByteArray):T3:=⟨5,s,0⟩
end Go.Pz
