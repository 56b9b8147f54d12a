/- What is printed of an expression, as tokens; the grammar reads them as it. Plain. No condition. -/
import Derived.Test.YtbedigkncjbggaaGreatDoorXQ1
import Derived.Test.YtbedigkncjbggaaGreatDoorProg
import Derived.Test.YtbedigkncjbggaaGreatDoorXG7
import Derived.Shelf.Strings.OnBuilder
import Derived.Shelf.Small.Strs
import Derived.Shelf.Strings.Search3
import Derived.Shelf.Strings.Fields
set_option maxRecDepth 20000
namespace Go.Pz
open Go Go.Vc
abbrev binO:List (Int×ByteArray×Int):=[(5,Z30,5),(5,Z1s,6),(5,Z1g,7),(5,Z2F,8),(5,Z3E,9),(5,s_eq,10),(5,s_ne,11),(5,s_lt,12),(5,s_le,13),(5,s_gt,14),(5,s_ge,15),(1,Z22,16),(1,w_OR,17)]
def aggW(k:Int):ByteArray:=if k==20 then Z2E else if k==21 then Z53 else if k==22 then Z5r else Z5M
def binT(k:Int):T3:=((binO.find? (fun o=>o.2.2==k)).map fun o=>(⟨o.1,o.2.1,0⟩:T3)).getD t3D
inductive Wf (nk:ByteArray->Prop):Ex->Prop
 |num {n:Int} (h0:0<=n) (h1:n<=9223372036854775807):Wf nk (lit 1 n em)
 |txt {s:ByteArray} (h:s.size<=64):Wf nk (lit 3 0 s)
 |tru:Wf nk (lit 2 1 em)
 |fls:Wf nk (lit 2 0 em)
 |nul:Wf nk (lit 0 0 em)
 |col {s:ByteArray} (h:nk s):Wf nk (.mk 2 0 0 em em s 0 [])
 |tcol {t s:ByteArray} (ht:nk t) (h:nk s):Wf nk (.mk 2 0 0 em t s 0 [])
 |neg {x:Ex} (h:Wf nk x):Wf nk (nd 3 [x])
 |not {x:Ex} (h:Wf nk x):Wf nk (nd 4 [x])
 |isn {x:Ex} (h:Wf nk x):Wf nk (nd 18 [x])
 |iss {x:Ex} (h:Wf nk x):Wf nk (nd 19 [x])
 |bin {q:Int} {x y:Ex} (h5:5<=q) (h17:q<=17) (hx:Wf nk x) (hy:Wf nk y):Wf nk (nd q [x,y])
 |cnt:Wf nk (nd 20 [])
 |agg {q:Int} {x:Ex} (h0:20<=q) (h1:q<=23) (hx:Wf nk x):Wf nk (nd q [x])
def litT(vk vn:Int)(vs:ByteArray):T3:=if vk==1 then⟨3,em,vn⟩else if vk==3 then⟨4,vs,0⟩else if vk==2 then(if vn==1 then kw Z5j else kw Z4B)else kw Z1v
def big(x:Ex):Bool:=decide (0<x.KS.length)&&decide (x.K<20)
abbrev hd0{α:Type}(l:List (List α×List α)):List α:=(l.getD 0 ([],[])).2
abbrev hd1{α:Type}(l:List (List α×List α)):List α:=(l.getD 1 ([],[])).2
def parT(x:Ex)(l:List T3):List T3:=if big x then sg s_lp::(l++[sg s_rp])else l
mutual
def tkE:Ex->List T3
 | .mk k vk vn vs tb nm _ kids=>
   if k==1 then[litT vk vn vs]
   else if k==2 then(if sq tb em then[nm_ nm]else[nm_ tb,sg Z5p,nm_ nm])
   else if k==3 then sg Z1s::hd0 (tkEs kids)
   else if k==4 then kw Z1c::hd0 (tkEs kids)
   else if k==18 then hd0 (tkEs kids)++[kw w_IS,kw Z1v]
   else if k==19 then hd0 (tkEs kids)++[kw w_IS,kw Z1c,kw Z1v]
   else if decide (20<=k)then kw (aggW k)::sg s_lp::((match tkEs kids with|[]=>[sg Z1g]|y::_=>y.1)++[sg s_rp])
   else hd0 (tkEs kids)++binT k::hd1 (tkEs kids)
def tkEs:List Ex->List (List T3×List T3)
 |[]=>[]
 |x::xs=>(tkE x,parT x (tkE x))::tkEs xs
end
def tkO(x:Ex):List T3:=parT x (tkE x)
structure Nx (r:List T3):Prop where
 dot:isT 5 Z5p r=false
 mul:opOf 5 mulO r=none
 add:opOf 5 addO r=none
 cmp:opOf 5 cmpO r=none
 is:isT 1 w_IS r=false
 and:opOf 1 [(Z22,16)] r=none
 or:opOf 1 [(w_OR,17)] r=none
section
variable{ts r:List T3}{x:Ex}
end
structure Opd (x:Ex):Prop where
 rd: ∀r,isT 5 Z5p r=false->factorP exprX (tkO x++r)=some (x,r)
 nn: ∀r,isT 1 Z1c (tkO x++r)=false
def Rd(x:Ex):Prop:=∀r,Nx r->exprX (tkE x++r)=some (x,r)
section
variable{x y:Ex}(ox:Opd x)(oy:Opd y)
include ox
include oy
end
end Go.Pz
set_option maxRecDepth 20000
namespace Go.Pz
open Go Go.Vc
def tk1(nk:ByteArray->Prop)(t:T3):Prop:=(t.k=2->nk t.t)/\(t.k=3->0<=t.n/\t.n<=9223372036854775807)/\(t.k=4->t.t.size<=64)
def tkL(nk:ByteArray->Prop)(ts:List T3):Prop:=∀t∈ts,tk1 nk t
theorem tkL.suf{nk:ByteArray->Prop}{r ts:List T3}(h:tkL nk ts)(hs:r<:+ts):tkL nk r:=fun t ht=>h t (hs.subset ht)
theorem tkL.tail{nk:ByteArray->Prop}{ts:List T3}(h:tkL nk ts):tkL nk ts.tail:=h.suf (List.tail_suffix ts)
def Yl{α:Type}(nk:ByteArray->Prop)(Q:α->Prop)(p:Ps α):Prop:=∀ts z,tkL nk ts->p ts=some z->Q z.1
theorem Zbm{P:Int->Prop}{k q:Int}: ∀{ops:List (ByteArray×Int)} {ts:List T3},(∀o∈ops,P o.2)->opOf k ops ts=some q->P q
 |[],_,_,h=>by cases h
 |(s,n)::l,ts,hp,h=>by
   unfold opOf at h
   split at h
   · injection h with h;subst h;exact hp _ List.mem_cons_self
   · exact Zbm (fun o ho=>hp o (List.mem_cons_of_mem _ ho)) h
section
variable{nk:ByteArray->Prop}{e:Ps Ex}
theorem Zdi{part:Ps Ex}{k:Int}{ops:List (ByteArray×Int)}(hd:Dn0 part)(hp:Yl nk (Wf nk) part)(ho: ∀o∈ops,5<=o.2/\o.2<=17): ∀(n:Nat) (x:Ex) (ts:List T3) (z:Ex×List T3),Wf nk x->tkL nk ts->chainG part k ops n x ts=some z->Wf nk z.1
 |0,x,ts,z,hx,_,h=>by unfold chainG at h;injection h with h;subst h;exact hx
 |n+1,x,ts,z,hx,ht,h=>by
   unfold chainG at h
   split at h
   · injection h with h;subst h;exact hx
   · rename_i q hq
     obtain⟨y,h1,h2⟩:=bnd h;have hr:=Zbm (P:=fun q=>5<=q/\q<=17) ho hq;exact Zdi hd hp ho n _ _ _ (.bin hr.1 hr.2 hx (hp _ _ ht.tail h1)) (ht.tail.suf (hd _ _ h1)) h2
theorem Z81{part:Ps Ex}{k:Int}{ops:List (ByteArray×Int)}(hd:Dn0 part)(hp:Yl nk (Wf nk) part)(ho: ∀o∈ops,5<=o.2/\o.2<=17):Yl nk (Wf nk) (chainP part k ops):=fun ts z ht h=>by
 obtain⟨y,h1,h2⟩:=bnd h;exact Zdi hd hp ho _ _ _ _ (hp _ _ ht h1) (ht.suf (hd _ _ h1)) h2
theorem Zfv{s:ByteArray}{q:Int}(h:aggK s=some q):20<=q/\q<=23:=by
 unfold aggK at h
 split at h
 · injection h with h;omega
 · split at h
   · injection h with h;omega
   · split at h
     · injection h with h;omega
     · split at h
       · injection h with h;omega
       · cases h
theorem Zmq(he:Yl nk (Wf nk) e)(hd:Dn0 e):Yl nk (Wf nk) (kwP e):=fun ts z ht h=>by
 obtain⟨y,h1,h2⟩:=bnd h;have t1:=ht.suf (Z1N 1 _ _ h1).1
 split at h2
 · injection h2 with h2;subst h2;exact .tru
 · split at h2
   · injection h2 with h2;subst h2;exact .fls
   · split at h2
     · injection h2 with h2;subst h2;exact .nul
     · split at h2
       · cases h2
       · rename_i q hq
         obtain⟨u,h4,h5⟩:=bnd h2;have t2:=t1.suf (Zi _ _ _ _ h4).1
         split at h5
         · obtain⟨v,h7,rfl⟩:=mpd h5;exact .cnt
         · obtain⟨v,h7,h8⟩:=bnd h5
           obtain⟨v',h9,rfl⟩:=mpd h8;exact .agg (Zfv hq).1 (Zfv hq).2 (he _ _ t2 h7)
theorem Z2m:Yl nk nk nameP:=fun ts z ht h=>by
 obtain⟨y,hy,rfl⟩:=mpd h;cases ts with
 |nil=>cases hy
 |cons t r=>
   rw[takeP]at hy
   split at hy
   · rename_i hk
     injection hy with hy;subst hy
     exact(ht t List.mem_cons_self).1 (by simpa using hk)
   · cases hy
theorem Zen(he:Yl nk (Wf nk) e)(hd:Dn0 e):Yl nk (Wf nk) (atomP e):=fun ts z ht h=>by
 cases ts with
 |nil=>cases h
 |cons t r=>
   have h0:=ht t List.mem_cons_self;rw[atomP]at h
   split at h
   · rename_i hk
     injection h with h;subst h
     have:=h0.2.1 (by simpa using hk);exact .num this.1 this.2
   · split at h
     · rename_i hk
       injection h with h;subst h
       exact .txt (h0.2.2 (by simpa using hk))
     · split at h
       · rename_i hk
         have hn:=h0.1 (by simpa using hk)
         split at h
         · obtain⟨v,h7,rfl⟩:=mpd h
           exact .tcol hn (Z2m _ _ (ht.tail.tail) h7)
         · injection h with h;subst h;exact .col hn
       · split at h
         · exact Zmq he hd _ _ ht h
         · obtain⟨u,h4,h5⟩:=bnd h
           obtain⟨v,h7,h8⟩:=bnd h5;obtain⟨v',h9,rfl⟩:=mpd h8;have:=he _ _ (ht.suf (Zi _ _ _ _ h4).1) h7;exact this
theorem Zcb(he:Yl nk (Wf nk) e)(hd:Dn0 e): ∀ts z,tkL nk ts->factorP e ts=some z->Wf nk z.1
 |[],z,ht,h=>by rw[factorP]at h;exact Zen he hd _ _ ht h
 |t::r,z,ht,h=>by
   rw[factorP]at h
   split at h
   · obtain⟨v,h7,rfl⟩:=mpd h
     exact .neg (Zcb he hd r v ht.tail h7)
   · exact Zen he hd _ _ ht h
theorem ZiY(he:Yl nk (Wf nk) e)(hd:Dn0 e):Yl nk (Wf nk) (prodP e):=Z81 (Z4k hd).le (Zcb he hd) qD
theorem Zcm(he:Yl nk (Wf nk) e)(hd:Dn0 e):Yl nk (Wf nk) (sumP e):=Z81 (Z5V hd).le (ZiY he hd) qD
theorem Zgg(he:Yl nk (Wf nk) e)(hd:Dn0 e){x:Ex}(hx:Wf nk x):Yl nk (Wf nk) (cmpP e x):=fun ts z ht h=>by
 unfold cmpP at h
 split at h
 · rename_i q hq
   obtain⟨v,h7,rfl⟩:=mpd h;have hr:=Zbm (P:=fun q=>5<=q/\q<=17) qD hq;exact .bin hr.1 hr.2 hx (Zcm he hd _ _ ht.tail h7)
 · split at h
   · split at h
     · obtain⟨v,h7,rfl⟩:=mpd h;exact .iss hx
     · obtain⟨v,h7,rfl⟩:=mpd h;exact .isn hx
   · injection h with h;subst h;exact hx
theorem Zgl(he:Yl nk (Wf nk) e)(hd:Dn0 e): ∀ts z,tkL nk ts->notP e ts=some z->Wf nk z.1
 |[],z,ht,h=>by
   rw[notP]at h;obtain⟨y,h1,h2⟩:=bnd h;exact Zgg he hd (Zcm he hd _ _ ht h1) _ _ (ht.suf (Z31 hd _ _ h1).1) h2
 |t::r,z,ht,h=>by
   rw[notP]at h
   split at h
   · obtain⟨v,h7,rfl⟩:=mpd h
     exact .not (Zgl he hd r v ht.tail h7)
   · obtain⟨y,h1,h2⟩:=bnd h
     exact Zgg he hd (Zcm he hd _ _ ht h1) _ _ (ht.suf (Z31 hd _ _ h1).1) h2
theorem Zm9(he:Yl nk (Wf nk) e)(hd:Dn0 e):Yl nk (Wf nk) (orP e):=Z81 (Z74 hd).le (Z81 (Z6e hd).le (Zgl he hd) qD) qD
theorem ZeU: ∀n,Yl nk (Wf nk) (exprP n)
 |0,ts,z,_,h=>by cases h
 |n+1,ts,z,ht,h=>Zm9 (ZeU n) (Z34 n).le ts z ht h
def wfL{α:Type}(m:Nat)(Q:α->Prop)(l:List α):Prop:=1<=l.length/\l.length<=m/\ ∀x∈l,Q x
theorem Zfc{α:Type}{part:Ps α}{Q:α->Prop}(hd:Dn0 part)(hp:Yl nk Q part): ∀(n:Nat) (ts:List T3) (z:List α×List T3),tkL nk ts->listG part n ts=some z->∀x∈z.1,Q x
 |0,ts,z,_,h=>by unfold listG at h;injection h with h;subst h;intro x hx;cases hx
 |n+1,ts,z,ht,h=>by
   unfold listG at h
   split at h
   · obtain⟨y,h1,h2⟩:=bnd h
     obtain⟨v,h3,rfl⟩:=mpd h2;intro x hx;rcases List.mem_cons.1 hx with rfl|hx
     · exact hp _ _ ht.tail h1
     · exact Zfc hd hp n _ _ (ht.tail.suf (hd _ _ h1)) h3 x hx
   · injection h with h;subst h;intro x hx;cases hx
theorem Z6h{α:Type}{part:Ps α}{Q:α->Prop}(hd:Dn0 part)(hp:Yl nk Q part)(m:Nat):Yl nk (wfL m Q) (listP m part):=fun ts z ht h=>by
 obtain⟨y,h1,h2⟩:=bnd h;obtain⟨v,h3,h4⟩:=bnd h2
 split at h4
 · rename_i hm
   injection h4 with h4;subst h4
   refine⟨by simp,by simpa using hm,fun x hx=>?_⟩;rcases List.mem_cons.1 hx with rfl|hx
   · exact hp _ _ ht h1
   · exact Zfc hd hp _ _ _ (ht.suf (hd _ _ h1)) h3 x hx
 · cases h4
theorem Z9I{α:Type}{part:Ps α}{Q:α->Prop}(hd:Dn0 part)(hp:Yl nk Q part):Yl nk (wfL 16 Q) (withinP part):=fun ts z ht h=>by
 obtain⟨y,h1,h2⟩:=bnd h;obtain⟨v,h3,h4⟩:=bnd h2;obtain⟨u,h5,rfl⟩:=mpd h4;have:=Z6h hd hp 16 _ _ (ht.suf (Zi _ _ _ _ h1).1) h3;exact this
def wfCol(nk:ByteArray->Prop)(c:Col):Prop:=nk c.nm/\1<=c.ty/\c.ty<=3
def wfSrc(nk:ByteArray->Prop)(s:Src):Prop:=nk s.tb/\nk s.nm
def wfItm(nk:ByteArray->Prop)(i:Itm):Prop:=(i.all=true/\i.ex=ex0)\/(i.all=false/\Wf nk i.ex)
def wfKy(nk:ByteArray->Prop)(k:Ky):Prop:=Wf nk k.ex
def wfWh(nk:ByteArray->Prop)(l:List Ex):Prop:=l=[]\/ ∃x,l=[x]/\Wf nk x
def wfOn(nk:ByteArray->Prop)(s:Src):Prop:=wfSrc nk s/\ ∃x,s.on=[x]/\Wf nk x
inductive WfS (nk:ByteArray->Prop):St->Prop
 |tab {tb:ByteArray} {cols:List Col} (h:nk tb) (hc:wfL 16 (wfCol nk) cols):WfS nk {stK 1 with tb:=tb,cols:=cols}
 |idx {nm tb m:ByteArray} {hash:Bool} (h1:nk nm) (h2:nk tb) (h3:nk m):WfS nk {stK 2 with nm:=nm,tb:=tb,names:=[m],hash:=hash}
 |ins {tb:ByteArray} {names:List ByteArray} {rows:List (List Ex)} (h:nk tb) (hn:names=[]\/wfL 16 nk names) (hr:wfL 32 (wfL 16 (Wf nk)) rows):WfS nk {stK 3 with tb:=tb,names:=names,rows:=rows}
 |sel {items:List Itm} {s:Src} {js:List Src} {wh gr:List Ex} {od:List Ky} {lim:Int} (hi:wfL 16 (wfItm nk) items) (hs:wfSrc nk s) (hs0:s.on=[]) (hj: ∀j∈js,wfOn nk j) (hj3:js.length+1<=4) (hw:wfWh nk wh) (hg:gr=[]\/wfL 16 (Wf nk) gr) (ho:od=[]\/wfL 16 (wfKy nk) od) (hl:lim= -1\/(0<=lim/\lim<=9223372036854775807)):WfS nk {stK 4 with items:=items,from_:=s::js,where_:=wh,group:=gr,order:=od,limit:=lim}
 |upd {tb:ByteArray} {l:List (ByteArray×Ex)} {wh:List Ex} (h:nk tb) (hl:wfL 16 (fun p:ByteArray×Ex=>nk p.1/\Wf nk p.2) l) (hw:wfWh nk wh):WfS nk {stK 5 with tb:=tb,names:=l.map (·.1),sets:=l.map (·.2),where_:=wh}
 |del {tb:ByteArray} {wh:List Ex} (h:nk tb) (hw:wfWh nk wh):WfS nk {stK 6 with tb:=tb,where_:=wh}
 |pl {k:Int} (h:k=7\/k=8\/k=9):WfS nk (stK k)
theorem Zi6{ts:List T3}{z:Int×List T3}(h:typeP ts=some z):1<=z.1/\z.1<=3:=by
 unfold typeP at h
 split at h
 · injection h with h;subst h;exact⟨by show(_:Int)<=_;omega,by show(_:Int)<=_;omega⟩
 · split at h
   · injection h with h;subst h;exact⟨by show(_:Int)<=_;omega,by show(_:Int)<=_;omega⟩
   · split at h
     · injection h with h;subst h;exact⟨by show(_:Int)<=_;omega,by show(_:Int)<=_;omega⟩
     · cases h
theorem Zdh{n:ByteArray}{t:Int}{nn:Bool}{ts:List T3}{z:Col×List T3}(h:colEnd n t nn ts=some z):z.1.nm=n/\z.1.ty=t:=by
 unfold colEnd at h
 split at h
 · obtain⟨v,_,rfl⟩:=mpd h;exact⟨rfl,rfl⟩
 · injection h with h;subst h;exact⟨rfl,rfl⟩
theorem Zk5:Yl nk (wfCol nk) colP:=fun ts z ht h=>by
 obtain⟨n,h1,h2⟩:=bnd h;obtain⟨t,h3,h4⟩:=bnd h2;have hn:=Z2m _ _ ht h1;have hr:=Zi6 h3
 split at h4
 · obtain⟨v,_,h6⟩:=bnd h4
   obtain⟨a,b⟩:=Zdh h6;exact⟨a ▸ hn,b ▸ hr.1,b ▸ hr.2⟩
 · obtain⟨a,b⟩:=Zdh h4
   exact⟨a ▸ hn,b ▸ hr.1,b ▸ hr.2⟩
theorem Zh5:Yl nk (WfS nk) createP:=fun ts z ht h=>by
 unfold createP at h
 split at h
 · obtain⟨n,h1,h2⟩:=bnd h
   obtain⟨c,h3,rfl⟩:=mpd h2;exact .tab (Z2m _ _ ht.tail h1) (Z9I ZcE.le Zk5 _ _ (ht.tail.suf (Z14 _ _ h1).1) h3)
 · obtain⟨a,h1,h2⟩:=bnd h
   have t1:=ht.suf (Zi _ _ _ _ h1).1;obtain⟨n,h3,h4⟩:=bnd h2;have t2:=t1.suf (Z14 _ _ h3).1;obtain⟨b,h5,h6⟩:=bnd h4;have t3:=t2.suf (Zi _ _ _ _ h5).1;obtain⟨t,h7,h8⟩:=bnd h6;have t4:=t3.suf (Z14 _ _ h7).1;obtain⟨c,h9,h10⟩:=bnd h8;have t5:=t4.suf (Zi _ _ _ _ h9).1;obtain⟨m,h11,h12⟩:=bnd h10;obtain⟨d,h13,h14⟩:=bnd h12
   split at h14
   · obtain⟨v,_,rfl⟩:=mpd h14;exact .idx (Z2m _ _ t1 h3) (Z2m _ _ t3 h7) (Z2m _ _ t5 h11)
   · injection h14 with h14;subst h14;exact .idx (Z2m _ _ t1 h3) (Z2m _ _ t3 h7) (Z2m _ _ t5 h11)
variable(he:Yl nk (Wf nk) e)(hd:Dn e)
include he hd
theorem ZbT{tb:ByteArray}{ns:List ByteArray}(h1:nk tb)(h2:ns=[]\/wfL 16 nk ns):Yl nk (WfS nk) (insRows e tb ns):=fun ts z ht h=>by
 obtain⟨a,h3,h4⟩:=bnd h;obtain⟨r,h5,rfl⟩:=mpd h4;exact .ins h1 h2 (Z6h (Z3T hd.le).le (Z9I hd.le he) 32 _ _ (ht.suf (Zi _ _ _ _ h3).1) h5)
theorem ZgN:Yl nk (WfS nk) (insertP e):=fun ts z ht h=>by
 obtain⟨a,h1,h2⟩:=bnd h;have t1:=ht.suf (Zi _ _ _ _ h1).1;obtain⟨n,h3,h4⟩:=bnd h2;have t2:=t1.suf (Z14 _ _ h3).1
 split at h4
 · obtain⟨l,h5,h6⟩:=bnd h4
   exact ZbT he hd (Z2m _ _ t1 h3) (.inr (Z9I Z14.le Z2m _ _ t2 h5)) _ _ (t2.suf (Z3T Z14.le _ _ h5).1) h6
 · exact ZbT he hd (Z2m _ _ t1 h3) (.inl rfl) _ _ t2 h4
omit hd in
theorem Zj6:Yl nk (wfItm nk) (itemP e):=fun ts z ht h=>by
 unfold itemP at h
 split at h
 · injection h with h;subst h;exact .inl ⟨rfl,rfl⟩
 · obtain⟨y,h1,rfl⟩:=mpd h;exact .inr ⟨rfl,he _ _ ht h1⟩
omit he hd in
theorem Zc2: ∀ts z,tkL nk ts->sourceP ts=some z->wfSrc nk z.1/\z.1.on=[]:=fun ts z ht h=>by
 obtain⟨n,h1,h2⟩:=bnd h;have hn:=Z2m _ _ ht h1;have t1:=ht.suf (Z14 _ _ h1).1
 split at h2
 · obtain⟨m,h3,rfl⟩:=mpd h2;exact⟨⟨hn,Z2m _ _ t1.tail h3⟩,rfl⟩
 · split at h2
   · obtain⟨m,h3,rfl⟩:=mpd h2;exact⟨⟨hn,Z2m _ _ t1 h3⟩,rfl⟩
   · injection h2 with h2;subst h2;exact⟨⟨hn,hn⟩,rfl⟩
omit hd in
theorem Zkl:Yl nk (wfKy nk) (keyP e):=fun ts z ht h=>by
 obtain⟨y,h1,rfl⟩:=mpd h;have:=he _ _ ht h1;refine(show Wf nk (if isT 1 Z55 y.2=true then((⟨y.1,false⟩:Ky),y.2.tail)else(⟨y.1,isT 1 Z4s y.2⟩,skT 1 Z4s y.2)).1.ex from ?_)
 split<;>exact this
omit hd in
theorem Zal:Yl nk (wfWh nk) (whereP e):=fun ts z ht h=>by
 unfold whereP at h
 split at h
 · obtain⟨y,h1,rfl⟩:=mpd h;exact .inr ⟨_,rfl,he _ _ ht.tail h1⟩
 · injection h with h;subst h;exact .inl rfl
omit hd in
theorem Zjj:Yl nk (wfOn nk) (joinP e):=fun ts z ht h=>by
 obtain⟨a,h1,h2⟩:=bnd h;have t1:=ht.suf (Zi _ _ _ _ h1).1;obtain⟨s,h3,h4⟩:=bnd h2;have t2:=t1.suf (Z3P _ _ h3).1;obtain⟨b,h5,h6⟩:=bnd h4;have t3:=t2.suf (Zi _ _ _ _ h5).1;obtain⟨x,h7,rfl⟩:=mpd h6;exact⟨(Zc2 _ _ t1 h3).1,_,rfl,he _ _ t3 h7⟩
theorem Zdn: ∀(n:Nat) (ts:List T3) (z:List Src×List T3),tkL nk ts->joinsG e n ts=some z->∀x∈z.1,wfOn nk x
 |0,ts,z,_,h=>by unfold joinsG at h;injection h with h;subst h;intro x hx;cases hx
 |n+1,ts,z,ht,h=>by
   unfold joinsG at h
   split at h
   · obtain⟨y,h1,h2⟩:=bnd h
     obtain⟨v,h3,rfl⟩:=mpd h2;have t1:=ht.suf (Z2p 1 ZW ts);intro x hx;rcases List.mem_cons.1 hx with rfl|hx
     · exact Zjj he _ _ t1 h1
     · exact Zdn n _ _ (t1.suf (Z4O hd _ _ h1).1) h3 x hx
   · injection h with h;subst h;intro x hx;cases hx
theorem Zhs:Yl nk (fun l=>l=[]\/wfL 16 (Wf nk) l) (groupP e):=fun ts z ht h=>by
 unfold groupP at h
 split at h
 · obtain⟨a,h1,h2⟩:=bnd h
   exact .inr (Z6h hd.le he 16 _ _ (ht.tail.suf (Zi _ _ _ _ h1).1) h2)
 · injection h with h;subst h;exact .inl rfl
theorem Zhd:Yl nk (fun l=>l=[]\/wfL 16 (wfKy nk) l) (orderP e):=fun ts z ht h=>by
 unfold orderP at h
 split at h
 · obtain⟨a,h1,h2⟩:=bnd h
   exact .inr (Z6h (Z68 hd).le (Zkl he) 16 _ _ (ht.tail.suf (Zi _ _ _ _ h1).1) h2)
 · injection h with h;subst h;exact .inl rfl
omit he hd in
theorem Zib:Yl nk (fun n=>n= -1\/(0<=n/\n<=9223372036854775807)) limitP:=fun ts z ht h=>by
 unfold limitP at h
 split at h
 · obtain⟨y,h1,rfl⟩:=mpd h
   cases hts:ts.tail with
   |nil=>rw[hts]at h1;cases h1
   |cons t r=>
     rw[hts,takeP]at h1
     split at h1
     · rename_i hk
       injection h1 with h1;subst h1
       exact .inr ((ht.tail t (by rw[hts];exact List.mem_cons_self)).2.1 (by simpa using hk))
     · cases h1
 · injection h with h;subst h;exact .inl rfl
end
section
variable{e:Ps Ex}(hd:Dn e)
include hd
theorem ZgM:Dn0 (whereP e):=fun ts z h=>by
 unfold whereP at h
 split at h
 · obtain⟨y,h1,rfl⟩:=mpd h;exact(hd _ _ h1).1.trans (List.tail_suffix ts)
 · injection h with h;subst h;exact List.suffix_refl ts
theorem ZgJ:Dn0 (groupP e):=fun ts z h=>by
 unfold groupP at h
 split at h
 · obtain⟨a,h1,h2⟩:=bnd h
   exact((Z5s hd 16 _ _ h2).1.trans (Zi _ _ _ _ h1).1).trans (List.tail_suffix ts)
 · injection h with h;subst h;exact List.suffix_refl ts
theorem Zh3:Dn0 (orderP e):=fun ts z h=>by
 unfold orderP at h
 split at h
 · obtain⟨a,h1,h2⟩:=bnd h
   exact((Z5s (Z68 hd) 16 _ _ h2).1.trans (Zi _ _ _ _ h1).1).trans (List.tail_suffix ts)
 · injection h with h;subst h;exact List.suffix_refl ts
theorem Zd1: ∀n,Dn0 (joinsG e n)
 |0,ts,z,h=>by unfold joinsG at h;injection h with h;subst h;exact List.suffix_refl ts
 |n+1,ts,z,h=>by
   unfold joinsG at h
   split at h
   · obtain⟨y,h1,h2⟩:=bnd h
     obtain⟨v,h3,rfl⟩:=mpd h2;exact((Zd1 n _ _ h3).trans (Z4O hd _ _ h1).1).trans (Z2p _ _ _)
   · injection h with h;subst h;exact List.suffix_refl ts
end
section
variable{nk:ByteArray->Prop}{e:Ps Ex}(he:Yl nk (Wf nk) e)(hd:Dn e)
include he hd
theorem Zhe:Yl nk (WfS nk) (queryP e):=fun ts z ht h=>by
 obtain⟨i,h1,h2⟩:=bnd h;have t1:=ht.suf (Z5s (Z4I hd) 16 _ _ h1).1;obtain⟨a,h3,h4⟩:=bnd h2;have t2:=t1.suf (Zi _ _ _ _ h3).1;obtain⟨s,h5,h6⟩:=bnd h4;have t3:=t2.suf (Z3P _ _ h5).1;obtain⟨j,h7,h8⟩:=bnd h6;have t4:=t3.suf (Zd1 hd _ _ _ h7)
 split at h8
 · rename_i hj
   obtain⟨w,h9,h10⟩:=bnd h8;have t5:=t4.suf (ZgM hd _ _ h9);obtain⟨g,h11,h12⟩:=bnd h10;have t6:=t5.suf (ZgJ hd _ _ h11);obtain⟨o,h13,h14⟩:=bnd h12;have t7:=t6.suf (Zh3 hd _ _ h13);obtain⟨l,h15,rfl⟩:=mpd h14;have hs:=Zc2 _ _ t2 h5;exact .sel (Z6h (Z4I hd).le (Zj6 he) 16 _ _ ht h1) hs.1 hs.2 (Zdn he hd _ _ _ t3 h7) hj (Zal he _ _ t4 h9) (Zhs he hd _ _ t5 h11) (Zhd he hd _ _ t6 h13) (Zib _ _ t7 h15)
 · cases h8
omit hd in
theorem Zkf:Yl nk (fun p:ByteArray×Ex=>nk p.1/\Wf nk p.2) (setP e):=fun ts z ht h=>by
 obtain⟨n,h1,h2⟩:=bnd h;have t1:=ht.suf (Z14 _ _ h1).1;obtain⟨a,h3,h4⟩:=bnd h2;have t2:=t1.suf (Zi _ _ _ _ h3).1;obtain⟨x,h5,rfl⟩:=mpd h4;exact⟨Z2m _ _ ht h1,he _ _ t2 h5⟩
theorem ZgO:Yl nk (WfS nk) (updateP e):=fun ts z ht h=>by
 obtain⟨n,h1,h2⟩:=bnd h;have t1:=ht.suf (Z14 _ _ h1).1;obtain⟨a,h3,h4⟩:=bnd h2;have t2:=t1.suf (Zi _ _ _ _ h3).1;obtain⟨l,h5,h6⟩:=bnd h4;have t3:=t2.suf (Z5s (Z77 hd) 16 _ _ h5).1;obtain⟨w,h7,rfl⟩:=mpd h6;exact .upd (Z2m _ _ ht h1) (Z6h (Z77 hd).le (Zkf he) 16 _ _ t2 h5) (Zal he _ _ t3 h7)
omit hd in
theorem Zh6:Yl nk (WfS nk) (removeP e):=fun ts z ht h=>by
 obtain⟨a,h1,h2⟩:=bnd h;have t1:=ht.suf (Zi _ _ _ _ h1).1;obtain⟨n,h3,h4⟩:=bnd h2;have t2:=t1.suf (Z14 _ _ h3).1;obtain⟨w,h5,rfl⟩:=mpd h4;exact .del (Z2m _ _ t1 h3) (Zal he _ _ t2 h5)
theorem ZiG:Yl nk (WfS nk) (stmtP e):=fun ts z ht h=>by
 obtain⟨w,h1,h2⟩:=bnd h;have t1:=ht.suf (Z1N 1 _ _ h1).1
 split at h2
 · exact Zh5 _ _ t1 h2
 · split at h2
   · exact ZgN he hd _ _ t1 h2
   · split at h2
     · exact Zhe he hd _ _ t1 h2
     · split at h2
       · exact ZgO he hd _ _ t1 h2
       · split at h2
         · exact Zh6 he _ _ t1 h2
         · split at h2
           · injection h2 with h2;subst h2;exact .pl (.inl rfl)
           · split at h2
             · injection h2 with h2;subst h2;exact .pl (.inr (.inl rfl))
             · split at h2
               · injection h2 with h2;subst h2;exact .pl (.inr (.inr rfl))
               · cases h2
end
end Go.Pz
set_option maxRecDepth 20000
namespace Go.Pz
open Go Go.Vc
section
variable{e e':Ps Ex}{N:Nat}
variable(h:Eq_ N e e')(hd:Dn e)
include h
include hd
end
theorem Z6m{α:Type}{f:α->List T3}(h: ∀y,1<=(f y).length): ∀l:List α,l.length<=(l.flatMap f).length
 |[]=>Nat.le_refl _
 |y::l=>by
   have:=Z6m h l;have:=h y;rw[List.flatMap_cons,List.length_append,List.length_cons]
   omega
def typW(t:Int):ByteArray:=if t==1 then Z9E else if t==2 then Z96 else Zam
section
variable{nk:ByteArray->Prop}
structure Cx_ (r:List T3):Prop where
 n:isT 1 Z1c r=false
 p:isT 1 Z6J r=false
 u:isT 1 Z6o r=false
variable(hnk: ∀s,nk s->sq s em=false)
include hnk
structure Ke (r:List T3):Prop where
 x:Nx r
 a:isT 1 Z55 r=false
 d:isT 1 Z4s r=false
structure Qx (r:List T3):Prop where
 x:Nx r
 c:isT 5 ZU r=false
 asc:isT 1 Z55 r=false
 desc:isT 1 Z4s r=false
 inner:isT 1 ZW r=false
 join:isT 1 Z3c r=false
 as_:isT 1 w_AS r=false
 nm:isK 2 r=false
end
end Go.Pz
namespace Go.Proofs.YtbedigkncjbggaaGreatDoor
open Go Go.Vc
abbrev Zas:Nat:=8
abbrev Z6N:Nat:=13
abbrev Z9S:Nat:=14
abbrev Z5Y:Nat:=16
abbrev ZfF:Nat:=18
abbrev ZdA:Nat:=19
abbrev ZdB:Nat:=20
abbrev ZdC:Nat:=21
abbrev Z4V:Nat:=22
abbrev Z7q:Nat:=23
abbrev ZhN:Nat:=24
abbrev Z86:Nat:=25
abbrev Z6M:Nat:=26
abbrev Z9c:Nat:=27
abbrev Z8x:Nat:=28
abbrev Zes:Nat:=29
abbrev ZfJ:Nat:=30
abbrev Z8G:Nat:=31
abbrev Z7T:Nat:=32
abbrev Z7O:Nat:=33
abbrev Z8s:Nat:=34
abbrev Z7M:Nat:=35
abbrev Z8O:Nat:=36
abbrev Z8I:Nat:=37
abbrev Z8q:Nat:=38
abbrev Z94:Nat:=39
abbrev Z7E:Nat:=42
abbrev Z8v:Nat:=43
abbrev Z6i:Nat:=44
abbrev Zct:Nat:=45
abbrev ZdG:Nat:=46
abbrev ZcW:Nat:=47
abbrev Zeb:Nat:=48
abbrev ZaA:Nat:=49
abbrev ZdI:Nat:=50
abbrev ZdD:Nat:=51
abbrev Zdx:Nat:=52
abbrev ZbZ:Nat:=53
abbrev Zf3:Nat:=54
abbrev Zeg:Nat:=55
abbrev Z8W:Nat:=56
abbrev Z9O:Nat:=57
abbrev Z7I:Nat:=58
abbrev Z7U:Nat:=59
abbrev Z42:Nat:=60
abbrev Z7L:Nat:=61
abbrev Z7G:Nat:=62
abbrev ZdH:Nat:=63
abbrev Z8A:Nat:=64
abbrev Z8R:Nat:=65
abbrev Z61:Nat:=66
abbrev ZdK:Nat:=67
abbrev Zf9:Nat:=68
abbrev Zcg:Nat:=69
abbrev Zcs:Nat:=70
abbrev Zea:Nat:=71
abbrev Zad:Nat:=72
abbrev Z7N:Nat:=73
abbrev Z5c:Nat:=74
abbrev Z8T:Nat:=75
abbrev Z7S:Nat:=76
abbrev Z3h:Nat:=77
abbrev Z9y:Nat:=78
abbrev Z9M:Nat:=79
abbrev Z7o:Nat:=83
abbrev Z5u:Nat:=84
abbrev Z8U:Nat:=85
abbrev Z9b:Nat:=86
abbrev Zaz:Nat:=87
abbrev Z9H:Nat:=88
abbrev Zba:Nat:=89
abbrev ZcP:Nat:=90
abbrev Zh9:Nat:=91
abbrev Za6:Nat:=92
abbrev ZaZ:Nat:=93
abbrev Z9C:Nat:=94
abbrev Z9s:Nat:=95
abbrev ZgC:Nat:=96
abbrev Zac:Nat:=97
abbrev Zf5:Nat:=98
abbrev Z5Q:Nat:=99
abbrev Zbd:Nat:=100
abbrev Z5g:Nat:=101
abbrev Z5R:Nat:=102
abbrev Z5I:Nat:=103
abbrev Z93:Nat:=104
abbrev Z8J:Nat:=105
abbrev Z6W:Nat:=106
abbrev Z8p:Nat:=108
abbrev Z8M:Nat:=109
abbrev Z7t:Nat:=110
abbrev Z7H:Nat:=112
abbrev Z1w:Nat:=113
abbrev Z98:Nat:=114
abbrev Z5B:Nat:=115
abbrev Z7V:Nat:=116
abbrev Z8l:Nat:=117
abbrev Z8B:Nat:=118
abbrev Z9B:Nat:=119
abbrev Z5H:Nat:=120
abbrev Zab:Nat:=121
abbrev Z3g:Nat:=123
abbrev Z6L:Nat:=124
abbrev Zdy:Nat:=125
abbrev Z8w:Nat:=126
abbrev Z56:Nat:=127
abbrev Z7J:Nat:=128
abbrev Za9:Nat:=139
abbrev Z5e:Nat:=140
abbrev Zae:Nat:=141
abbrev Zb1:Nat:=142
abbrev Z7R:Nat:=143
abbrev Z7f:Nat:=144
abbrev Z8g:Nat:=145
abbrev Z3v:Nat:=146
abbrev Zex:Nat:=164
abbrev Z2u:Nat:=165
abbrev Z3u:Nat:=178
abbrev Z2R:Nat:=189
abbrev Z2f:Nat:=191
abbrev Z3k:Nat:=192
abbrev ZbX:Nat:=193
abbrev Z7b:Nat:=194
abbrev Z6z:Nat:=3
abbrev Zl1:Nat:=4
abbrev Z66:Nat:=5
abbrev Zs:Nat:=9
abbrev Zbt:Nat:=23
abbrev Zfa:Nat:=24
abbrev Zb4:Nat:=25
abbrev ZcS:Nat:=26
abbrev Z35:Nat:=28
abbrev ZdF:Nat:=29
abbrev Z3:Nat:=31
abbrev Z7j:Nat:=32
abbrev Zb:Nat:=42
abbrev Z4x:Nat:=46
abbrev Z1X:Nat:=50
abbrev ZcG:Nat:=59
abbrev Z3S:Nat:=63
abbrev Z3F:Nat:=70
abbrev Z3o:Nat:=76
abbrev Z4g:Nat:=78
abbrev Z1A:Nat:=92
abbrev Z1u:Nat:=94
theorem Z7e:ApTy Tryz.prog 23 50 4 32:=⟨by kernel_rfl,by kernel_rfl⟩
theorem Z1z:ApTy Tryz.prog 28 42 8 104:=⟨by kernel_rfl,by kernel_rfl⟩
theorem Z8Q:ApTy Tryz.prog 26 46 9 112:=⟨by kernel_rfl,by kernel_rfl⟩
theorem Za2:ApTy Tryz.prog 29 78 9 112:=⟨by kernel_rfl,by kernel_rfl⟩
theorem Z5w:ApTy Tryz.prog 27 76 3 56:=⟨by kernel_rfl,by kernel_rfl⟩
theorem Z3R:ApTy Tryz.prog 55 94 3 32:=⟨by kernel_rfl,by kernel_rfl⟩
theorem Z6V:ApTy Tryz.prog 25 28 1 24:=⟨by kernel_rfl,by kernel_rfl⟩
theorem Z1i:ApTy Tryz.prog 24 9 1 16:=⟨by kernel_rfl,by kernel_rfl⟩
theorem Z4v:ApTy Tryz.prog 37 5 1 1:=⟨by kernel_rfl,by kernel_rfl⟩
theorem Z3C:elSize Tryz.prog 23=some 4:=by kernel_rfl
theorem ZO:elSize Tryz.prog 28=some 8:=by kernel_rfl
theorem Z45:elSize Tryz.prog 26=some 9:=by kernel_rfl
theorem Z4r:elSize Tryz.prog 29=some 9:=by kernel_rfl
theorem Z2o:elSize Tryz.prog 27=some 3:=by kernel_rfl
theorem Z1m:elSize Tryz.prog 55=some 3:=by kernel_rfl
theorem Zhv:elSize Tryz.prog 170=some 1:=by kernel_rfl
theorem Z3t:elSize Tryz.prog 25=some 1:=by kernel_rfl
theorem Z1Y:elSize Tryz.prog 24=some 1:=by kernel_rfl
theorem ZfH:elSize Tryz.prog 37=some 1:=by kernel_rfl
theorem Z8b:fldOff Tryz.prog 50 0=some 0:=by kernel_rfl
theorem Z2U:fldOff Tryz.prog 50 1=some 1:=by kernel_rfl
theorem Z4E:fldOff Tryz.prog 50 2=some 2:=by kernel_rfl
theorem Z3M:fldOff Tryz.prog 50 3=some 3:=by kernel_rfl
theorem Z1a:fldOff Tryz.prog 42 0=some 0:=by kernel_rfl
theorem Z9U:fldOff Tryz.prog 42 1=some 1:=by kernel_rfl
theorem Z4q:fldOff Tryz.prog 42 2=some 4:=by kernel_rfl
theorem Z3H:fldOff Tryz.prog 42 3=some 5:=by kernel_rfl
theorem Z1p:fldOff Tryz.prog 42 5=some 7:=by kernel_rfl
theorem Za1:fldOff Tryz.prog 46 0=some 0:=by kernel_rfl
theorem Z5q:fldOff Tryz.prog 46 1=some 1:=by kernel_rfl
theorem Z4M:fldOff Tryz.prog 78 0=some 0:=by kernel_rfl
theorem Z5T:fldOff Tryz.prog 78 1=some 8:=by kernel_rfl
theorem Z3i:fldOff Tryz.prog 76 0=some 0:=by kernel_rfl
theorem Z2A:fldOff Tryz.prog 76 1=some 1:=by kernel_rfl
theorem Z2n:fldOff Tryz.prog 76 2=some 2:=by kernel_rfl
theorem Z2Y:fldOff Tryz.prog 31 0=some 0:=by kernel_rfl
theorem Z1V:fldOff Tryz.prog 31 1=some 1:=by kernel_rfl
theorem Z1W:fldOff Tryz.prog 31 10=some 10:=by kernel_rfl
theorem Z2O:fldOff Tryz.prog 31 11=some 11:=by kernel_rfl
theorem Z32:fldOff Tryz.prog 31 12=some 12:=by kernel_rfl
theorem Z62:fldOff Tryz.prog 31 13=some 13:=by kernel_rfl
theorem Z6R:fldOff Tryz.prog 31 2=some 2:=by kernel_rfl
theorem Z4p:fldOff Tryz.prog 31 3=some 3:=by kernel_rfl
theorem Z1k:fldOff Tryz.prog 31 4=some 4:=by kernel_rfl
theorem Z2r:fldOff Tryz.prog 31 5=some 5:=by kernel_rfl
theorem Z2h:fldOff Tryz.prog 31 6=some 6:=by kernel_rfl
theorem Z19:fldOff Tryz.prog 31 7=some 7:=by kernel_rfl
theorem Z26:fldOff Tryz.prog 31 8=some 8:=by kernel_rfl
theorem Z3p:fldOff Tryz.prog 31 9=some 9:=by kernel_rfl
theorem Z1n:fldOff Tryz.prog 94 0=some 0:=by kernel_rfl
theorem Z1K:fldOff Tryz.prog 94 1=some 1:=by kernel_rfl
theorem Z8u:fldOff Tryz.prog 94 2=some 2:=by kernel_rfl
theorem Z1U:fldOff Tryz.prog 40 0=some 0:=by kernel_rfl
theorem Z1x:fldOff Tryz.prog 40 1=some 1:=by kernel_rfl
theorem Z2w:fldOff Tryz.prog 40 2=some 2:=by kernel_rfl
theorem Z4F:fldOff Tryz.prog 70 0=some 0:=by kernel_rfl
theorem ZH:fldOff Tryz.prog 70 1=some 1:=by kernel_rfl
theorem Ze:fldOff Tryz.prog 70 2=some 2:=by kernel_rfl
theorem Z11:fldOff Tryz.prog 92 0=some 0:=by kernel_rfl
theorem Zt:fldOff Tryz.prog 92 1=some 1:=by kernel_rfl
theorem Zz:fldOff Tryz.prog 63 0=some 0:=by kernel_rfl
theorem Zdf:Shape Tryz.prog 171 (fun i=>some (i*1,1)) [.int .i64 0,.int .i64 0,.int .i64 0,.int .i64 0,.int .i64 0,.int .i64 0,.int .i64 0,.int .i64 0,.int .i64 0,.int .i64 0,.int .i64 0,.int .i64 0,.int .i64 0]:=⟨fun _=>by kernel_rfl⟩
theorem Z7p:Shape Tryz.prog 89 (fun i=>some (i*1,1)) [.string ⟨#[]⟩,.string ⟨#[]⟩,.string ⟨#[]⟩,.string ⟨#[]⟩,.string ⟨#[]⟩,.string ⟨#[]⟩,.string ⟨#[]⟩,.string ⟨#[]⟩,.string ⟨#[]⟩,.string ⟨#[]⟩,.string ⟨#[]⟩,.string ⟨#[]⟩,.string ⟨#[]⟩]:=⟨fun _=>by kernel_rfl⟩
theorem Zbk:Shape Tryz.prog 86 (fun i=>some (i*1,1)) [.string ⟨#[]⟩,.string ⟨#[]⟩,.string ⟨#[]⟩]:=⟨fun _=>by kernel_rfl⟩
theorem Z5l:Shape Tryz.prog 88 (fun i=>some (i*1,1)) [.string ⟨#[]⟩,.string ⟨#[]⟩,.string ⟨#[]⟩,.string ⟨#[]⟩]:=⟨fun _=>by kernel_rfl⟩
theorem ZdN:Shape Tryz.prog 50 (fun i=> #[(0,1),(1,1),(2,1),(3,1)][i]?) [.string ⟨#[]⟩,.int .i64 0,.bool false,.bool false]:=⟨fun _=>by kernel_rfl⟩
theorem Z17:Shape Tryz.prog 42 (fun i=> #[(0,1),(1,3),(4,1),(5,1),(6,1),(7,1)][i]?) [.int .i64 0,.int .i64 0,.int .i64 0,.string ⟨#[]⟩,.string ⟨#[]⟩,.string ⟨#[]⟩,.int .i64 0,.slice none 0 0]:=⟨fun _=>by kernel_rfl⟩
theorem Z6q:Shape Tryz.prog 46 (fun i=> #[(0,1),(1,8)][i]?) [.bool false,.int .i64 0,.int .i64 0,.int .i64 0,.string ⟨#[]⟩,.string ⟨#[]⟩,.string ⟨#[]⟩,.int .i64 0,.slice none 0 0]:=⟨fun _=>by kernel_rfl⟩
theorem ZbN:Shape Tryz.prog 78 (fun i=> #[(0,8),(8,1)][i]?) [.int .i64 0,.int .i64 0,.int .i64 0,.string ⟨#[]⟩,.string ⟨#[]⟩,.string ⟨#[]⟩,.int .i64 0,.slice none 0 0,.bool false]:=⟨fun _=>by kernel_rfl⟩
theorem Z9R:Shape Tryz.prog 76 (fun i=> #[(0,1),(1,1),(2,1)][i]?) [.string ⟨#[]⟩,.string ⟨#[]⟩,.slice none 0 0]:=⟨fun _=>by kernel_rfl⟩
theorem Z38:Shape Tryz.prog 31 (fun i=> #[(0,1),(1,1),(2,1),(3,1),(4,1),(5,1),(6,1),(7,1),(8,1),(9,1),(10,1),(11,1),(12,1),(13,1)][i]?) [.int .i64 0,.string ⟨#[]⟩,.string ⟨#[]⟩,.slice none 0 0,.slice none 0 0,.slice none 0 0,.slice none 0 0,.slice none 0 0,.slice none 0 0,.slice none 0 0,.slice none 0 0,.int .i64 0,.slice none 0 0,.bool false]:=⟨fun _=>by kernel_rfl⟩
theorem Z1e:Shape Tryz.prog 94 (fun i=> #[(0,1),(1,1),(2,1)][i]?) [.int .i64 0,.string ⟨#[]⟩,.int .i64 0]:=⟨fun _=>by kernel_rfl⟩
theorem Z2G:Shape Tryz.prog 40 (fun i=> #[(0,1),(1,1),(2,1)][i]?) [.int .i64 0,.int .i64 0,.string ⟨#[]⟩]:=⟨fun _=>by kernel_rfl⟩
theorem Z7Q:Shape Tryz.prog 70 (fun i=> #[(0,1),(1,1),(2,1)][i]?) [.slice none 0 0,.int .i64 0,.bool false]:=⟨fun _=>by kernel_rfl⟩
theorem ZcL:Shape Tryz.prog 92 (fun i=> #[(0,1),(1,1)][i]?) [.string ⟨#[]⟩,.int .i64 0]:=⟨fun _=>by kernel_rfl⟩
theorem Z8V:Shape Tryz.prog 59 (fun i=> #[][i]?) []:=⟨fun _=>by kernel_rfl⟩
theorem ZbJ:Shape Tryz.prog 63 (fun i=> #[(0,1)][i]?) [.slice none 0 0]:=⟨fun _=>by kernel_rfl⟩
theorem Z7g:SlShape Tryz.prog 23 50 4 [.string ⟨#[]⟩,.int .i64 0,.bool false,.bool false]:=⟨by kernel_rfl,by kernel_rfl,by omega⟩
theorem ZB:SlShape Tryz.prog 28 42 8 [.int .i64 0,.int .i64 0,.int .i64 0,.string ⟨#[]⟩,.string ⟨#[]⟩,.string ⟨#[]⟩,.int .i64 0,.slice none 0 0]:=⟨by kernel_rfl,by kernel_rfl,by omega⟩
theorem Z9e:SlShape Tryz.prog 26 46 9 [.bool false,.int .i64 0,.int .i64 0,.int .i64 0,.string ⟨#[]⟩,.string ⟨#[]⟩,.string ⟨#[]⟩,.int .i64 0,.slice none 0 0]:=⟨by kernel_rfl,by kernel_rfl,by omega⟩
theorem Z9W:SlShape Tryz.prog 29 78 9 [.int .i64 0,.int .i64 0,.int .i64 0,.string ⟨#[]⟩,.string ⟨#[]⟩,.string ⟨#[]⟩,.int .i64 0,.slice none 0 0,.bool false]:=⟨by kernel_rfl,by kernel_rfl,by omega⟩
theorem Z4m:SlShape Tryz.prog 27 76 3 [.string ⟨#[]⟩,.string ⟨#[]⟩,.slice none 0 0]:=⟨by kernel_rfl,by kernel_rfl,by omega⟩
theorem Z3J:SlShape Tryz.prog 55 94 3 [.int .i64 0,.string ⟨#[]⟩,.int .i64 0]:=⟨by kernel_rfl,by kernel_rfl,by omega⟩
theorem Z8a:SlShape Tryz.prog 170 3 1 [.int .i64 0]:=⟨by kernel_rfl,by kernel_rfl,by omega⟩
theorem Z5b:SlShape Tryz.prog 25 28 1 [.slice none 0 0]:=⟨by kernel_rfl,by kernel_rfl,by omega⟩
theorem ZS:SlShape Tryz.prog 24 9 1 [.string ⟨#[]⟩]:=⟨by kernel_rfl,by kernel_rfl,by omega⟩
theorem Z3w:SlShape Tryz.prog 37 5 1 [.int .u8 0]:=⟨by kernel_rfl,by kernel_rfl,by omega⟩
theorem Zd9:(Tryz.prog.info? 171).map (·.size)=some 13:=by kernel_rfl
theorem Zax:(Tryz.prog.info? 89).map (·.size)=some 13:=by kernel_rfl
theorem Zbc:(Tryz.prog.info? 88).map (·.size)=some 4:=by kernel_rfl
theorem Z6P:(Tryz.prog.info? 50).map (·.size)=some 4:=by kernel_rfl
theorem Zaj:(Tryz.prog.info? 32).map (·.size)=some 1:=by kernel_rfl
theorem Zc:(Tryz.prog.info? 42).map (·.size)=some 8:=by kernel_rfl
theorem Z4z:(Tryz.prog.info? 46).map (·.size)=some 9:=by kernel_rfl
theorem Z3Q:(Tryz.prog.info? 78).map (·.size)=some 9:=by kernel_rfl
theorem Z2s:(Tryz.prog.info? 76).map (·.size)=some 3:=by kernel_rfl
theorem ZV:(Tryz.prog.info? 31).map (·.size)=some 14:=by kernel_rfl
theorem ZI:(Tryz.prog.info? 94).map (·.size)=some 3:=by kernel_rfl
theorem Z2D:(Tryz.prog.info? 4).map (·.size)=some 1:=by kernel_rfl
theorem Z2x:(Tryz.prog.info? 3).map (·.size)=some 1:=by kernel_rfl
theorem Zcp:(Tryz.prog.info? 59).map (·.size)=some 0:=by kernel_rfl
theorem Zbl:(Tryz.prog.info? 23).map (·.size)=some 1:=by kernel_rfl
theorem Z2k:(Tryz.prog.info? 28).map (·.size)=some 1:=by kernel_rfl
theorem Z8z:(Tryz.prog.info? 26).map (·.size)=some 1:=by kernel_rfl
theorem Z9V:(Tryz.prog.info? 29).map (·.size)=some 1:=by kernel_rfl
theorem Z4j:(Tryz.prog.info? 27).map (·.size)=some 1:=by kernel_rfl
theorem Z4D:(Tryz.prog.info? 55).map (·.size)=some 1:=by kernel_rfl
theorem Zb2:(Tryz.prog.info? 25).map (·.size)=some 1:=by kernel_rfl
theorem Z7k:(Tryz.prog.info? 24).map (·.size)=some 1:=by kernel_rfl
theorem Z4a:(Tryz.prog.info? 9).map (·.size)=some 1:=by kernel_rfl
theorem Z5o:szOf Tryz.prog 50=some (some 4):=by kernel_rfl
theorem Zat:szOf Tryz.prog 32=some none:=by kernel_rfl
theorem Z6:szOf Tryz.prog 42=some (some 8):=by kernel_rfl
theorem Z3V:szOf Tryz.prog 46=some (some 9):=by kernel_rfl
theorem Z2V:szOf Tryz.prog 78=some (some 9):=by kernel_rfl
theorem Z27:szOf Tryz.prog 76=some (some 3):=by kernel_rfl
theorem ZL:szOf Tryz.prog 31=some (some 14):=by kernel_rfl
theorem ZM:szOf Tryz.prog 94=some (some 3):=by kernel_rfl
theorem Z4T:szOf Tryz.prog 40=some (some 3):=by kernel_rfl
theorem Z1E:szOf Tryz.prog 4=some none:=by kernel_rfl
theorem Zq:szOf Tryz.prog 3=some none:=by kernel_rfl
theorem Z2y:szOf Tryz.prog 2=some none:=by kernel_rfl
theorem Z4f:szOf Tryz.prog 23=some none:=by kernel_rfl
theorem Zk:szOf Tryz.prog 28=some none:=by kernel_rfl
theorem Z2v:szOf Tryz.prog 26=some none:=by kernel_rfl
theorem Z2q:szOf Tryz.prog 29=some none:=by kernel_rfl
theorem Z1b:szOf Tryz.prog 27=some none:=by kernel_rfl
theorem ZJ:szOf Tryz.prog 55=some none:=by kernel_rfl
theorem Z24:szOf Tryz.prog 25=some none:=by kernel_rfl
theorem Z20:szOf Tryz.prog 24=some none:=by kernel_rfl
theorem Za:szOf Tryz.prog 9=some none:=by kernel_rfl
theorem ZiW:szOf Tryz.prog 5=some none:=by kernel_rfl
theorem Zhu:Tryz.prog.underlying 3=some (.int .i64):=by kernel_rfl
theorem Zbx:Tryz.prog.underlying 2=some (.int .i64):=by kernel_rfl
theorem ZA:Tryz.prog.underlying 100=some (.map 9 98):=by kernel_rfl
theorem Z1R:Tryz.prog.underlying 236=some (.map 9 3):=by kernel_rfl
theorem Z3D:Tryz.prog.underlying 23=some (.slice 50):=by kernel_rfl
theorem Zy:Tryz.prog.underlying 28=some (.slice 42):=by kernel_rfl
theorem Z36:Tryz.prog.underlying 26=some (.slice 46):=by kernel_rfl
theorem Z2X:Tryz.prog.underlying 29=some (.slice 78):=by kernel_rfl
theorem Z2g:Tryz.prog.underlying 27=some (.slice 76):=by kernel_rfl
theorem Z12:Tryz.prog.underlying 55=some (.slice 94):=by kernel_rfl
theorem Z2l:Tryz.prog.underlying 25=some (.slice 28):=by kernel_rfl
theorem ZD:Tryz.prog.underlying 24=some (.slice 9):=by kernel_rfl
theorem Z2a:Tryz.prog.underlying 37=some (.slice 5):=by kernel_rfl
theorem Zd:Tryz.prog.underlying 9=some .string:=by kernel_rfl
theorem Z6K:Tryz.prog.underlying 136=some (.int .u64):=by kernel_rfl
theorem Z3m:Tryz.prog.underlying 5=some (.int .u8):=by kernel_rfl
theorem Zd0:zeroOf Tryz.prog 171=some (.agg #[.int .i64 0,.int .i64 0,.int .i64 0,.int .i64 0,.int .i64 0,.int .i64 0,.int .i64 0,.int .i64 0,.int .i64 0,.int .i64 0,.int .i64 0,.int .i64 0,.int .i64 0]):=by kernel_rfl
theorem Zav:zeroOf Tryz.prog 89=some (.agg #[.string ⟨#[]⟩,.string ⟨#[]⟩,.string ⟨#[]⟩,.string ⟨#[]⟩,.string ⟨#[]⟩,.string ⟨#[]⟩,.string ⟨#[]⟩,.string ⟨#[]⟩,.string ⟨#[]⟩,.string ⟨#[]⟩,.string ⟨#[]⟩,.string ⟨#[]⟩,.string ⟨#[]⟩]):=by kernel_rfl
theorem Zbj:zeroOf Tryz.prog 88=some (.agg #[.string ⟨#[]⟩,.string ⟨#[]⟩,.string ⟨#[]⟩,.string ⟨#[]⟩]):=by kernel_rfl
theorem Z6S:zeroOf Tryz.prog 50=some (.agg #[.string ⟨#[]⟩,.int .i64 0,.bool false,.bool false]):=by kernel_rfl
theorem ZeM:zeroOf Tryz.prog 32=some (.int .i64 0):=by kernel_rfl
theorem ZT:zeroOf Tryz.prog 42=some (.agg #[.int .i64 0,.int .i64 0,.int .i64 0,.string ⟨#[]⟩,.string ⟨#[]⟩,.string ⟨#[]⟩,.int .i64 0,.slice none 0 0]):=by kernel_rfl
theorem Z6p:zeroOf Tryz.prog 46=some (.agg #[.bool false,.int .i64 0,.int .i64 0,.int .i64 0,.string ⟨#[]⟩,.string ⟨#[]⟩,.string ⟨#[]⟩,.int .i64 0,.slice none 0 0]):=by kernel_rfl
theorem Z4Y:zeroOf Tryz.prog 78=some (.agg #[.int .i64 0,.int .i64 0,.int .i64 0,.string ⟨#[]⟩,.string ⟨#[]⟩,.string ⟨#[]⟩,.int .i64 0,.slice none 0 0,.bool false]):=by kernel_rfl
theorem Z2W:zeroOf Tryz.prog 76=some (.agg #[.string ⟨#[]⟩,.string ⟨#[]⟩,.slice none 0 0]):=by kernel_rfl
theorem Z1Q:zeroOf Tryz.prog 31=some (.agg #[.int .i64 0,.string ⟨#[]⟩,.string ⟨#[]⟩,.slice none 0 0,.slice none 0 0,.slice none 0 0,.slice none 0 0,.slice none 0 0,.slice none 0 0,.slice none 0 0,.slice none 0 0,.int .i64 0,.slice none 0 0,.bool false]):=by kernel_rfl
theorem Z1C:zeroOf Tryz.prog 94=some (.agg #[.int .i64 0,.string ⟨#[]⟩,.int .i64 0]):=by kernel_rfl
theorem Z5G:zeroOf Tryz.prog 98=some (.nilFunc):=by kernel_rfl
theorem ZhH:zeroOf Tryz.prog 3=some (.int .i64 0):=by kernel_rfl
theorem Z95:zeroOf Tryz.prog 59=some (.agg #[]):=by kernel_rfl
theorem hmx:Tryz.prog.follows .mixedOrders=true:=by kernel_rfl
end Go.Proofs.YtbedigkncjbggaaGreatDoor
set_option maxRecDepth 20000
namespace Go.Proofs.YtbedigkncjbggaaGreatDoor
open Go Go.Vc Go.Shelf
def Z5k:Go.Shelf.Ren:=⟨fun|158=>93|165=>80|166=>81|167=>133|169=>82|230=>134|203=>135|240=>129|241=>130|197=>153|118=>154|168=>155|270=>156|262=>157|276=>147|277=>148|260=>171|242=>172|313=>173|278=>181|274=>182|275=>183|n=>n,fun|9=>9|4=>4|3=>3|5=>5|72=>118|0=>0|76=>122|75=>121|107=>164|70=>116|20=>20|37=>37|127=>160|21=>21|105=>180|164=>172|162=>201|203=>199|119=>187|46=>161|139=>210|138=>209|51=>194|160=>211|208=>230|206=>228|80=>72|n=>n,fun|13=>3|3=>5|4=>6|n=>n⟩
theorem lays158:Go.Proofs.Lays.n158 Tryz.prog Z5k:={
 mixed:=by kernel_rfl
 f118:=Tryz.func154.trans (congrArg some qK)
 f158:=Tryz.func93.trans (congrArg some qK)
 f165:=Tryz.func80.trans (congrArg some qK)
 f166:=Tryz.func81.trans (congrArg some qK)
 f167:=Tryz.func133.trans (congrArg some qK)
 f168:=Tryz.func155.trans (congrArg some qK)
 f169:=Tryz.func82.trans (congrArg some qK)
 f197:=Tryz.func153.trans (congrArg some qK)
 f203:=Tryz.func135.trans (congrArg some qK)
 f230:=Tryz.func134.trans (congrArg some qK)
 f240:=Tryz.func129.trans (congrArg some qK)
 f241:=Tryz.func130.trans (congrArg some qK)
 f242:=Tryz.func172.trans (congrArg some qK)
 f260:=Tryz.func171.trans (congrArg some qK)
 f262:=Tryz.func157.trans (congrArg some qK)
 f270:=Tryz.func156.trans (congrArg some qK)
 f274:=Tryz.func182.trans (congrArg some qK)
 f275:=Tryz.func183.trans (congrArg some qK)
 f276:=Tryz.func147.trans (congrArg some qK)
 f277:=Tryz.func148.trans (congrArg some qK)
 f278:=Tryz.func181.trans (congrArg some qK)
 f313:=Tryz.func173.trans (congrArg some qK)
 t0:=Tryz.underlying0
 a0:=Tryz.isAgg0
 z0:=Tryz.sizeOf0
 v0:=Tryz.zeroValue0
 t3:=Tryz.underlying3
 a3:=Tryz.isAgg3
 z3:=Tryz.sizeOf3
 v3:=Tryz.zeroValue3
 t4:=Tryz.underlying4
 a4:=Tryz.isAgg4
 z4:=Tryz.sizeOf4
 v4:=Tryz.zeroValue4
 t5:=Tryz.underlying5
 a5:=Tryz.isAgg5
 z5:=Tryz.sizeOf5
 v5:=Tryz.zeroValue5
 t9:=Tryz.underlying9
 a9:=Tryz.isAgg9
 z9:=Tryz.sizeOf9
 v9:=Tryz.zeroValue9
 t20:=Tryz.underlying20
 a20:=Tryz.isAgg20
 z20:=Tryz.sizeOf20
 v20:=Tryz.zeroValue20
 t21:=Tryz.underlying21
 a21:=Tryz.isAgg21
 z21:=Tryz.sizeOf21
 v21:=Tryz.zeroValue21
 t37:=Tryz.underlying37
 a37:=Tryz.isAgg37
 z37:=Tryz.sizeOf37
 v37:=Tryz.zeroValue37
 t46:=Tryz.underlying161
 a46:=Tryz.isAgg161
 z46:=Tryz.sizeOf161
 v46:=Tryz.zeroValue161
 t51:=Tryz.underlying194
 a51:=Tryz.isAgg194
 z51:=Tryz.sizeOf194
 v51:=Tryz.zeroValue194
 t70:=Tryz.underlying116
 a70:=Tryz.isAgg116
 z70:=Tryz.sizeOf116
 v70:=Tryz.zeroValue116
 t72:=Tryz.underlying118
 a72:=Tryz.isAgg118
 z72:=Tryz.sizeOf118
 v72:=Tryz.zeroValue118
 t75:=Tryz.underlying121
 a75:=Tryz.isAgg121
 z75:=Tryz.sizeOf121
 v75:=Tryz.zeroValue121
 t76:=Tryz.underlying122
 a76:=Tryz.isAgg122
 z76:=Tryz.sizeOf122
 v76:=Tryz.zeroValue122
 t105:=Tryz.underlying180
 a105:=Tryz.isAgg180
 z105:=Tryz.sizeOf180
 v105:=Tryz.zeroValue180
 t107:=Tryz.underlying164
 a107:=Tryz.isAgg164
 z107:=Tryz.sizeOf164
 v107:=Tryz.zeroValue164
 t119:=Tryz.underlying187
 a119:=Tryz.isAgg187
 z119:=Tryz.sizeOf187
 t127:=Tryz.underlying160
 a127:=Tryz.isAgg160
 z127:=Tryz.sizeOf160
 v127:=Tryz.zeroValue160
 t138:=Tryz.underlying209
 a138:=Tryz.isAgg209
 z138:=Tryz.sizeOf209
 v138:=Tryz.zeroValue209
 t139:=Tryz.underlying210
 a139:=Tryz.isAgg210
 z139:=Tryz.sizeOf210
 v139:=Tryz.zeroValue210
 t160:=Tryz.underlying211
 a160:=Tryz.isAgg211
 z160:=Tryz.sizeOf211
 v160:=Tryz.zeroValue211
 t162:=Tryz.underlying201
 a162:=Tryz.isAgg201
 z162:=Tryz.sizeOf201
 v162:=Tryz.zeroValue201
 t164:=Tryz.underlying172
 a164:=Tryz.isAgg172
 z164:=Tryz.sizeOf172
 v164:=Tryz.zeroValue172
 t203:=Tryz.underlying199
 a203:=Tryz.isAgg199
 z203:=Tryz.sizeOf199
 v203:=Tryz.zeroValue199
 t206:=Tryz.underlying228
 a206:=Tryz.isAgg228
 z206:=Tryz.sizeOf228
 v206:=Tryz.zeroValue228
 t208:=Tryz.underlying230
 a208:=Tryz.isAgg230
 z208:=Tryz.sizeOf230
 v208:=Tryz.zeroValue230
 g3:=by kernel_rfl
 g4:=by kernel_rfl
 g13:=by kernel_rfl}
theorem extra158:Builder.Extra Tryz.prog Z5k:={
 sizeBuilder:=by kernel_rfl
 liesBuilder:=by kernel_rfl
 t5:=Tryz.underlying5
 a5:=Tryz.isAgg5
 z5:=Tryz.sizeOf5
 v5:=Tryz.zeroValue5
 infoByte:=by kernel_rfl
 cellsByte:=by kernel_rfl
 sizeByte:=by kernel_rfl
 neB5:=by decide}
open Go.RowKit in
def Zbg:Go.Shelf.Ren:=⟨fun|159=>142|165=>80|166=>81|167=>133|169=>82|230=>134|204=>161|240=>129|241=>130|197=>153|118=>154|168=>155|270=>156|262=>157|276=>147|277=>148|260=>171|242=>172|313=>173|278=>181|274=>182|275=>183|n=>n,fun|9=>9|4=>4|3=>3|5=>5|72=>118|0=>0|76=>122|75=>121|107=>164|70=>116|20=>20|37=>37|127=>160|21=>21|105=>180|164=>172|162=>201|203=>199|119=>187|46=>161|139=>210|138=>209|51=>194|160=>211|208=>230|206=>228|80=>72|n=>n,fun|13=>3|3=>5|4=>6|n=>n⟩
theorem lays159:Go.Proofs.Lays.n159 Tryz.prog Zbg:={
 mixed:=by kernel_rfl
 f118:=Tryz.func154.trans (congrArg some qK)
 f159:=Tryz.func142.trans (congrArg some qK)
 f165:=Tryz.func80.trans (congrArg some qK)
 f166:=Tryz.func81.trans (congrArg some qK)
 f167:=Tryz.func133.trans (congrArg some qK)
 f168:=Tryz.func155.trans (congrArg some qK)
 f169:=Tryz.func82.trans (congrArg some qK)
 f197:=Tryz.func153.trans (congrArg some qK)
 f204:=Tryz.func161.trans (congrArg some qK)
 f230:=Tryz.func134.trans (congrArg some qK)
 f240:=Tryz.func129.trans (congrArg some qK)
 f241:=Tryz.func130.trans (congrArg some qK)
 f242:=Tryz.func172.trans (congrArg some qK)
 f260:=Tryz.func171.trans (congrArg some qK)
 f262:=Tryz.func157.trans (congrArg some qK)
 f270:=Tryz.func156.trans (congrArg some qK)
 f274:=Tryz.func182.trans (congrArg some qK)
 f275:=Tryz.func183.trans (congrArg some qK)
 f276:=Tryz.func147.trans (congrArg some qK)
 f277:=Tryz.func148.trans (congrArg some qK)
 f278:=Tryz.func181.trans (congrArg some qK)
 f313:=Tryz.func173.trans (congrArg some qK)
 t0:=Tryz.underlying0
 a0:=Tryz.isAgg0
 z0:=Tryz.sizeOf0
 v0:=Tryz.zeroValue0
 t3:=Tryz.underlying3
 a3:=Tryz.isAgg3
 z3:=Tryz.sizeOf3
 v3:=Tryz.zeroValue3
 t4:=Tryz.underlying4
 a4:=Tryz.isAgg4
 z4:=Tryz.sizeOf4
 v4:=Tryz.zeroValue4
 t5:=Tryz.underlying5
 a5:=Tryz.isAgg5
 z5:=Tryz.sizeOf5
 v5:=Tryz.zeroValue5
 t9:=Tryz.underlying9
 a9:=Tryz.isAgg9
 z9:=Tryz.sizeOf9
 v9:=Tryz.zeroValue9
 t20:=Tryz.underlying20
 a20:=Tryz.isAgg20
 z20:=Tryz.sizeOf20
 v20:=Tryz.zeroValue20
 t21:=Tryz.underlying21
 a21:=Tryz.isAgg21
 z21:=Tryz.sizeOf21
 v21:=Tryz.zeroValue21
 t37:=Tryz.underlying37
 a37:=Tryz.isAgg37
 z37:=Tryz.sizeOf37
 v37:=Tryz.zeroValue37
 t46:=Tryz.underlying161
 a46:=Tryz.isAgg161
 z46:=Tryz.sizeOf161
 v46:=Tryz.zeroValue161
 t51:=Tryz.underlying194
 a51:=Tryz.isAgg194
 z51:=Tryz.sizeOf194
 v51:=Tryz.zeroValue194
 t70:=Tryz.underlying116
 a70:=Tryz.isAgg116
 z70:=Tryz.sizeOf116
 v70:=Tryz.zeroValue116
 t72:=Tryz.underlying118
 a72:=Tryz.isAgg118
 z72:=Tryz.sizeOf118
 v72:=Tryz.zeroValue118
 t75:=Tryz.underlying121
 a75:=Tryz.isAgg121
 z75:=Tryz.sizeOf121
 v75:=Tryz.zeroValue121
 t76:=Tryz.underlying122
 a76:=Tryz.isAgg122
 z76:=Tryz.sizeOf122
 v76:=Tryz.zeroValue122
 t105:=Tryz.underlying180
 a105:=Tryz.isAgg180
 z105:=Tryz.sizeOf180
 v105:=Tryz.zeroValue180
 t107:=Tryz.underlying164
 a107:=Tryz.isAgg164
 z107:=Tryz.sizeOf164
 v107:=Tryz.zeroValue164
 t119:=Tryz.underlying187
 a119:=Tryz.isAgg187
 z119:=Tryz.sizeOf187
 t127:=Tryz.underlying160
 a127:=Tryz.isAgg160
 z127:=Tryz.sizeOf160
 v127:=Tryz.zeroValue160
 t138:=Tryz.underlying209
 a138:=Tryz.isAgg209
 z138:=Tryz.sizeOf209
 v138:=Tryz.zeroValue209
 t139:=Tryz.underlying210
 a139:=Tryz.isAgg210
 z139:=Tryz.sizeOf210
 v139:=Tryz.zeroValue210
 t160:=Tryz.underlying211
 a160:=Tryz.isAgg211
 z160:=Tryz.sizeOf211
 v160:=Tryz.zeroValue211
 t162:=Tryz.underlying201
 a162:=Tryz.isAgg201
 z162:=Tryz.sizeOf201
 v162:=Tryz.zeroValue201
 t164:=Tryz.underlying172
 a164:=Tryz.isAgg172
 z164:=Tryz.sizeOf172
 v164:=Tryz.zeroValue172
 t203:=Tryz.underlying199
 a203:=Tryz.isAgg199
 z203:=Tryz.sizeOf199
 v203:=Tryz.zeroValue199
 t206:=Tryz.underlying228
 a206:=Tryz.isAgg228
 z206:=Tryz.sizeOf228
 v206:=Tryz.zeroValue228
 t208:=Tryz.underlying230
 a208:=Tryz.isAgg230
 z208:=Tryz.sizeOf230
 v208:=Tryz.zeroValue230
 g3:=by kernel_rfl
 g4:=by kernel_rfl
 g13:=by kernel_rfl}
theorem extra159:Builder.Extra Tryz.prog Zbg:={
 sizeBuilder:=by kernel_rfl
 liesBuilder:=by kernel_rfl
 t5:=Tryz.underlying5
 a5:=Tryz.isAgg5
 z5:=Tryz.sizeOf5
 v5:=Tryz.zeroValue5
 infoByte:=by kernel_rfl
 cellsByte:=by kernel_rfl
 sizeByte:=by kernel_rfl
 neB5:=by decide}
open Go.RowKit in
def ZfN:Go.Shelf.Ren:=⟨fun|137=>97|217=>138|266=>160|n=>n,fun|9=>9|5=>5|3=>3|n=>n,fun|n=>n⟩
theorem lays137:Go.Proofs.Lays.n137 Tryz.prog ZfN:={
 mixed:=by kernel_rfl
 f137:=Tryz.func97.trans (congrArg some qK)
 f217:=Tryz.func138.trans (congrArg some qK)
 f266:=Tryz.func160.trans (congrArg some qK)
 t3:=Tryz.underlying3
 a3:=Tryz.isAgg3
 z3:=Tryz.sizeOf3
 v3:=Tryz.zeroValue3
 t5:=Tryz.underlying5
 a5:=Tryz.isAgg5
 z5:=Tryz.sizeOf5
 v5:=Tryz.zeroValue5
 t9:=Tryz.underlying9
 a9:=Tryz.isAgg9
 z9:=Tryz.sizeOf9
 v9:=Tryz.zeroValue9}
open Go.RowKit in
def Zmu:Go.Shelf.Ren:=⟨fun|143=>159|219=>176|217=>138|225=>184|224=>185|267=>186|266=>160|314=>190|n=>n,fun|9=>9|3=>3|4=>4|5=>5|46=>161|146=>231|51=>194|n=>n,fun|1=>1|n=>n⟩
open Go.RowKit Go.Lib in
def ZfM:Go.Shelf.Ren:=⟨fun|144=>141|143=>159|219=>176|217=>138|225=>184|224=>185|267=>186|266=>160|314=>190|n=>n,fun|9=>9|4=>4|3=>3|5=>5|46=>161|146=>231|51=>194|n=>n,fun|1=>1|n=>n⟩
theorem lays144:Go.Proofs.Lays.n144 Tryz.prog ZfM:={
 mixed:=by kernel_rfl
 f143:=Tryz.func159.trans (congrArg some qK)
 f144:=Tryz.func141.trans (congrArg some qK)
 f217:=Tryz.func138.trans (congrArg some qK)
 f219:=Tryz.func176.trans (congrArg some qK)
 f224:=Tryz.func185.trans (congrArg some qK)
 f225:=Tryz.func184.trans (congrArg some qK)
 f266:=Tryz.func160.trans (congrArg some qK)
 f267:=Tryz.func186.trans (congrArg some qK)
 f314:=Tryz.func190.trans (congrArg some qK)
 t3:=Tryz.underlying3
 a3:=Tryz.isAgg3
 z3:=Tryz.sizeOf3
 v3:=Tryz.zeroValue3
 t4:=Tryz.underlying4
 a4:=Tryz.isAgg4
 z4:=Tryz.sizeOf4
 v4:=Tryz.zeroValue4
 t5:=Tryz.underlying5
 a5:=Tryz.isAgg5
 z5:=Tryz.sizeOf5
 v5:=Tryz.zeroValue5
 t9:=Tryz.underlying9
 a9:=Tryz.isAgg9
 z9:=Tryz.sizeOf9
 v9:=Tryz.zeroValue9
 t46:=Tryz.underlying161
 a46:=Tryz.isAgg161
 z46:=Tryz.sizeOf161
 v46:=Tryz.zeroValue161
 t51:=Tryz.underlying194
 a51:=Tryz.isAgg194
 z51:=Tryz.sizeOf194
 v51:=Tryz.zeroValue194
 t146:=Tryz.underlying231
 a146:=Tryz.isAgg231
 z146:=Tryz.sizeOf231
 v146:=Tryz.zeroValue231
 g1:=by kernel_rfl}
open Go.RowKit Go.Lib in
def ZfG:Go.Shelf.Ren:=⟨fun|157=>144|229=>162|199=>163|261=>177|311=>187|312=>188|n=>n,fun|9=>9|31=>24|3=>3|5=>5|4=>4|119=>187|0=>0|40=>189|152=>202|21=>21|154=>204|51=>194|141=>206|196=>217|193=>214|198=>220|49=>218|194=>215|201=>223|226=>233|46=>161|227=>234|n=>n,fun|0=>0|6=>4|n=>n⟩
theorem lays157:Go.Proofs.Lays.n157 Tryz.prog ZfG:={
 mixed:=by kernel_rfl
 f157:=Tryz.func144.trans (congrArg some qK)
 f199:=Tryz.func163.trans (congrArg some qK)
 f229:=Tryz.func162.trans (congrArg some qK)
 f261:=Tryz.func177.trans (congrArg some qK)
 f311:=Tryz.func187.trans (congrArg some qK)
 f312:=Tryz.func188.trans (congrArg some qK)
 t0:=Tryz.underlying0
 a0:=Tryz.isAgg0
 z0:=Tryz.sizeOf0
 v0:=Tryz.zeroValue0
 t3:=Tryz.underlying3
 a3:=Tryz.isAgg3
 z3:=Tryz.sizeOf3
 v3:=Tryz.zeroValue3
 t4:=Tryz.underlying4
 a4:=Tryz.isAgg4
 z4:=Tryz.sizeOf4
 v4:=Tryz.zeroValue4
 t5:=Tryz.underlying5
 a5:=Tryz.isAgg5
 z5:=Tryz.sizeOf5
 v5:=Tryz.zeroValue5
 t9:=Tryz.underlying9
 a9:=Tryz.isAgg9
 z9:=Tryz.sizeOf9
 v9:=Tryz.zeroValue9
 t21:=Tryz.underlying21
 a21:=Tryz.isAgg21
 z21:=Tryz.sizeOf21
 v21:=Tryz.zeroValue21
 t31:=Tryz.underlying24
 a31:=Tryz.isAgg24
 z31:=Tryz.sizeOf24
 v31:=Tryz.zeroValue24
 t40:=Tryz.underlying189
 a40:=Tryz.isAgg189
 z40:=Tryz.sizeOf189
 v40:=Tryz.zeroValue189
 t46:=Tryz.underlying161
 a46:=Tryz.isAgg161
 z46:=Tryz.sizeOf161
 v46:=Tryz.zeroValue161
 t49:=Tryz.underlying218
 a49:=Tryz.isAgg218
 z49:=Tryz.sizeOf218
 v49:=Tryz.zeroValue218
 t51:=Tryz.underlying194
 a51:=Tryz.isAgg194
 z51:=Tryz.sizeOf194
 v51:=Tryz.zeroValue194
 t119:=Tryz.underlying187
 a119:=Tryz.isAgg187
 z119:=Tryz.sizeOf187
 t141:=Tryz.underlying206
 a141:=Tryz.isAgg206
 z141:=Tryz.sizeOf206
 v141:=Tryz.zeroValue206
 t152:=Tryz.underlying202
 a152:=Tryz.isAgg202
 z152:=Tryz.sizeOf202
 v152:=Tryz.zeroValue202
 t154:=Tryz.underlying204
 a154:=Tryz.isAgg204
 z154:=Tryz.sizeOf204
 v154:=Tryz.zeroValue204
 t193:=Tryz.underlying214
 a193:=Tryz.isAgg214
 z193:=Tryz.sizeOf214
 v193:=Tryz.zeroValue214
 t194:=Tryz.underlying215
 a194:=Tryz.isAgg215
 z194:=Tryz.sizeOf215
 v194:=Tryz.zeroValue215
 t196:=Tryz.underlying217
 a196:=Tryz.isAgg217
 z196:=Tryz.sizeOf217
 v196:=Tryz.zeroValue217
 t198:=Tryz.underlying220
 a198:=Tryz.isAgg220
 z198:=Tryz.sizeOf220
 v198:=Tryz.zeroValue220
 t201:=Tryz.underlying223
 a201:=Tryz.isAgg223
 z201:=Tryz.sizeOf223
 v201:=Tryz.zeroValue223
 t226:=Tryz.underlying233
 a226:=Tryz.isAgg233
 z226:=Tryz.sizeOf233
 v226:=Tryz.zeroValue233
 t227:=Tryz.underlying234
 a227:=Tryz.isAgg234
 z227:=Tryz.sizeOf234
 v227:=Tryz.zeroValue234
 g0:=by kernel_rfl
 g6:=by kernel_rfl}
open Go.RowKit Go.Lib in
def GF(w:World):Prop:=∃m,w.cell? ⟨1,0,none⟩=some (.int .i64 m)
def AF(w:World):Prop:=Lib.TabIs Tryz.prog w "strings.asciiSpace" .u8 Lib.asciiSpaceTab
theorem Za7(s:ByteArray)(c:Int):CallTy Tryz.prog Zac [.is (.string s),.is (.int .u8 c)] (.is (.int .i64 (Lib.indexByte s.data.toList c.toNat.toUInt8))):=
 .ofShelf0 (ws:=[.string s,.int .u8 c]) (fun _ _=>by kernel_rfl) fun w=>Any.strings_IndexByte lays137 s c w
theorem Z6U(s:ByteArray)(hs:s.size<=140737488355328)(ha: ∀(j:Nat) (b:UInt8),s.data.toList[j]? =some b->b.toNat<128):CallTy Tryz.prog ZaZ [.is (.string s)] (.is (.string ⟨(Lib.toUpperA s.data.toList).toArray⟩)):=
 .ofShelf (ws:=[.string s]) (fun _ _=>by kernel_rfl) fun w=>Any.strings_ToUpper_ascii lays158 extra158 s w hs ha
theorem ZaY(s:ByteArray)(hs:s.size<=140737488355328)(ha: ∀(j:Nat) (b:UInt8),s.data.toList[j]? =some b->b.toNat<128):CallTy Tryz.prog Zb1 [.is (.string s)] (.is (.string ⟨(Lib.toLowerA s.data.toList).toArray⟩)):=
 .ofShelf (ws:=[.string s]) (fun _ _=>by kernel_rfl) fun w=>Any.strings_ToLower_ascii lays159 extra159 s w hs ha
theorem Z6x(s sub:ByteArray)(hs:s.size<4294967281):CallF Tryz.prog Zae [GF] [.is (.string s),.is (.string sub)] (.is (.bool (Lib.contains s.data.toList sub.data.toList))):=
 .ofShelf (ws:=[.string s,.string sub]) (fun _ _=>by kernel_rfl) fun w hw=>by
  obtain⟨m,hm⟩:=hw GF (by simp);exact(Any.strings_Contains lays144 s sub m w hs hm).mono fun e w' ⟨h1,h2⟩=>⟨h1,h2 ▸ .refl _ _⟩
theorem ZbB(s:ByteArray)(hs:s.size<4294967281)(ha: ∀(j:Nat) (b:UInt8),s.data.toList[j]? =some b->b.toNat<128):CallF Tryz.prog Z7f [AF] [.is (.string s)] (.newSl (.cells ((Lib.fields s.data.toList).map fun l=>Value.string ⟨l.toArray⟩).toArray 9 (0,0)) (Lib.fields s.data.toList).length (Lib.fields s.data.toList).length):=
 ⟨fun _ _=>by kernel_rfl,fun E w vs hw hF ht=>by
   obtain⟨v,rfl,rfl⟩: ∃v,vs=[v]/\v= .string s:=by
     cases vs with
     |nil=>exact ht.elim
     |cons v vs=>
       obtain⟨h1,h2⟩:=ht;cases vs with
       |nil=>exact⟨v,rfl,h1⟩
       |cons _ _=>exact h2.elim
   have hT:AF w:=(hF AF (by simp)).now;refine Calls.mono (Any.strings_Fields lays157 qK qK s w hs ha hT) ?_;rintro e w' ⟨rfl,rfl⟩;exact⟨_,rfl,Keeps.alloc w _,_,rfl,fun he=>absurd (hw _ he) qM,Z2i w _⟩⟩
end Go.Proofs.YtbedigkncjbggaaGreatDoor
set_option maxRecDepth 20000
namespace Go.Proofs.YtbedigkncjbggaaGreatDoor
open Go Go.Vc
abbrev sv(s:ByteArray)(i:Nat):Value:=.agg #[.string s,.int .i64 (i:Int)]
def or32(c:Int):Int:=IntKind.u8.wrap (BitVec.ofInt IntKind.u8.bits c|||BitVec.ofInt IntKind.u8.bits 32).toNat
def letterF(c:Int):Bool:=(c==95)||(decide (97<=or32 c)&&decide (or32 c<=122))
def digitF(c:Int):Bool:=decide (48<=c)&&decide (c<=57)
def letB(b:UInt8):Bool:=letterF b.toNat
def digB(b:UInt8):Bool:=digitF b.toNat
def wordB(b:UInt8):Bool:=letB b||digB b
def isSp(b:UInt8):Bool:=decide (0<=Lib.indexByte [32,9,10,13] b)
def runN(p:UInt8->Bool):List UInt8->Nat
 |[]=>0
 |b::l=>if p b then runN p l+1 else 0
theorem ZaR(p:UInt8->Bool): ∀l:List UInt8,runN p l<=l.length
 |[]=>Nat.le_refl _
 |b::l=>by
   have:=ZaR p l;unfold runN
   split<;>simp<;>omega
theorem Z6c{p:UInt8->Bool}{s:ByteArray}{i:Nat}(h:i<s.size->p (by_ s i)=false):runN p (dr s i)=0:=by
 by_cases hi:i<s.size
 · rw[Z1D hi,runN,if_neg (by rw[h hi];simp)]
 · rw[Z5h qM];rfl
theorem Z7z{p:UInt8->Bool}{s:ByteArray}{i:Nat}(hi:i<s.size)(h:p (by_ s i)=true):runN p (dr s i)=runN p (dr s (i+1))+1:=by
 rw[Z1D hi,runN,if_pos h]
theorem ZaF{p:UInt8->Bool}{s:ByteArray}{i:Nat}(hi:i<=s.size):i+runN p (dr s i)<=s.size:=by
 have:=ZaR p (dr s i);rw[Z5i]at this
 omega
theorem ZjG(s:ByteArray)(i:Nat):(sb s i).toNat.toUInt8=by_ s i:=by
 rw[Zmz]
 simp
def kwB:ByteArray:=⟨#[32,65,78,68,32,65,83,32,65,83,67,32,66,69,71,73,78,32,66,79,79,76,32,66,89,32,67,79,77,77,73,84,32,67,79,85,78,84,32,67,82,69,65,84,69,32,68,69,76,69,84,69,32,68,69,83,67,32,70,65,76,83,69,32,70,82,79,77,32,71,82,79,85,80,32,72,65,83,72,32,73,78,68,69,88,32,73,78,78,69,82,32,73,78,83,69,82,84,32,73,78,84,32,73,78,84,79,32,73,83,32,74,79,73,78,32,75,69,89,32,76,73,77,73,84,32,77,65,88,32,77,73,78,32,78,79,84,32,78,85,76,76,32,79,78,32,79,82,32,79,82,68,69,82,32,80,82,73,77,65,82,89,32,82,79,76,76,66,65,67,75,32,83,69,76,69,67,84,32,83,69,84,32,83,85,77,32,84,65,66,76,69,32,84,69,88,84,32,84,82,85,69,32,85,78,73,81,85,69,32,85,80,68,65,84,69,32,85,83,73,78,71,32,86,65,76,85,69,83,32,87,72,69,82,69,32]⟩
def sgB:ByteArray:=⟨#[32,60,62,32,60,61,32,62,61,32,40,32,41,32,44,32,59,32,42,32,43,32,45,32,47,32,37,32,61,32,60,32,62,32,46,32]⟩
abbrev sp1:ByteArray:=⟨#[32]⟩
abbrev bl(l:List UInt8):ByteArray:=⟨l.toArray⟩
theorem Z29(l:List UInt8):(bl l).size=l.length:=by show l.toArray.size=_;simp
theorem Z1O(l:List UInt8):(bl l).data.toList=l:=by simp
theorem Zh0(s:ByteArray):bl s.data.toList=s:=by cases s;simp
theorem ZeD(s:ByteArray)(n k:Nat):s.extract n (n+k)=bl ((dr s n).take k):=by
 rw[<-Z1t,Zh0]
theorem Z3Y(a b:ByteArray):(a++b).data.toList=a.data.toList++b.data.toList:=by
 rw[ByteArray.data_append,Array.toList_append]
def padL(l:List UInt8):List UInt8:=32::l++[32]
theorem Z7h(a:ByteArray):((sp1++a)++sp1).data.toList=padL a.data.toList:=by
 rw[Z3Y,Z3Y];rfl
def wordL(w:List UInt8):T3×Int:=
 if Lib.contains kwB.data.toList (padL (Lib.toUpperA w))then(⟨1,bl (Lib.toUpperA w),0⟩,0)
 else if decide (32<(w.length:Int))then(t3D,30)else(⟨2,bl (Lib.toLowerA w),0⟩,0)
def numStep(a:Int×Int)(b:UInt8):Int×Int:=
 (IntKind.i64.wrap (IntKind.i64.wrap (10*a.1)+IntKind.i64.wrap (IntKind.u8.wrap ((b.toNat:Int)-48))),
  if decide ((IntKind.i64.wrap ((IntKind.i64.wrap (9223372036854775807-IntKind.i64.wrap (IntKind.u8.wrap ((b.toNat:Int)-48)))).tdiv 10))<a.1)then 35 else a.2)
def headP(p:UInt8->Bool):List UInt8->Bool
 |[]=>false
 |b::_=>p b
def numE(l:List UInt8):Int:=if headP letB (l.drop (runN digB l))then 30 else((l.take (runN digB l)).foldl numStep (0,0)).2
def numL(l:List UInt8):T3×Int:=
 if(numE l != 0)then(t3D,numE l)else(⟨3,⟨#[]⟩,((l.take (runN digB l)).foldl numStep (0,0)).1⟩,0)
def endT(acc:List UInt8):T3×Int:=if decide (64<(acc.length:Int))then(t3D,30)else(⟨4,bl acc,0⟩,0)
def textL:List UInt8->List UInt8->(T3×Int)×Nat
 |[],_=>((t3D,30),0)
 |[b],acc=>if b==39 then(endT acc,1)else((t3D,30),1)
 |b::c::l,acc=>if b==39 then(if c != 39 then(endT acc,1)else((textL l (acc++[c])).1,(textL l (acc++[c])).2+2))else((textL (c::l) (acc++[b])).1,(textL (c::l) (acc++[b])).2+1)
def tryL(l:List UInt8)(q:Nat):Bool:=decide (q<=l.length)&&Lib.contains sgB.data.toList (padL (l.take q))
def signL(l:List UInt8):(T3×Int)×Nat:=if tryL l 2 then((⟨5,bl (l.take 2),0⟩,0),2)else if tryL l 1 then((⟨5,bl (l.take 1),0⟩,0),1)else((t3D,30),0)
def stepL:List UInt8->(T3×Int)×Nat
 |[]=>((t3D,30),0)
 |b::l=>if letB b then(wordL ((b::l).take (runN wordB (b::l))),runN wordB (b::l))
  else if digB b then(numL (b::l),runN digB (b::l))
  else if b==39 then((textL l []).1,(textL l []).2+1)
  else signL (b::l)
def allG:Nat->List UInt8->List T3×Int
 |0,_=>([],0)
 |f+1,l=>match l.drop (runN isSp l)with
   |[]=>([],0)
   |b::r=>if((stepL (b::r)).1.2 != 0)then([],(stepL (b::r)).1.2)
     else if((allG f ((b::r).drop (stepL (b::r)).2)).2 != 0)then([],(allG f ((b::r).drop (stepL (b::r)).2)).2)
     else((stepL (b::r)).1.1::(allG f ((b::r).drop (stepL (b::r)).2)).1,0)
def lexL(l:List UInt8):List T3×Int:=if decide (2048<(l.length:Int))then([],30)else allG (l.length+1) l
theorem Zco(w:List UInt8):(Lib.toUpperA w).length=w.length:=by simp[Lib.toUpperA]
theorem Ze7(w:List UInt8):(Lib.toLowerA w).length=w.length:=by simp[Lib.toLowerA]
theorem ZfU{a:ByteArray}(h:a.size<=2048):sp1.size+a.size<=9223372036854775807:=by
 have:sp1.size=1:=rfl
 omega
theorem Zg3{a:ByteArray}(h:a.size<=2048):(sp1++a).size+sp1.size<=9223372036854775807:=by
 have:sp1.size=1:=rfl;rw[ByteArray.size_append]
 omega
theorem Z4N(s:ByteArray)(n k:Nat):(s.extract n (n+k)).size<=s.size:=by
 rw[ZeD,Z29,List.length_take,Z5i]
 omega
theorem ZcO: ∀n:Nat,n<256->(letterF n||digitF n)=true->n<128:=by decide+kernel
theorem Zh1{b:UInt8}(h:wordB b=true):b.toNat<128:=ZcO b.toNat b.toNat_lt h
theorem Z75(p:UInt8->Bool): ∀l:List UInt8,∀b∈l.take (runN p l),p b=true
 |[],b,h=>by simp[runN]at h
 |c::l,b,h=>by
   unfold runN at h
   by_cases hc:p c=true
   · rw[if_pos hc,List.take_succ_cons]at h
     rcases List.mem_cons.1 h with rfl|h
     · exact hc
     · exact Z75 p l b h
   · rw[if_neg hc]at h
     simp at h
theorem Zdm(s:ByteArray)(n:Nat): ∀(j:Nat) (b:UInt8),(s.extract n (n+runN wordB (dr s n))).data.toList[j]? =some b->b.toNat<128:=fun j b h=>by
 rw[Z1t]at h;exact Zh1 (Z75 wordB _ b (List.mem_of_getElem? h))
end Go.Proofs.YtbedigkncjbggaaGreatDoor
