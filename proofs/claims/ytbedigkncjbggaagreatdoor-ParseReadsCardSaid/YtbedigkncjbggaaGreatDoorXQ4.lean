/- How the parts of a statement lie in memory. No condition. -/
import Derived.Test.YtbedigkncjbggaaGreatDoorXQ1
import Derived.Test.YtbedigkncjbggaaGreatDoorXG7
import Derived.Test.YtbedigkncjbggaaGreatDoorXQ2
import Derived.Test.YtbedigkncjbggaaGreatDoorXQ3
namespace Go.Pz
open Go Go.Vc
abbrev agv(cs:List Value):Value:=.agg cs.toArray
theorem ZbM{x:Ex}{cs:List Value}{w:World}(h:ExR x (.agg cs.toArray) w): ∃k vk vn vs tb nm sl a len cap,cs=exCells k vk vn vs tb nm sl a len cap:=by
 obtain⟨k,vk,vn,vs,tb,nm,sl,a,len,cap,e⟩:=Z5R h;exact⟨k,vk,vn,vs,tb,nm,sl,a,len,cap,Z4A e⟩
theorem Z9H{x:Ex}{cs:List Value}{w:World}(h:ExR x (.agg cs.toArray) w):cs.length=8:=by
 obtain⟨k,vk,vn,vs,tb,nm,sl,a,len,cap,rfl⟩:=ZbM h;rfl
theorem ZaE{x:Ex}{cs:List Value}{w:World}(h:ExR x (.agg cs.toArray) w): ∀u∈cs,u.oneCell'=true:=by
 obtain⟨k,vk,vn,vs,tb,nm,sl,a,len,cap,rfl⟩:=ZbM h;intro u hu;simp only[exCells,List.mem_cons,List.mem_nil_iff,or_false]at hu;rcases hu with rfl|rfl|rfl|rfl|rfl|rfl|rfl|rfl<;>rfl
def exE:Enc Ex where
 sz:=8
 R x cs w:=ExR x (.agg cs.toArray) w
 v:=agv
 pos:=by decide
 len:=Z9H
 one:=ZaE
 nu h:=by
   obtain⟨k,n,h0⟩:=Z5k h;exact⟨_,h0,by simp[undef]⟩
 inj _ _ h:=Z4A h
def itE:Enc Itm where
 sz:=9
 R x cs w:=∃es,cs= .bool x.all::es/\ExR x.ex (.agg es.toArray) w
 v:=agv
 pos:=by decide
 len:=by rintro x cs w ⟨es,rfl,h⟩;simp[Z9H h]
 one:=by
   rintro x cs w ⟨es,rfl,h⟩ u hu;rcases List.mem_cons.1 hu with rfl|hu
   · rfl
   · exact ZaE h u hu
 nu:=by rintro x cs w ⟨es,rfl,h⟩;exact⟨_,rfl,by simp[undef]⟩
 inj _ _ h:=Z4A h
def kyE:Enc Ky where
 sz:=9
 R x cs w:=∃es,cs=es++[.bool x.desc]/\ExR x.ex (.agg es.toArray) w
 v:=agv
 pos:=by decide
 len:=by rintro x cs w ⟨es,rfl,h⟩;simp[Z9H h]
 one:=by
   rintro x cs w ⟨es,rfl,h⟩ u hu;rcases List.mem_append.1 hu with hu|hu
   · exact ZaE h u hu
   · rw[List.mem_singleton.1 hu];rfl
 nu:=by
   rintro x cs w ⟨es,rfl,h⟩;obtain⟨k,n,h0⟩:=Z5k h;exact⟨_,by rw[List.getElem?_append_left (by rw[Z9H h];decide)];exact h0,by simp[undef]⟩
 inj _ _ h:=Z4A h
def Col.cells(c:Col):List Value:=[.string c.nm,.int .i64 c.ty,.bool c.nn,.bool c.un]
def coE:Enc Col where
 sz:=4
 R x cs _:=cs=x.cells
 v:=agv
 pos:=by decide
 len:=by rintro x cs w rfl;rfl
 one:=by
   rintro x cs w rfl u hu;simp only[Col.cells,List.mem_cons,List.mem_nil_iff,or_false]at hu;rcases hu with rfl|rfl|rfl|rfl<;>rfl
 nu:=by rintro x cs w rfl;exact⟨_,rfl,by simp[undef]⟩
 inj _ _ h:=Z4A h
abbrev hdv(cs:List Value):Value:=cs.headD undef
theorem Zbh{cs cs':List Value}(h:cs.length=1)(h':cs'.length=1)(e:hdv cs=hdv cs'):cs=cs':=by
 match cs,cs',h,h' with
 |[a],[b],_,_=>simpa [hdv] using e
def stE:Enc ByteArray where
 sz:=1
 R x cs _:=cs=[.string x]
 v:=hdv
 pos:=by decide
 len:=by rintro x cs w rfl;rfl
 one:=by rintro x cs w rfl u hu;rw[List.mem_singleton.1 hu];rfl
 nu:=by rintro x cs w rfl;exact⟨_,rfl,by simp[undef]⟩
 inj:=Zbh
theorem Z8f{xs:List Ex}{v:Value}{w:World}(h:ExsR xs v w): ∃a len cap,v= .slice a len cap:=by
 obtain⟨a,len,cap,e,_⟩:=h;exact⟨a,len,cap,e⟩
def rwE:Enc (List Ex) where
 sz:=1
 R x cs w:=∃v,cs=[v]/\ExsR x v w
 v:=hdv
 pos:=by decide
 len:=by rintro x cs w ⟨v,rfl,h⟩;rfl
 one:=by
   rintro x cs w ⟨v,rfl,h⟩ u hu;obtain⟨a,len,cap,rfl⟩:=Z8f h;rw[List.mem_singleton.1 hu];rfl
 nu:=by
   rintro x cs w ⟨v,rfl,h⟩;obtain⟨a,len,cap,rfl⟩:=Z8f h;exact⟨_,rfl,by simp[undef]⟩
 inj:=Zbh
def srE:Enc Src where
 sz:=3
 R x cs w:=∃v,cs=[.string x.tb,.string x.nm,v]/\ExsR x.on v w
 v:=agv
 pos:=by decide
 len:=by rintro x cs w ⟨v,rfl,h⟩;rfl
 one:=by
   rintro x cs w ⟨v,rfl,h⟩ u hu;obtain⟨a,len,cap,rfl⟩:=Z8f h;simp only[List.mem_cons,List.mem_nil_iff,or_false]at hu;rcases hu with rfl|rfl|rfl<;>rfl
 nu:=by rintro x cs w ⟨v,rfl,h⟩;exact⟨_,rfl,by simp[undef]⟩
 inj _ _ h:=Z4A h
theorem Cel.kids{ps:List (Cel exE)}{a:Option Addr}{len:Nat}{w:World}(h:RowG Cel.cs 8 ps a len w)(hF:CelF exE ps w):KidsR (ps.map Cel.x) a len w:=by
 obtain⟨hl,hk⟩:=h;refine⟨by simp[hl],fun hn=>?_⟩;obtain⟨b,o,ha,hr⟩:=hk hn;refine⟨b,o,ha,Z7E (ps.map Cel.x) (ps.map Cel.cs) b o w (by simp) (fun i x cs hx hc=>?_) fun j v hj=>?_⟩
 · rw[List.getElem?_map]at hx hc
   cases hp:ps[i]? with
   |none=>rw[hp]at hx;cases hx
   |some p=>
     rw[hp]at hx hc;injection hx with hx
     injection hc with hc
     subst hx hc;exact⟨p.h,hF p (List.mem_of_getElem? hp)⟩
 · rw[<-List.flatMap_def]at hj
   obtain⟨x,hx,hu⟩:=Zbm (enc:=Cel.cs) (sz:=8) (fun x:Cel exE=>x.h) qM hj;have:=hr _ x hx _ v hu
   rwa [show o+8*(j / 8)+j % 8=o+j by rw[Nat.add_assoc,Nat.div_add_mod]]at this
theorem SlE.exs{G:GoS}{xs:List Ex}{v:Value}{w:World}(h:SlE exE G xs v w):ExsR xs v w:=by
 obtain⟨ps,a,len,cap,rfl,rfl,_,h4,h5,_⟩:=h;exact⟨a,len,cap,rfl,Cel.kids h4 h5⟩
theorem ZiN(x:Ex)(v:Value)(w:World):exE.T x v w↔ExR x v w:=by
 constructor
 · rintro⟨cs,rfl,h⟩;exact h
 · intro h
   obtain⟨k,vk,vn,vs,tb,nm,sl,a,len,cap,e⟩:=Z5R h;exact⟨_,e,by show ExR x (Value.agg (exCells k vk vn vs tb nm sl a len cap).toArray) w;rw[<-e];exact h⟩
theorem Z5Z(x:Ex):Ty.rep (ExR x)=Ty.rep (exE.T x):=by
 congr 1;funext v w;exact propext (ZiN x v w).symm
end Go.Pz
namespace Go.Pz
open Go Go.Vc
theorem Zgn:Dn typeP:=fun ts z h=>by
 unfold typeP at h
 split at h
 · rename_i hi;injection h with h;subst h;exact ZG hi
 split at h
 · rename_i hi;injection h with h;subst h;exact ZG hi
 split at h
 · rename_i hi;injection h with h;subst h;exact ZG hi
 · cases h
theorem Zbs(n:ByteArray)(t:Int)(nn:Bool):Dn0 (colEnd n t nn):=fun ts z h=>by
 unfold colEnd at h
 split at h
 · rename_i hi
   obtain⟨v,h7,rfl⟩:=mpd h;exact(Zk _ _ _ _ h7).1.trans (ZG hi).1
 · injection h with h;subst h;exact Z2o _ _ _
theorem Zb8:Dn colP:=fun ts z h=>by
 obtain⟨n,h1,h2⟩:=bnd h;obtain⟨t,h3,h4⟩:=bnd h2;have h5:Lt t.2 ts:=Lt.trans (Zgn _ _ h3) (ZV _ _ h1).1
 split at h4
 · rename_i hi
   obtain⟨v,h6,h7⟩:=bnd h4;exact Lt.trans' ((Zbs _ _ _ _ _ h7).trans ((Zk _ _ _ _ h6).1.trans (ZG hi).1)) h5
 · exact Lt.trans' (Zbs _ _ _ _ _ h4) h5
theorem Zav{α:Type}{part:Ps α}(hp:Dn0 part): ∀n,Dn0 (listG part n)
 |0,ts,z,h=>by rw[listG]at h;injection h with h;subst h;exact List.suffix_refl ts
 |n+1,ts,z,h=>by
   rw[listG]at h
   split at h
   · rename_i hi
     obtain⟨w,h1,h2⟩:=bnd h;obtain⟨y,h3,rfl⟩:=mpd h2;exact(Zav hp n _ _ h3).trans ((hp _ _ h1).trans (ZG hi).1)
   · injection h with h;subst h;exact List.suffix_refl ts
theorem Z3g{α:Type}{part:Ps α}(hp:Dn0 part)(most:Nat):Dn0 (listP most part):=fun ts z h=>by
 obtain⟨w,h1,h2⟩:=bnd h;obtain⟨y,h3,h4⟩:=bnd h2
 split at h4
 · injection h4 with h4;subst h4;exact(show y.2<:+w.2 from Zav hp _ _ _ h3).trans (hp _ _ h1)
 · cases h4
theorem Z8U{α:Type}{part:Ps α}(hp:Dn part)(most:Nat):Dn (listP most part):=fun ts z h=>by
 obtain⟨w,h1,h2⟩:=bnd h;obtain⟨y,h3,h4⟩:=bnd h2
 split at h4
 · injection h4 with h4;subst h4;exact Lt.trans' (show y.2<:+w.2 from Zav hp.le _ _ _ h3) (hp _ _ h1)
 · cases h4
theorem Z39{α:Type}{part:Ps α}(hp:Dn0 part):Dn (withinP part):=fun ts z h=>by
 obtain⟨a,h1,h2⟩:=bnd h;obtain⟨l,h3,h4⟩:=bnd h2;obtain⟨v,h5,rfl⟩:=mpd h4;exact Lt.trans (Zk _ _ _ _ h5) ((Z3g hp 16 _ _ h3).trans (Zk _ _ _ _ h1).1)
theorem Z5V{e:Ps Ex}(he:Dn e):Dn (itemP e):=fun ts z h=>by
 unfold itemP at h
 split at h
 · rename_i hi;injection h with h;subst h;exact ZG hi
 · obtain⟨v,h5,rfl⟩:=mpd h;exact he _ _ h5
theorem Z8c{e:Ps Ex}(he:Dn e):Dn (keyP e):=fun ts z h=>by
 obtain⟨v,h5,h6⟩:=mpd h;have h7:=he _ _ h5
 split at h6
 · rename_i hi;subst h6;exact Lt.trans (ZG hi) h7.1
 · subst h6;exact Lt.trans' (Z2o _ _ _) h7
theorem Z6I{e:Ps Ex}(he:Dn e):Dn (setP e):=fun ts z h=>by
 obtain⟨a,h1,h2⟩:=bnd h;obtain⟨l,h3,h4⟩:=bnd h2;obtain⟨v,h5,rfl⟩:=mpd h4;exact Lt.trans (he _ _ h5) ((Zk _ _ _ _ h3).1.trans (ZV _ _ h1).1)
theorem Z4F:Dn sourceP:=fun ts z h=>by
 obtain⟨a,h1,h2⟩:=bnd h;have h3:=ZV _ _ h1
 split at h2
 · rename_i hi
   obtain⟨v,h5,rfl⟩:=mpd h2;exact Lt.trans (ZV _ _ h5) ((ZG hi).1.trans h3.1)
 split at h2
 · obtain⟨v,h5,rfl⟩:=mpd h2
   exact Lt.trans (ZV _ _ h5) h3.1
 · injection h2 with h2;subst h2;exact h3
theorem Z64{e:Ps Ex}(he:Dn e):Dn (joinP e):=fun ts z h=>by
 obtain⟨a,h1,h2⟩:=bnd h;obtain⟨s,h3,h4⟩:=bnd h2;obtain⟨b,h5,h6⟩:=bnd h4;obtain⟨v,h7,rfl⟩:=mpd h6;exact Lt.trans (he _ _ h7) ((Zk _ _ _ _ h5).1.trans ((Z4F _ _ h3).1.trans (Zk _ _ _ _ h1).1))
def Stop(q:List T3):Prop:=∀k s,(k==5&&(sq s Z4W||sq s s_rp))=false->isT k s q=false
def Stab{α:Type}(q:List T3)(p p':Ps α):Prop:=∀l z,p l=some z->p' (l++q)=some (z.1,z.2++q)
section
variable{q:List T3}(hq:Stop q)
theorem ZaG{k:Int}{s:ByteArray}{l:List T3}(h:isT k s l=true):l≠[]:=by
 obtain⟨t,r,rfl,_⟩:=Z5a h;simp
include hq
section
variable{e e':Ps Ex}(he:Stab q e e')
include he
end
section
variable{e e':Ps Ex}(he:Stab q e e')(hd:Dn e)
include he
include hd
end
end
end Go.Pz
namespace Go.Pz
open Go Go.Vc
theorem Z6D{α:Type}{part:Ps α}(hp:Dn0 part): ∀(n m:Nat) (ts:List T3),ts.length<=n->ts.length<=m->listG part n ts=listG part m ts
 |0,m,ts,h,_=>by
   have:ts=[]:=List.length_eq_zero_iff.1 qM;subst this;cases m with
   |zero=>rfl
   |succ m=>rw[listG,listG,if_neg (by exact Bool.false_ne_true)]
 |n+1,0,ts,_,h=>by
   have:ts=[]:=List.length_eq_zero_iff.1 qM;subst this;rw[listG,listG,if_neg (by exact Bool.false_ne_true)]
 |n+1,m+1,ts,h,h'=>by
   rw[listG,listG]
   split
   · rename_i hi
     have h1:=(ZG hi).2;exact Zm fun y hy=>by
       have h2:=(hp _ _ hy).length_le;rw[Z6D hp n m y.2 qM qM]
   · rfl
def listC{α:Type}(part:Ps α):Ps (List α):=fun ts=>listG part ts.length ts
theorem Zgq{α:Type}{part:Ps α}{ts:List T3}(h:isT 5 ZW ts=false):listC part ts=some ([],ts):=by
 unfold listC;cases ts.length with
 |zero=>rfl
 |succ n=>rw[listG,if_neg (by rw[h];decide)]
theorem ZeT{α:Type}{part:Ps α}(hp:Dn0 part){ts:List T3}(h:isT 5 ZW ts=true):listC part ts=(part ts.tail).bind fun z=>(listC part z.2).map fun y=>(z.1::y.1,y.2):=by
 have h1:=(ZG h).2;unfold listC;rw[Z6D hp _ (ts.length+1) ts qM qM,listG,if_pos h];exact Zm fun y hy=>by
   have h2:=(hp _ _ hy).length_le;rw[Z6D hp _ y.2.length y.2 qM qM]
def listI{α:Type}(most:Nat)(part:Ps α)(xs:List α):Ps (List α):=fun us=>(listC part us).bind fun y=>if xs.length+y.1.length<=most then some (xs++y.1,y.2)else none
theorem Za7{α:Type}(most:Nat)(part:Ps α)(ts:List T3):listP most part ts=(part ts).bind fun z=>listI most part [z.1] z.2:=by
 unfold listP listI;refine Zm fun z _=>Zm fun y _=>?_;simp only[List.length_singleton,List.singleton_append];rw[Nat.add_comm]
theorem ZcT{α:Type}{most:Nat}{part:Ps α}{xs:List α}{us:List T3}(h:isT 5 ZW us=false):listI most part xs us=if xs.length<=most then some (xs,us)else none:=by
 unfold listI;rw[Zgq h]
 simp
theorem ZbO{α:Type}{most:Nat}{part:Ps α}(hp:Dn0 part){xs:List α}{us:List T3}(h:isT 5 ZW us=true):listI most part xs us=(part us.tail).bind fun z=>listI most part (xs++[z.1]) z.2:=by
 unfold listI;rw[ZeT hp h,bas];refine Zm fun z _=>?_;cases listC part z.2 with
 |none=>rfl
 |some y=>
   simp only[Option.map_some,Option.bind_some,List.length_cons,List.length_append,List.length_nil,List.append_assoc,List.singleton_append]
   congr 1
   simp only[eq_iff_iff];omega
theorem ZeE{α:Type}{most:Nat}{part:Ps α}{xs:List α}{us:List T3}(h:isT 5 ZW us=false)(hm: ¬xs.length<=most):listI most part xs us=none:=by rw[ZcT h,if_neg hm]
end Go.Pz
set_option maxRecDepth 20000
namespace Go.Proofs.YtbedigkncjbggaaGreatDoor
open Go Go.Vc Go.Pz
theorem Zf7{v:Value}(h:v.oneCell'=true):v.cells= #[v]:=by
 cases v<;>first|rfl|cases h
theorem Zat{cs:List Value}(h:cs.length=1)(ho: ∀u∈cs,u.oneCell'=true):(hdv cs).cells=cs.toArray:=by
 match cs,h with
 |[a],_=>exact Zf7 (ho a List.mem_cons_self)
theorem Z3F:exE.flat:=fun p=>rfl
theorem ZcW:itE.flat:=fun p=>rfl
theorem ZcS:kyE.flat:=fun p=>rfl
theorem Zca:coE.flat:=fun p=>rfl
theorem Z99:srE.flat:=fun p=>rfl
theorem Z6M:stE.flat:=fun p=>Zat p.h p.o
theorem Zai:rwE.flat:=fun p=>Zat p.h p.o
abbrev FC(N:Nat):GoS:=FrS N Z1l 4
abbrev FN(N:Nat):GoS:=FrS N ZJ 1
abbrev FX(N:Nat):GoS:=FrS N Z7 8
abbrev stV(st:St)(vc vn vr vi vf vw vg vo vs:Value):Value:=.agg #[.int .i64 st.kind,.string st.tb,.string st.nm,vc,vn,vr,vi,vf,vw,vg,vo,.int .i64 st.limit,vs,.bool st.hash]
def StR(N:Nat)(st:St)(v:Value)(w:World):Prop:=∃vc vn vr vi vf vw vg vo vs:Value,v=stV st vc vn vr vi vf vw vg vo vs/\SlE coE (FC N) st.cols vc w/\SlE stE (FN N) st.names vn w/\SlE rwE noS st.rows vr w/\SlE itE noS st.items vi w/\SlE srE noS st.from_ vf w/\SlE exE (FX N) st.where_ vw w/\ExsR st.group vg w/\SlE kyE noS st.order vo w/\ExsR st.sets vs w
abbrev nilv:Value:=.slice none 0 0
theorem Za{α:Type}{E:Enc α}{G:GoS}{w:World}(hG:G none 0 0 w):SlE E G [] nilv w:=⟨[],none,0,0,rfl,rfl,Nat.le_refl _,⟨rfl,fun h=>absurd rfl h⟩,(fun p hp=>by cases hp),hG⟩
theorem Z16{w:World}:ExsR [] nilv w:=⟨none,0,0,rfl,rfl,fun h=>absurd rfl h⟩
theorem Sub.st{L:List Own}{Φ:List (World->Prop)}{N:Nat}{st:St}{cs:Array Value}{vc vn vr vi vf vw vg vo vs:Value}(hc:Value.agg cs=stV st vc vn vr vi vf vw vg vo vs)
   (h: ∀X w,(∀F∈Φ,Pers X w F)->∀w',Keeps X w w'->SlE coE (FC N) st.cols vc w'/\SlE stE (FN N) st.names vn w'/\SlE rwE noS st.rows vr w'/\SlE itE noS st.items vi w'/\SlE srE noS st.from_ vf w'/\SlE exE (FX N) st.where_ vw w'/\ExsR st.group vg w'/\SlE kyE noS st.order vo w'/\ExsR st.sets vs w'):
   Sub L Φ (.is (.agg cs)) (.rep (StR N st)):=fun X v w hf e=>by
 rw[show v=_ from e,hc];intro w' hk;exact⟨vc,vn,vr,vi,vf,vw,vg,vo,vs,rfl,h X w hf.2 w' hk⟩
theorem Zf9{N:Nat}{st:St}{X:Nat->Prop}{v:Value}{w:World}(h:Pers X w (StR N st v)): ∃vc vn vr vi vf vw vg vo vs:Value,v=stV st vc vn vr vi vf vw vg vo vs/\Pers X w (SlE coE (FC N) st.cols vc)/\Pers X w (SlE stE (FN N) st.names vn)/\Pers X w (SlE rwE noS st.rows vr)/\Pers X w (SlE itE noS st.items vi)/\Pers X w (SlE srE noS st.from_ vf)/\Pers X w (SlE exE (FX N) st.where_ vw)/\Pers X w (ExsR st.group vg)/\Pers X w (SlE kyE noS st.order vo)/\Pers X w (ExsR st.sets vs):=by
 obtain⟨vc,vn,vr,vi,vf,vw,vg,vo,vs,hv,_⟩:=h.now;have key: ∀w',Keeps X w w'->SlE coE (FC N) st.cols vc w'/\SlE stE (FN N) st.names vn w'/\SlE rwE noS st.rows vr w'/\SlE itE noS st.items vi w'/\SlE srE noS st.from_ vf w'/\SlE exE (FX N) st.where_ vw w'/\ExsR st.group vg w'/\SlE kyE noS st.order vo w'/\ExsR st.sets vs w':=fun w' hk=>by
   obtain⟨vc',vn',vr',vi',vf',vw',vg',vo',vs',hv',h1⟩:=h w' hk;rw[hv]at hv';injection hv' with hv'
   injection hv' with hv'
   simp only[List.cons.injEq,and_true,true_and]at hv';obtain⟨e1,e2,e3,e4,e5,e6,e7,e8,e9⟩:=hv';subst e1 e2 e3 e4 e5 e6 e7 e8 e9;exact h1
 exact⟨vc,vn,vr,vi,vf,vw,vg,vo,vs,hv,fun w' hk=>(key w' hk).1,fun w' hk=>(key w' hk).2.1,fun w' hk=>(key w' hk).2.2.1,fun w' hk=>(key w' hk).2.2.2.1,fun w' hk=>(key w' hk).2.2.2.2.1,fun w' hk=>(key w' hk).2.2.2.2.2.1,fun w' hk=>(key w' hk).2.2.2.2.2.2.1,fun w' hk=>(key w' hk).2.2.2.2.2.2.2.1,fun w' hk=>(key w' hk).2.2.2.2.2.2.2.2⟩
section
variable{P:Program}{c:Ctx}{K:List (Nat×Ty)}{L:List Own}{Φ:List (World->Prop)}{Q:Exit->Act->World->Prop}
theorem SA.openSt{N s:Nat}{st:St}{X:Nat->Prop}{a:Act}{w:World}(h:Go.Vc.look K s=some (.rep (StR N st)))(hs:SA c K L Φ X a w): ∃vc vn vr vi vf vw vg vo vs:Value,SA c ((s,.is (stV st vc vn vr vi vf vw vg vo vs))::K) L (SlE coE (FC N) st.cols vc::SlE stE (FN N) st.names vn::SlE rwE noS st.rows vr::SlE itE noS st.items vi::SlE srE noS st.from_ vf::SlE exE (FX N) st.where_ vw::ExsR st.group vg::SlE kyE noS st.order vo::ExsR st.sets vs::Φ) X a w:=by
 obtain⟨vc,vn,vr,vi,vf,vw,vg,vo,vs,hv,h1,h2,h3,h4,h5,h6,h7,h8,h9⟩:=Zf9 (hs.k s _ h:Pers X w (StR N st (a.tmps.getD s undef)));refine⟨vc,vn,vr,vi,vf,vw,vg,vo,vs,hs.tell hv [_,_,_,_,_,_,_,_,_] fun F hF=>?_⟩;simp only[List.mem_cons,List.mem_nil_iff,or_false]at hF;rcases hF with rfl|rfl|rfl|rfl|rfl|rfl|rfl|rfl|rfl<;>assumption
theorem J.openSt{N s:Nat}{st:St}{y:Code}(h:Go.Vc.look K s=some (.rep (StR N st)))
  (hj: ∀vc vn vr vi vf vw vg vo vs:Value,J P c ((s,.is (stV st vc vn vr vi vf vw vg vo vs))::K) L (SlE coE (FC N) st.cols vc::SlE stE (FN N) st.names vn::SlE rwE noS st.rows vr::SlE itE noS st.items vi::SlE srE noS st.from_ vf::SlE exE (FX N) st.where_ vw::ExsR st.group vg::SlE kyE noS st.order vo::ExsR st.sets vs::Φ) y Q):J P c K L Φ y Q:=by
 refine⟨fun X a w hs=>?_⟩;obtain⟨vc,vn,vr,vi,vf,vw,vg,vo,vs,h1⟩:=SA.openSt h hs;exact(hj vc vn vr vi vf vw vg vo vs).out X a w h1
end
end Go.Proofs.YtbedigkncjbggaaGreatDoor
set_option maxRecDepth 20000
namespace Go.Proofs.YtbedigkncjbggaaGreatDoor
open Go Go.Vc
open Go.Pz
inductive LK|ex|it|ky|co|st|rw
namespace LK
abbrev f:LK->Nat
 | .ex=>Z85
 | .it=>Z8j
 | .ky=>Z96
 | .co=>Z7m
 | .st=>Z9u
 | .rw=>Z70
abbrev e:LK->Nat
 | .ex=>Z7
 | .it=>Z4d
 | .ky=>Z42
 | .co=>Z1l
 | .st=>ZJ
 | .rw=>Z2L
abbrev s:LK->Nat
 | .ex=>Z2L
 | .it=>Zbi
 | .ky=>Zc0
 | .co=>Zah
 | .st=>Zdg
 | .rw=>Za6
abbrev z:LK->Nat
 | .ex=>8
 | .it=>9
 | .ky=>9
 | .co=>4
 | .st=>1
 | .rw=>1
abbrev y:LK->Nat
 | .ex=>104
 | .it=>112
 | .ky=>112
 | .co=>32
 | .st=>16
 | .rw=>24
noncomputable def n:LK->Func
 | .ex=>Tryz.f118
 | .it=>Tryz.f114
 | .ky=>Tryz.f119
 | .co=>Tryz.f143
 | .st=>Tryz.f121
 | .rw=>Tryz.f110
theorem func(k:LK):Tryz.prog.funcs[k.f]? =some k.n:=by cases k;exact Tryz.func118;exact Tryz.func114;exact Tryz.func119;exact Tryz.func143;exact Tryz.func121;exact Tryz.func110
theorem ap(k:LK):ApTy Tryz.prog k.s k.e k.z k.y:=by cases k;exact Z1j;exact Z8u;exact Z9h;exact Z6R;exact Z5A;exact Z6w
theorem sl(k:LK): ∃zs,SlShape Tryz.prog k.s k.e k.z zs/\zs.length=k.z:=by cases k;exact⟨_,Zy,rfl⟩;exact⟨_,Z7Y,rfl⟩;exact⟨_,Z9m,rfl⟩;exact⟨_,Z74,rfl⟩;exact⟨_,Z25,rfl⟩;exact⟨_,Z4N,rfl⟩
theorem un(k:LK):Tryz.prog.underlying k.s=some (.slice k.e):=by cases k;exact Zs;exact Z2i;exact Z2I;exact Z2M;exact Z1K;exact Z1P
end LK
theorem ZeX(k:LK){α β S:Type}(N:Nat)(T:Tk)(hc:T.ts.length<=T.cap)(h9:T.ts.length<=2049)(b:Nat)(ts:List T3)(hts:ts<:+T.ts)(En:Enc β)(hE:En.flat)(hs:En.sz=k.z)(part:Ps α)(proj:β->α)(hpd:Dn part)(X:S->List Own)(I:S->List β->Prop)(s0:S)(hI0:I s0 [])(hXb: ∀s,∀o∈X s0,∃o'∈X s,o'.b=o.b)(hXo: ∀s,(X s).all (fun o=>o.T.out)=true)(most:Nat)(fp:FuncId)(cp:List Value)(hpart: ∀us s l,us<:+T.ts->l.length+us.length<=ts.length->I s l->CallP Tryz.prog fp (PB T b us::X s) [T.G,AF,NH N] ([.is (.pointer (some ⟨b,0,none⟩))]++cp.map Ty.is) (part us=none) flt (fun z:β×List T3×S=>part us=some (proj z.1,z.2.1)/\I z.2.2 (l++[z.1])) (fun z=>PB T b z.2.1::X z.2.2) (fun z=>.rep (En.T z.1))):CallP Tryz.prog k.f (PB T b ts::X s0) [T.G,AF,NH N] [.is (.pointer (some ⟨b,0,none⟩)),.is (.int .i64 (most:Int)),.is (.func (.func fp) #[] cp.toArray)] (listP most part ts=none) flt (fun z:List β×List T3×S=>listP most part ts=some (z.1.map proj,z.2.1)/\I z.2.2 z.1) (fun z=>PB T b z.2.1::X z.2.2) (fun z=>.rep (SlE En (FrS N k.e En.sz) z.1)):=by
 have hsl:=k.sl;have hap:=k.ap;have hun:=k.un;obtain⟨zs,hsl,hzl⟩:=hsl
 let e:=k.e
 cases k
 all_goals
   refine CallP.ofN (N:=N) (List.mem_cons_of_mem _ (List.mem_cons_of_mem _ List.mem_cons_self)) (fn:=LK.n _) (LK.func _) (n:=27) rfl rfl rfl (fun _ _=>by kernel_rfl) fun E W hNW hb0=>?_;refine vQ ?_;refine Ja rfl (vP [0,1,2] ?_);refine Jm rfl (Jm rfl ?_);refine JO.callPvK (cp:=cp) (Lr:=[]) rfl (hpart ts s0 [] hts (by simp) hI0) rfl (.of_eq (List.append_nil _).symm) qF (.one rfl .nil) (fun hbad=>?_) ?_
   · exact JX.pnI (by rw[Za7,hbad];rfl)
   rintro⟨x1,us1,s1⟩ ⟨hz1,hI1⟩;refine vD ?_
   try simp only[List.append_nil]
   refine JO.openT (s:=10) rfl (fun p1 hp1=>?_);refine JO.buildE hE (by rw[hs];exact hsl) (by rw[hs];exact hzl) (by rw[hs];decide) rfl rfl (fun b11=>?_);refine Ja rfl (vS [0,1,2,7] ?_);apply yk
   repeat apply yQ
   refine J.loopH (α:=List (Cel En)×Option (Nat×List Value)×Nat×List T3×S) (fun x=>[(0,.is (.pointer (some ⟨b,0,none⟩))),(1,.is (.int .i64 (most:Int))),(2,.is (.func (.func fp) #[] cp.toArray)),(7,.is (sliceO x.2.1 x.1.length x.2.2.1))]) (fun x=>ownO x.2.1 e (PB T b x.2.2.2.1::X x.2.2.2.2)) (fun x=>CelF En x.1) (fun x=>x.2.2.2.1<:+T.ts/\x.1.length+x.2.2.2.1.length<=ts.length/\Grows Cel.cs En.sz x.1 x.2.1 x.2.2.1/\I x.2.2.2.2 (x.1.map Cel.x)/\listP most part ts=listI most part ((x.1.map Cel.x).map proj) x.2.2.2.1) (fun x=>x.2.2.2.1.length) ([p1],some (b11,p1.cs),1,us1,s1) [0,1,2,7] (.cons rfl (.cons rfl (.cons rfl (.cons rfl .nil)))) rfl (fun X w hF=>fun w' hk p hp=>by rw[List.mem_singleton.1 hp];exact hF _ List.mem_cons_self w' hk) ⟨(show us1<:+ts from(hpd _ _ hz1).1).trans hts,(show 1+us1.length<=ts.length by have:us1.length<ts.length:=(hpd _ _ hz1).2;omega),growE p1,(by rw[List.map_singleton,hp1];exact hI1),(by rw[Za7,hz1,List.map_singleton,hp1];rfl)⟩ fun⟨ps,st,cap,us,s⟩ ⟨hus,hlen,hG,hIs,hP⟩=>?_;try dsimp only
   try dsimp only at hus
   try dsimp only at hlen
   try dsimp only at hG
   try dsimp only at hIs
   try dsimp only at hP
   refine vQ ?_;refine Jm rfl (JO.subL (L':=PB T b us::ownO st e (X s)) ZaJ.symm (JO.callK (Lr:=ownO st e (X s)) (ZE T hc b us hus ZW) rfl (.refl _) qF qA ?_));intro _ _;refine vD ?_;refine JO.subL (L':=ownO st e (PB T b (skT 5 ZW us)::X s)) ZaJ (vS [0,1,2,7,13] ?_);refine yC rfl (fun ht13=>?_) (fun ht13=>?_);apply yK;refine vN ?_;apply yk;have hcm:isT 5 ZW us=true:=ht13;rw[Z1z hcm];refine vQ ?_;refine Jm rfl (Jm rfl (Jm rfl (JO.subL (L':=(PB T b us.tail::X s)++ownO st e []) Z4o.symm ?_)));refine JO.callPvK (cp:=cp) (Lr:=ownO st e []) rfl (hpart us.tail s (ps.map Cel.x) (ZH hus) (by have:=(ZG hcm).2;rw[List.length_map];omega) hIs) rfl (.refl _) qF (.one rfl .nil) (fun hbad=>?_) ?_
   · exact JX.pnI (by rw[hP,ZbO hpd.le hcm,hbad];rfl)
   rintro⟨x2,us2,s2⟩ ⟨hz2,hI2⟩;refine vD ?_;refine JO.subL (L':=ownO st e (PB T b us2::X s2)) Z4o ?_;refine JO.openT (s:=17) rfl (fun p2 hp2=>?_);have hd2:=(hpd _ _ hz2).2;have hlt:=(ZG hcm).2;have hle9:=hts.length_le;refine Jq (Z1V hE (by rw[hs];exact hsl) (by rw[hs];exact hzl) (by rw[hs];decide) rfl) ?_;refine JO.apO (ys:=[p2]) (by rw[hs];exact hap) Cel.hlen .here hG rfl rfl (srcE p2 hun) (by simp) (by show(ps.length+1)*_<=140737488355328;exact Nat.le_trans (Nat.mul_le_mul_right _ (show ps.length+1<=4096 by omega)) qD) (by show ps.length+1<=9223372036854775807;omega) rfl (fun st2 cap2 hG2=>?_);refine Ja rfl ?_;apply yI
   repeat refine JX.normal_block ?_
   refine JX.roundG (x:=(ps,st,cap,us,s)) (ps++[p2],st2,cap2,us2,s2) ?_ ?_ [0,1,2,7] ?_ ?_ ?_ ?_
   · exact⟨(show us2<:+us.tail from(hpd _ _ hz2).1).trans (ZH hus),(by show(ps++[p2]).length+us2.length<=ts.length;rw[List.length_append];show ps.length+1+us2.length<=ts.length;have:us2.length<us.tail.length:=hd2;omega),hG2,(by rw[List.map_append,List.map_singleton,hp2];exact hI2),(by rw[hP,ZbO hpd.le hcm,hz2,List.map_append,List.map_singleton,hp2,List.map_append];rfl)⟩
   · exact(by show us2.length<us.length;have:us2.length<us.tail.length:=hd2;omega)
   · exact qS
   · exact qH
   · exact qG
   · exact fun X w hF=>fun w' hk=>CelF.snoc (hF _ qI w' hk) (hF _ List.mem_cons_self w' hk)
   repeat apply yQ
   refine J.exit ?_
   repeat first|refine yH ?_|refine yM rfl ?_|refine yE ?_
   repeat first|apply yX|apply yB
   have hcm:isT 5 ZW us=false:=ht13;rw[Z21 hcm];rw[hG.sl.1];refine vQ ?_;refine Jm rfl (Jm rfl (Jq (ZD hun rfl) (Jm rfl (Jq (Z4s rfl rfl) ?_))));refine JO.callPK (Lr:=_) (Zt (.pointer (some ⟨b,0,none⟩)) (decide ((ps.length:Int)<=(most:Int)))) rfl (Z2a _) Z1Z qA (fun hbad=>?_) ?_
   · exact JX.pnI (by rw[hP];exact ZeE hcm (by rw[List.length_map,List.length_map];have:=of_decide_eq_false hbad;omega))
   intro _ hmo;refine vD ?_;refine vS [7] ?_;refine J.freezeOMW (e:=e) (sz:=En.sz) hNW Cel.hlen hG .here (fun q hq=>?_) rfl (by rw[List.all_cons,hXo];rfl) ?_
   · rw[List.map_cons]at hq
     rcases List.mem_cons.1 hq with rfl|hq
     · exact⟨_,List.mem_cons_self,rfl⟩
     · obtain⟨o,ho,e⟩:=List.mem_map.1 hq
       obtain⟨o2,ho2,e2⟩:=hXb s o ho;exact⟨o2,List.mem_cons_of_mem _ ho2,e2.trans e⟩
   refine vQ ?_;refine Jm rfl (Ja rfl (vS [6] ?_));refine vR ?_;refine JX.toP ?_;exact JX.retL1 (Lr:=[]) rfl (ps.map Cel.x,us,s) ⟨by rw[hP,ZcT hcm,if_pos (by rw[List.length_map,List.length_map];have:=of_decide_eq_true hmo;omega)],hIs⟩ (.of_eq (List.append_nil _).symm) (by rw[List.all_cons,hXo];rfl) rfl hb0 rfl (Sub.slE hG.sl.2 qI qI (fun X w hf=>hf _ qI))
theorem Z8n(k:LK){α:Type}(N:Nat)(T:Tk)(hc:T.ts.length<=T.cap)(h9:T.ts.length<=2049)(b:Nat)(ts:List T3)(hts:ts<:+T.ts)(En:Enc α)(hE:En.flat)(hs:En.sz=k.z)(part:Ps α)(hpd:Dn part)(most:Nat)(fp:FuncId)(hpart: ∀us,us<:+T.ts->us.length<=ts.length->CallP Tryz.prog fp [PB T b us] [T.G,AF,NH N] [.is (.pointer (some ⟨b,0,none⟩))] (part us=none) flt (fun z:α×List T3=>part us=some z) (fun z=>[PB T b z.2]) (fun z=>.rep (En.T z.1))):
  CallP Tryz.prog k.f [PB T b ts] [T.G,AF,NH N] [.is (.pointer (some ⟨b,0,none⟩)),.is (.int .i64 (most:Int)),.is (fv fp)] (listP most part ts=none) flt (fun z:List α×List T3=>listP most part ts=some z) (fun z=>[PB T b z.2]) (fun z=>.rep (SlE En (FrS N k.e En.sz) z.1)):=
 (ZeX k (S:=Unit) N T hc h9 b ts hts En hE hs part id hpd (fun _=>[]) (fun _ _=>True) () trivial (fun _ _ h=>by cases h) (fun _=>rfl) most fp [] fun us s l hus hu _=>(hpart us hus qM).map id (fun z=>(z.1,z.2,())) (fun z hz=>⟨hz,trivial⟩) (fun z _=>rfl) (fun z _=>rfl)).map id (fun z=>(z.1,z.2.1)) (fun z hz=>by have:=hz.1;rwa [List.map_id]at this) (fun _ _=>rfl) (fun _ _=>rfl)
inductive WK|ex|co|st
namespace WK
abbrev k:WK->LK
 | .ex=>.ex
 | .co=>.co
 | .st=>.st
abbrev f:WK->Nat
 | .ex=>Z7f
 | .co=>Z6E
 | .st=>Z8l
noncomputable def n:WK->Func
 | .ex=>Tryz.f112
 | .co=>Tryz.f106
 | .st=>Tryz.f109
theorem func(k:WK):Tryz.prog.funcs[k.f]? =some k.n:=by cases k;exact Tryz.func112;exact Tryz.func106;exact Tryz.func109
end WK
theorem Zaq(k:WK){α:Type}(N:Nat)(T:Tk)(hc:T.ts.length<=T.cap)(h9:T.ts.length<=2049)(b:Nat)(ts:List T3)(hts:ts<:+T.ts)(En:Enc α)(hE:En.flat)(hs:En.sz=k.k.z)(part:Ps α)(hpd:Dn part)(fp:FuncId)(hpart: ∀us,us<:+T.ts->us.length<=ts.length->CallP Tryz.prog fp [PB T b us] [T.G,AF,NH N] [.is (.pointer (some ⟨b,0,none⟩))] (part us=none) flt (fun z:α×List T3=>part us=some z) (fun z=>[PB T b z.2]) (fun z=>.rep (En.T z.1))):CallP Tryz.prog k.f [PB T b ts] [T.G,AF,NH N] [.is (.pointer (some ⟨b,0,none⟩)),.is (fv fp)] (withinP part ts=none) flt (fun z:List α×List T3=>withinP part ts=some z) (fun z=>[PB T b z.2]) (fun z=>.rep (SlE En (FrS N k.k.e En.sz) z.1)):=by
 let e:=k.k.e
 have hl:=@Z8n k.k α N T hc h9 b;cases k
 all_goals
  refine CallP.of (fn:=WK.n _) (WK.func _) (n:=18) rfl rfl rfl (fun _ _=>by kernel_rfl) fun E W hb0=>?_;refine vQ ?_;refine Ja rfl (vP [0,1] ?_);refine Jm rfl (Jm rfl (JO.callK (Lr:=[]) (ZE T hc b ts hts s_lp) rfl (.refl _) qF qA ?_));intro _ _;refine vD ?_;refine JO.callPK (Lr:=_) (Zt (.pointer (some ⟨b,0,none⟩)) (isT 5 s_lp ts)) rfl (Z2a _) Z1Z qA (fun hbad=>?_) ?_
  · exact JX.pnI (by unfold withinP;rw[wantN hbad];rfl)
  intro _ hlp;refine vD ?_;refine vS [0,1] ?_;rw[Z1z hlp];refine vQ ?_;refine Jm rfl (Jm rfl ?_);refine JO.callPK (Lr:=[]) (hl ts.tail (ZH hts) En hE hs part hpd 16 fp (fun us hus hu=>hpart us hus (by have:=(ZG hlp).2;omega))) rfl (.refl _) qF qA (fun hbad=>?_) ?_
  · exact JX.pnI (by unfold withinP;rw[wantY hlp];simp only[Option.bind_some];rw[hbad];rfl)
  intro z hz;have hzs:z.2<:+T.ts:=(Z3g hpd.le 16 _ _ hz).trans (ZH hts);refine vD ?_;refine Ja rfl (vP [0,5] ?_);refine Jm rfl (Jm rfl (JO.callK (Lr:=[]) (ZE T hc b z.2 hzs s_rp) rfl (.refl _) qF qA ?_));intro _ _;refine vD ?_;refine JO.callPK (Lr:=_) (Zt (.pointer (some ⟨b,0,none⟩)) (isT 5 s_rp z.2)) rfl (Z2a _) Z1Z qA (fun hbad=>?_) ?_
  · exact JX.pnI (by unfold withinP;rw[wantY hlp];simp only[Option.bind_some];rw[hz];simp only[Option.bind_some];rw[wantN hbad];rfl)
  intro _ hrp;refine vD ?_;refine vS [5] ?_;rw[Z1z hrp];refine vQ ?_;refine Jm rfl (Ja rfl (vS [4] ?_));refine vR ?_;refine JX.toP ?_;exact JX.retL1 (Lr:=[]) rfl (z.1,z.2.tail) (by unfold withinP;rw[wantY hlp];simp only[Option.bind_some];rw[hz];simp only[Option.bind_some];rw[wantY hrp];rfl) (.refl _) rfl rfl hb0 rfl (Sub.refl _)
abbrev tyO:List (ByteArray×Int):=[(Z7q,1),(Z6K,2),(Z7X,3)]
abbrev tyVs:List Value:=[.string Z7q,.string Z6K,.string Z7X]
theorem ZiG{i:Nat}(h:i<3):tyVs[0+((i:Nat):Int).toNat*1]? =some (.string (tyO.getD i (em,0)).1):=by
 match i,h with
 |0,_=>rfl
 |1,_=>rfl
 |2,_=>rfl
theorem ty_k{i:Nat}(h:i<3):((i:Nat):Int)+1=(tyO.getD i (em,0)).2:=by
 match i,h with
 |0,_=>rfl
 |1,_=>rfl
 |2,_=>rfl
theorem Zdm(us:List T3):typeP us=(opOf 1 tyO us).map fun t=>(t,us.tail):=by
 unfold typeP;simp only[Go.Pz.opOf]
 split
 · rfl
 split
 · rfl
 split
 · rfl
 · rfl
def coI(us1:List T3)(i:Nat)(ty:Int)(us:List T3):Prop:=(ty=0->us=us1/\opOf 1 (tyO.drop i) us1=opOf 1 tyO us1)/\(ty≠0->0<ty/\typeP us1=some (ty,us))
theorem ZhD{us1:List T3}{i:Nat}{us:List T3}(h:coI us1 i 0 us)(hi:i<3)(ht:isT 1 (tyO.getD i (em,0)).1 us=true):coI us1 (i+1) (((i:Nat):Int)+1) us.tail:=by
 obtain⟨rfl,h2⟩:=h.1 rfl;rw[Z5o (ops:=tyO) (by show i<3;omega),if_pos ht]at h2;refine⟨fun e=>by omega,fun _=>⟨by omega,?_⟩⟩;rw[Zdm,<-h2,ty_k hi];rfl
theorem Zis{us1:List T3}{i:Nat}{us:List T3}(h:coI us1 i 0 us)(hi:i<3)(ht:isT 1 (tyO.getD i (em,0)).1 us=false):coI us1 (i+1) 0 us:=by
 obtain⟨rfl,h2⟩:=h.1 rfl;rw[Z5o (ops:=tyO) (by show i<3;omega),if_neg (by rw[ht];decide)]at h2;exact⟨fun _=>⟨rfl,h2⟩,fun e=>absurd rfl e⟩
theorem Zi8{us1:List T3}{i:Nat}{ty:Int}{us:List T3}(h:coI us1 i ty us)(hn:ty≠0):coI us1 (i+1) ty us:=⟨fun e=>absurd e hn,h.2⟩
theorem ZdV{us1:List T3}{i:Nat}{ty:Int}{us:List T3}(h:coI us1 i ty us)(hi:3<=i):(¬0<ty->typeP us1=none)/\(0<ty->typeP us1=some (ty,us)):=by
 refine⟨fun hn=>?_,fun hp=>(h.2 qM).2⟩
 by_cases e:ty=0
 · have:=(h.1 e).2
   rw[List.drop_eq_nil_of_le (by exact hi)]at this;rw[Zdm,<-this];rfl
 · exact absurd (h.2 e).1 hn
theorem Sub.coT{L:List Own}{Φ:List (World->Prop)}{nm:ByteArray}{ty:Int}{nn un:Bool}:Sub L Φ (.is (.agg #[.string nm,.int .i64 ty,.bool nn,.bool un])) (.rep (coE.T ⟨nm,ty,nn,un⟩)):=fun X v w hf e=>by
 rw[show v=_ from e];exact fun w' _=>⟨Col.cells ⟨nm,ty,nn,un⟩,rfl,rfl⟩
theorem Sub.itAll{L:List Own}{Φ:List (World->Prop)}:Sub L Φ (.is (.agg #[.bool true,.int .i64 0,.int .i64 0,.int .i64 0,.string em,.string em,.string em,.int .i64 0,.slice none 0 0])) (.rep (itE.T ⟨true,ex0⟩)):=fun X v w hf e=>by
 rw[show v=_ from e];exact fun w' _=>⟨_,rfl,exCells 0 0 0 em em em 0 none 0 0,rfl,ZcB⟩
theorem Sub.itEx{L:List Own}{Φ:List (World->Prop)}{x:Ex}{es:List Value}{cs:Array Value}(hF:ExR x (.agg es.toArray)∈Φ)(hc:cs=(Value.bool false::es).toArray):Sub L Φ (.is (.agg cs)) (.rep (itE.T ⟨false,x⟩)):=fun X v w hf e=>by
 rw[show v=_ from e,hc];exact fun w' hk=>⟨_,rfl,es,rfl,hf.2 _ hF w' hk⟩
theorem Sub.kyEx{L:List Own}{Φ:List (World->Prop)}{x:Ex}{d:Bool}{es:List Value}{cs:Array Value}(hF:ExR x (.agg es.toArray)∈Φ)(hc:cs=(es++[Value.bool d]).toArray):Sub L Φ (.is (.agg cs)) (.rep (kyE.T ⟨x,d⟩)):=fun X v w hf e=>by
 rw[show v=_ from e,hc];exact fun w' hk=>⟨_,rfl,es,rfl,hf.2 _ hF w' hk⟩
theorem Z7b(N:Nat)(T:Tk)(hc:T.ts.length<=T.cap)(h9:T.ts.length<=2049)(b:Nat)(ts:List T3)(hts:ts<:+T.ts):CallP Tryz.prog Z4K [PB T b ts] [T.G,AF,NH N] [.is (.pointer (some ⟨b,0,none⟩))] (colP ts=none) flt (fun z:Pz.Col×List T3=>colP ts=some z) (fun z=>[PB T b z.2]) (fun z=>.rep (coE.T z.1)):=
CallP.of (fn:=Tryz.f107) Tryz.func107 (n:=49) rfl rfl rfl (fun _ _=>by kernel_rfl) fun E W hb0=>by
 refine vQ ?_;refine JO.alloc Z50 rfl fun b2=>(vP [0,2] ?_);refine Jm rfl ?_;refine JO.callPK (Lr:=[_]) (ZS T hc b ts hts) rfl (List.perm_append_comm (l₁:=[_]) (l₂:=[_])) qF qA (fun hbad=>?_) ?_
 · exact JX.pnI (by unfold colP;rw[hbad];rfl)
 intro z1 hz1;refine vD ?_;refine Jq (Zd (cs:=[_,_,_,_]) Z9i (.cons rfl .nil) rfl rfl) (JO.alloc Z50 rfl fun b3=>(JO.m (Z2 rfl rfl qU qC qO Z33) (by rfl) ?_));refine vP [0,2,3] ?_;refine Jq (ZI (cs:=[_,_,_]) Z25 qM qM (.cons rfl (.cons rfl (.cons rfl .nil))) rfl rfl rfl) ?_;refine JO.openNew (s:=9) rfl (fun r9=>?_);refine Jq (ZD Z1K rfl) (Jm rfl (vS [0,2,3,9,10,11] ?_));apply yk
 repeat apply yQ
 refine J.loopG (α:=Nat×Int×List T3) (fun x=>[(0,.is (.pointer (some ⟨b,0,none⟩))),(2,.is (.pointer (some ⟨b2,0,none⟩))),(3,.is (.pointer (some ⟨b3,0,none⟩))),(9,.is (.slice (some ⟨r9,0,none⟩) 3 3)),(10,.is (.int .i64 3)),(11,.is (.int .i64 (x.1:Int)))]) (fun x=>[⟨b3,Z1l,.is (.agg #[.string z1.1,.int .i64 x.2.1,.bool false,.bool false])⟩,PB T b x.2.2,⟨b2,Z1l,.is (.agg #[.string ⟨#[]⟩,.int .i64 0,.bool false,.bool false])⟩]) (fun x=>fun _=>True) (fun x=>x.1<=3/\x.2.2<:+T.ts/\coI z1.2 x.1 x.2.1 x.2.2) (fun x=>3-x.1) (0,0,z1.2) [0,2,3,9,10,11] (.cons rfl (.cons rfl (.cons rfl (.cons rfl (.cons rfl (.cons rfl .nil)))))) rfl (fun _=>trivial) ⟨Nat.zero_le _,(show z1.2<:+T.ts from(ZV _ _ hz1).1.trans hts),⟨fun _=>⟨rfl,rfl⟩,fun h=>absurd rfl h⟩⟩ fun⟨i,ty,us⟩ ⟨hi,hus,hI⟩=>?_;try dsimp only
 try dsimp only at hi
 try dsimp only at hus
 try dsimp only at hI
 refine vQ ?_;refine Jq (Z10 rfl rfl) (vS [0,2,3,9,10,11,12] ?_);refine yC rfl (fun ht12=>?_) (fun ht12=>?_)
 try simp only[yd,yf]at ht12
 apply yK;refine vN ?_;apply yk;refine vQ ?_;refine Jm rfl (Jq (Zi Z3m rfl rfl rfl qM qM) ?_);refine Jq (Z83 (cs:=tyVs) (u:=.string (tyO.getD i (em,0)).1) Zr rfl qI (ZiG qM)) ?_;refine Ja rfl (Ja rfl (vS [0,2,3,4,5,9,10,11] ?_))
 by_cases hty0:ty=0
 refine vQ ?_;refine Jq (Z0 Z2F rfl) (Jq (Z5 Zx rfl rfl) (Jq (Ob.bc (ZP rfl rfl) (cc:=true) (by rw[hty0];rfl)) ?_));refine Jm rfl (JO.gd rfl rfl rfl (Jm rfl (JO.gd rfl rfl rfl (Jm rfl (JO.gd rfl rfl rfl (JO.callK (Lr:=[_,_]) (Zu T hc b (us) ((show us<:+T.ts from hus)) (tyO.getD i (em,0)).1) rfl (.swap _ _ _) qF qA ?_))))));intro _ _;refine vD ?_;refine Jq (Zcu rfl rfl) (vS [0,2,3,4,9,10,11,23] ?_);refine yC rfl (fun ht23=>?_) (fun ht23=>?_);have hI0:coI z1.2 i 0 us:=hty0 ▸ hI;rw[Z1z ht23];refine vQ ?_;refine Jm rfl (Jq (Zv (cc:=((i:Nat):Int)+1) rfl rfl rfl qM qM) ?_);refine Jq (Z0 Z2F rfl) (JO.m (Z9 (cs':=[_,_,_,_]) rfl rfl qU rfl rfl rfl rfl Z29) (by rfl) ?_);refine vS [0,2,3,9,10,11] ?_
 first|(have hnt5:isT 1 (tyO.getD i (em,0)).1 us=false:=ht23;have hI0:coI z1.2 i 0 us:=hty0 ▸ hI;rw[Z21 hnt5])|skip
 refine vQ ?_;refine Jq (Zv (cc:=((i+1:Nat):Int)) rfl rfl qM qM qM) ?_;refine Jm rfl ?_;apply yI
 repeat refine JX.normal_block ?_
 refine JX.roundG (x:=(i,ty,us)) (i+1,((i:Nat):Int)+1,us.tail) ?_ ?_ [0,2,3,9,10,11] ?_ ?_ ?_ ?_
 · exact⟨by show i+1<=3;omega,ZH hus,ZhD hI0 qM ht23⟩
 · exact(by show 3-(i+1)<3-i;omega)
 · exact qS
 · exact qH
 · exact qG
 · exact fun _ _ _=>fun _ _=>trivial
 apply yK
 repeat first|apply yX|apply yB
 first|(have hnt5:isT 1 (tyO.getD i (em,0)).1 us=false:=ht23;have hI0:coI z1.2 i 0 us:=hty0 ▸ hI;rw[Z21 hnt5])|skip
 refine vQ ?_;refine Jq (Zv (cc:=((i+1:Nat):Int)) rfl rfl qM qM qM) ?_;refine Jm rfl ?_;apply yI
 repeat refine JX.normal_block ?_
 refine JX.roundG (x:=(i,ty,us)) (i+1,ty,us) ?_ ?_ [0,2,3,9,10,11] ?_ ?_ ?_ ?_
 · exact⟨by show i+1<=3;omega,hus,(by show coI z1.2 (i+1) ty us;rw[hty0];exact Zis hI0 qM hnt5)⟩
 · exact(by show 3-(i+1)<3-i;omega)
 · exact qS
 · exact qH
 · exact qG
 · exact fun _ _ _=>fun _ _=>trivial
 refine vQ ?_;refine Jq (Z0 Z2F rfl) (Jq (Z5 Zx rfl rfl) (Jq (Ob.bc (ZP rfl rfl) (cc:=false) (by simpa using hty0)) ?_));refine Jm rfl (JO.gn rfl rfl rfl rfl rfl (JO.gn rfl rfl rfl rfl rfl (JO.gn rfl rfl rfl rfl rfl (Jq (Zda rfl rfl) (vS [0,2,3,4,9,10,11,23] ?_)))));refine yC rfl (fun ht23=>?_) (fun ht23=>?_)
 exfalso
 cases ht23
 try simp only[yd,yf]at ht23
 apply yK
 repeat first|apply yX|apply yB
 first|(have hnt5:isT 1 (tyO.getD i (em,0)).1 us=false:=ht23;have hI0:coI z1.2 i 0 us:=hty0 ▸ hI;rw[Z21 hnt5])|skip
 refine vQ ?_;refine Jq (Zv (cc:=((i+1:Nat):Int)) rfl rfl qM qM qM) ?_;refine Jm rfl ?_;apply yI
 repeat refine JX.normal_block ?_
 refine JX.roundG (x:=(i,ty,us)) (i+1,ty,us) ?_ ?_ [0,2,3,9,10,11] ?_ ?_ ?_ ?_
 · exact⟨by show i+1<=3;omega,hus,Zi8 hI hty0⟩
 · exact(by show 3-(i+1)<3-i;omega)
 · exact qS
 · exact qH
 · exact qG
 · exact fun _ _ _=>fun _ _=>trivial
 try simp only[yd,yf]at ht12
 repeat apply yQ
 refine J.exit ?_
 repeat first|refine yH ?_|refine yM rfl ?_|refine yE ?_
 refine vN ?_;apply yN;refine Jm rfl (Jq (Z0 Z2F rfl) (Jq (Z5 Zx rfl rfl) (Jq (Z1r rfl rfl) ?_)));refine JO.callPK (Lr:=_) (Zt (.pointer (some ⟨b,0,none⟩)) (decide (0<ty))) rfl (Z2a _) Z1Z qA (fun hbad=>?_) ?_
 · exact JX.pnI (by unfold colP;rw[hz1];simp only[Option.bind_some];rw[(ZdV hI qM).1 (of_decide_eq_false hbad)];rfl)
 intro _ hmo;refine vD ?_;have hty:=(ZdV hI qM).2 (of_decide_eq_true hmo);refine vP [0,2,3] ?_;refine Jm rfl (JO.callK (Lr:=[_,_]) (Zu T hc b (us) ((show us<:+T.ts from hus)) Z1d) rfl (.swap _ _ _) qF qA ?_);intro _ _;refine vD ?_;refine vS [0,2,3,34] ?_;refine yC rfl (fun ht34=>?_) (fun ht34=>?_);have hnt:isT 1 Z1d us=true:=ht34;rw[Z1z hnt];refine vQ ?_;refine Jm rfl ?_;refine JO.callPK (Lr:=[_,_]) (ZA T hc b (us.tail) (ZH hus) Z1M (by decide+kernel) (by decide+kernel) (asc (by decide+kernel))) rfl (.refl _) qF qA (fun hbad=>?_) ?_
 · exact JX.pnI (by unfold colP;rw[hz1];simp only[Option.bind_some];rw[hty];simp only[Option.bind_some];rw[if_pos hnt];rw[hbad];rfl)
 intro z2 hz2;refine vD ?_;refine vP [0,2,3] ?_;refine Jq (Z0 Z3D rfl) (JO.m (Z9 (cs':=[_,_,_,_]) rfl rfl qU rfl rfl rfl rfl Z1A) (by rfl) ?_);refine vS [0,2,3] ?_
 first|(have hnt:isT 1 Z1d us=false:=ht34;rw[Z21 hnt];have husx:us<:+T.ts:=hus)|(have husx:z2.2<:+T.ts:=(Zk _ _ _ _ hz2).1.trans (ZH hus))
 refine vQ ?_;refine Jm rfl (JO.callK (Lr:=[_,_]) (Zu T hc b _ husx Z3f) rfl (.refl _) qF qA ?_);intro _ _;refine vD ?_;refine vS [0,2,3,39] ?_;refine yC rfl (fun ht39=>?_) (fun ht39=>?_);have hpr:isT 1 Z3f _=true:=ht39;rw[Z1z hpr];refine vQ ?_;refine Jm rfl ?_;refine JO.callPK (Lr:=[_,_]) (ZA T hc b _ (ZH husx) Zax (by decide+kernel) (by decide+kernel) (asc (by decide+kernel))) rfl (.refl _) qF qA (fun hbad=>?_) ?_
 · exact JX.pnI (by first|(unfold colP;rw[hz1];simp only[Option.bind_some];rw[hty];simp only[Option.bind_some];rw[if_pos hnt];rw[hz2];simp only[Option.bind_some];unfold colEnd;rw[if_pos hpr,hbad];rfl)|(unfold colP;rw[hz1];simp only[Option.bind_some];rw[hty];simp only[Option.bind_some];rw[if_neg (by rw[hnt];decide)];unfold colEnd;rw[if_pos hpr,hbad];rfl))
 intro z3 hz3;refine vD ?_;refine vP [2,3] ?_;refine Jq (Z0 Z3D rfl) (JO.m (Z9 (cs':=[_,_,_,_]) rfl rfl qU rfl rfl rfl rfl Z1A) (by rfl) ?_);refine Jq (Z0 Z2U rfl) (JO.m (Z9 (cs':=[_,_,_,_]) rfl rfl qU rfl rfl rfl rfl Z1A) (by rfl) ?_);refine vP [2,3] ?_;refine Jq (ZU (cs:=[_,_,_,_]) Z1Q rfl rfl rfl) (JO.m (Z2 rfl rfl qU qC qO Z33) (by rfl) ?_);refine vS [2] ?_;refine vR ?_;refine JX.toP ?_;exact JX.retLCs (Lr:=[_,_]) rfl (⟨z1.1,ty,true,true⟩,z3.2) (by unfold colP;rw[hz1];simp only[Option.bind_some];rw[hty];simp only[Option.bind_some];rw[if_pos hnt];rw[hz2];simp only[Option.bind_some];unfold colEnd;rw[if_pos hpr,hz3];rfl) (.refl _) rfl rfl hb0 rfl Z1Q HasOwn.mem (ZQ rfl) Sub.coT;apply yK
 repeat first|apply yX|apply yB
 have hpr:isT 1 Z3f _=false:=ht39;rw[Z21 hpr];refine vQ ?_;refine Jm rfl (JO.callK (Lr:=[_,_]) (Zu T hc b _ husx Z3l) rfl (.refl _) qF qA ?_);intro _ _;refine vD ?_;refine Jq (Z0 Z2U rfl) (JO.m (Z9 (cs':=[_,_,_,_]) rfl rfl qU rfl rfl rfl rfl Z1A) (by rfl) ?_);refine vP [2,3] ?_;refine Jq (ZU (cs:=[_,_,_,_]) Z1Q rfl rfl rfl) (JO.m (Z2 rfl rfl qU qC qO Z33) (by rfl) ?_);refine vS [2] ?_;refine vR ?_;refine JX.toP ?_;exact JX.retLCs (Lr:=[_,_]) rfl (⟨z1.1,ty,true,isT 1 Z3l z2.2⟩,skT 1 Z3l z2.2) (by unfold colP;rw[hz1];simp only[Option.bind_some];rw[hty];simp only[Option.bind_some];rw[if_pos hnt];rw[hz2];simp only[Option.bind_some];unfold colEnd;rw[if_neg (by rw[hpr];decide)]) (.refl _) rfl rfl hb0 rfl Z1Q HasOwn.mem (ZQ rfl) Sub.coT;apply yK
 repeat first|apply yX|apply yB
 first|(have hnt:isT 1 Z1d us=false:=ht34;rw[Z21 hnt];have husx:us<:+T.ts:=hus)|(have husx:z2.2<:+T.ts:=(Zk _ _ _ _ hz2).1.trans (ZH hus))
 refine vQ ?_;refine Jm rfl (JO.callK (Lr:=[_,_]) (Zu T hc b _ husx Z3f) rfl (.refl _) qF qA ?_);intro _ _;refine vD ?_;refine vS [0,2,3,39] ?_;refine yC rfl (fun ht39=>?_) (fun ht39=>?_);have hpr:isT 1 Z3f _=true:=ht39;rw[Z1z hpr];refine vQ ?_;refine Jm rfl ?_;refine JO.callPK (Lr:=[_,_]) (ZA T hc b _ (ZH husx) Zax (by decide+kernel) (by decide+kernel) (asc (by decide+kernel))) rfl (.refl _) qF qA (fun hbad=>?_) ?_
 · exact JX.pnI (by first|(unfold colP;rw[hz1];simp only[Option.bind_some];rw[hty];simp only[Option.bind_some];rw[if_pos hnt];rw[hz2];simp only[Option.bind_some];unfold colEnd;rw[if_pos hpr,hbad];rfl)|(unfold colP;rw[hz1];simp only[Option.bind_some];rw[hty];simp only[Option.bind_some];rw[if_neg (by rw[hnt];decide)];unfold colEnd;rw[if_pos hpr,hbad];rfl))
 intro z3 hz3;refine vD ?_;refine vP [2,3] ?_;refine Jq (Z0 Z3D rfl) (JO.m (Z9 (cs':=[_,_,_,_]) rfl rfl qU rfl rfl rfl rfl Z1A) (by rfl) ?_);refine Jq (Z0 Z2U rfl) (JO.m (Z9 (cs':=[_,_,_,_]) rfl rfl qU rfl rfl rfl rfl Z1A) (by rfl) ?_);refine vP [2,3] ?_;refine Jq (ZU (cs:=[_,_,_,_]) Z1Q rfl rfl rfl) (JO.m (Z2 rfl rfl qU qC qO Z33) (by rfl) ?_);refine vS [2] ?_;refine vR ?_;refine JX.toP ?_;exact JX.retLCs (Lr:=[_,_]) rfl (⟨z1.1,ty,true,true⟩,z3.2) (by unfold colP;rw[hz1];simp only[Option.bind_some];rw[hty];simp only[Option.bind_some];rw[if_neg (by rw[hnt];decide)];unfold colEnd;rw[if_pos hpr,hz3];rfl) (.refl _) rfl rfl hb0 rfl Z1Q HasOwn.mem (ZQ rfl) Sub.coT;apply yK
 repeat first|apply yX|apply yB
 have hpr:isT 1 Z3f _=false:=ht39;rw[Z21 hpr];refine vQ ?_;refine Jm rfl (JO.callK (Lr:=[_,_]) (Zu T hc b _ husx Z3l) rfl (.refl _) qF qA ?_);intro _ _;refine vD ?_;refine Jq (Z0 Z2U rfl) (JO.m (Z9 (cs':=[_,_,_,_]) rfl rfl qU rfl rfl rfl rfl Z1A) (by rfl) ?_);refine vP [2,3] ?_;refine Jq (ZU (cs:=[_,_,_,_]) Z1Q rfl rfl rfl) (JO.m (Z2 rfl rfl qU qC qO Z33) (by rfl) ?_);refine vS [2] ?_;refine vR ?_;refine JX.toP ?_;exact JX.retLCs (Lr:=[_,_]) rfl (⟨z1.1,ty,false,isT 1 Z3l us⟩,skT 1 Z3l us) (by unfold colP;rw[hz1];simp only[Option.bind_some];rw[hty];simp only[Option.bind_some];rw[if_neg (by rw[hnt];decide)];unfold colEnd;rw[if_neg (by rw[hpr];decide)]) (.refl _) rfl rfl hb0 rfl Z1Q HasOwn.mem (ZQ rfl) Sub.coT
attribute [local irreducible] SlE ExsR
def PlF(k:Int)(v:Value)(w:World):Prop:=∃bx,v= .func (.func Z1S) #[] #[.pointer (some ⟨bx,0,none⟩)]/\HeapIs bx [.int .i64 k] Z48 w
theorem Sub.plF{L:List Own}{Φ:List (World->Prop)}{k:Int}{bx:Nat}(hF:HeapIs bx [.int .i64 k] Z48∈Φ):Sub L Φ (.is (.func (.func Z1S) #[] #[.pointer (some ⟨bx,0,none⟩)])) (.rep (PlF k)):=fun X v w hf e=>by
 rw[show v=_ from e];exact fun w' hk=>⟨bx,rfl,hf.2 _ hF w' hk⟩
theorem Z8F(N:Nat)(T:Tk)(hc:T.ts.length<=T.cap)(h9:T.ts.length<=2049)(b:Nat)(ts:List T3)(hts:ts<:+T.ts)(e:Ps Ex)(hex: ∀us,us<:+T.ts->us.length<=ts.length->CallP Tryz.prog ZO [PB T b (us)] [T.G,AF] [.is (.pointer (some ⟨b,0,none⟩))] (e (us)=none) flt (fun z:Ex×List T3=>e (us)=some z) (fun z=>[PB T b z.2]) (fun z=>.rep (ExR z.1))):CallP Tryz.prog Z5j [PB T b ts] [T.G,AF,NH N] [.is (.pointer (some ⟨b,0,none⟩))] (itemP e ts=none) flt (fun z:Pz.Itm×List T3=>itemP e ts=some z) (fun z=>[PB T b z.2]) (fun z=>.rep (itE.T z.1)):=
CallP.of (fn:=Tryz.f115) Tryz.func115 (n:=9) rfl rfl rfl (fun _ _=>by kernel_rfl) fun E W hb0=>by
 refine vQ ?_;refine JO.alloc Z7P rfl fun b2=>(vP [0,2] ?_);refine Jm rfl (JO.callK (Lr:=[_]) (ZE T hc b (ts) (hts) Z1g) rfl (List.perm_append_comm (l₁:=[_]) (l₂:=[_])) qF qA ?_);intro _ _;refine vD ?_;refine vS [0,2,4] ?_;refine yC rfl (fun ht4=>?_) (fun ht4=>?_);have hs:isT 5 Z1g ts=true:=ht4;rw[Z1z hs];refine vQ ?_;refine Jq (Zd (cs:=[_,_,_,_,_,_,_,_,_]) Z6a (.cons rfl .nil) rfl rfl) (JO.m (Z2 rfl rfl qU qC qO Z4T) (by rfl) ?_);refine vS [2] ?_;refine vR ?_;refine JX.toP ?_;exact JX.retLCs (Lr:=[_]) rfl (⟨true,ex0⟩,ts.tail) (by unfold itemP;rw[if_pos hs]) (.refl _) rfl rfl hb0 rfl Z4X HasOwn.mem (ZQ rfl) Sub.itAll;apply yK
 repeat first|apply yX|apply yB
 have hs:isT 5 Z1g ts=false:=ht4;rw[Z21 hs];refine vQ ?_;refine Jm rfl ?_;refine JO.callPK (Lr:=[_]) (hex ts hts (Nat.le_refl _)) rfl (.refl _) qF qA (fun hbad=>?_) ?_
 · exact JX.pnI (by unfold itemP;rw[if_neg (by rw[hs];decide),hbad];rfl)
 intro z hz;refine vD ?_;refine JO.openA (s:=7) rfl (fun a7 l7 q7 b7_ o7_ _ _=>?_);refine Jq (Zd (cs:=[_,_,_,_,_,_,_,_,_]) Z6a (.cons rfl .nil) rfl rfl) (JO.m (Z2 rfl rfl qU qC qO Z4T) (by rfl) ?_);refine vS [2] ?_;refine vR ?_;refine JX.toP ?_;exact JX.retLCs (Lr:=[_]) rfl (⟨false,z.1⟩,z.2) (by unfold itemP;rw[if_neg (by rw[hs];decide),hz];rfl) (.refl _) rfl rfl hb0 rfl Z4X HasOwn.mem (ZQ rfl) (Sub.itEx qI rfl)
theorem Z97(N:Nat)(T:Tk)(hc:T.ts.length<=T.cap)(h9:T.ts.length<=2049)(b:Nat)(ts:List T3)(hts:ts<:+T.ts)(e:Ps Ex)(exprDn: ∀{us:List T3} {z:Ex×List T3},e us=some z->z.2<:+us)(hex: ∀us,us<:+T.ts->us.length<=ts.length->CallP Tryz.prog ZO [PB T b (us)] [T.G,AF] [.is (.pointer (some ⟨b,0,none⟩))] (e (us)=none) flt (fun z:Ex×List T3=>e (us)=some z) (fun z=>[PB T b z.2]) (fun z=>.rep (ExR z.1))):CallP Tryz.prog Z5y [PB T b ts] [T.G,AF,NH N] [.is (.pointer (some ⟨b,0,none⟩))] (keyP e ts=none) flt (fun z:Pz.Ky×List T3=>keyP e ts=some z) (fun z=>[PB T b z.2]) (fun z=>.rep (kyE.T z.1)):=
CallP.of (fn:=Tryz.f120) Tryz.func120 (n:=14) rfl rfl rfl (fun _ _=>by kernel_rfl) fun E W hb0=>by
 refine vQ ?_;refine JO.alloc Z5u rfl fun b2=>(vP [0,2] ?_);refine Jm rfl ?_;refine JO.callPK (Lr:=[_]) (hex ts hts (Nat.le_refl _)) rfl (List.perm_append_comm (l₁:=[_]) (l₂:=[_])) qF qA (fun hbad=>?_) ?_
 · exact JX.pnI (by unfold keyP;rw[hbad];rfl)
 intro z hz;refine vD ?_;refine JO.openA (s:=5) rfl (fun a5 l5 q5 b5_ o5_ _ _=>?_);refine Jq (Zd (cs:=[_,_,_,_,_,_,_,_,_]) ZaK (.cons rfl .nil) rfl rfl) (JO.alloc Z5u rfl fun b3=>(JO.m (Z2 rfl rfl qU qC qO Z40) (by rfl) ?_));refine vP [0,2,3] ?_;refine Jm rfl (JO.callK (Lr:=[_,_]) (Zu T hc b (z.2) (((exprDn hz).trans hts)) Z6d) rfl (.swap _ _ _) qF qA ?_);intro _ _;refine vD ?_;refine Jq (Z22 rfl) (vS [0,2,3,9] ?_);refine yC rfl (fun ht9=>?_) (fun ht9=>?_);have ha:isT 1 Z6d z.2=false:=by simpa using ht9
 rw[Z21 ha];refine vQ ?_;refine Jm rfl (JO.callK (Lr:=[_,_]) (Zu T hc b (z.2) (((exprDn hz).trans hts)) Z6i) rfl (.refl _) qF qA ?_);intro _ _;refine vD ?_;refine Jq (Z0 Z5E rfl) (JO.m (Z9 (cs':=[_,_,_,_,_,_,_,_,_]) rfl rfl qU rfl rfl rfl rfl Z1A) (by rfl) ?_);refine vS [2,3] ?_
 first|(have ha:isT 1 Z6d z.2=true:=(by simpa using ht9);rw[Z1z ha])|skip
 refine vQ ?_;refine Jq (ZU (cs:=[_,_,_,_,_,_,_,_,_]) Z3a rfl rfl rfl) (JO.m (Z2 rfl rfl qU qC qO Z40) (by rfl) ?_);refine vS [2] ?_;refine vR ?_;refine JX.toP ?_;exact JX.retLCs (Lr:=[_,_]) rfl (⟨z.1,isT 1 Z6i z.2⟩,skT 1 Z6i z.2) (by unfold keyP;rw[hz,Option.map_some,if_neg (by rw[ha];decide)]) (.refl _) rfl rfl hb0 rfl Z3a HasOwn.mem (ZQ rfl) (Sub.kyEx qI rfl);apply yK
 repeat first|apply yX|apply yB
 first|(have ha:isT 1 Z6d z.2=true:=(by simpa using ht9);rw[Z1z ha])|skip
 refine vQ ?_;refine Jq (ZU (cs:=[_,_,_,_,_,_,_,_,_]) Z3a rfl rfl rfl) (JO.m (Z2 rfl rfl qU qC qO Z40) (by rfl) ?_);refine vS [2] ?_;refine vR ?_;refine JX.toP ?_;exact JX.retLCs (Lr:=[_,_]) rfl (⟨z.1,false⟩,z.2.tail) (by unfold keyP;rw[hz,Option.map_some,if_pos ha]) (.refl _) rfl rfl hb0 rfl Z3a HasOwn.mem (ZQ rfl) (Sub.kyEx qI rfl)
theorem Z3n(N:Nat)(T:Tk)(hc:T.ts.length<=T.cap)(h9:T.ts.length<=2049)(b:Nat)(ts:List T3)(hts:ts<:+T.ts)(e:Ps Ex)(hex: ∀us,us<:+T.ts->us.length<=ts.length->CallP Tryz.prog ZO [PB T b (us)] [T.G,AF] [.is (.pointer (some ⟨b,0,none⟩))] (e (us)=none) flt (fun z:Ex×List T3=>e (us)=some z) (fun z=>[PB T b z.2]) (fun z=>.rep (ExR z.1))):CallP Tryz.prog Z7T [PB T b ts] [T.G,AF,NH N] [.is (.pointer (some ⟨b,0,none⟩))] (whereP e ts=none) flt (fun z:List Ex×List T3=>whereP e ts=some z) (fun z=>[PB T b z.2]) (fun z=>.rep (SlE exE (FX N) z.1)):=
CallP.ofN (N:=N) (List.mem_cons_of_mem _ (List.mem_cons_of_mem _ List.mem_cons_self)) (fn:=Tryz.f117) Tryz.func117 (n:=9) rfl rfl rfl (fun _ _=>by kernel_rfl) fun E W hNW hb0=>by
 refine vQ ?_;refine Ja rfl (vP [0] ?_);refine Jm rfl (JO.callK (Lr:=[]) (Zu T hc b (ts) (hts) Z80) rfl (.refl _) qF qA ?_);intro _ _;refine vD ?_;refine Jq (Z22 rfl) (vS [0,5] ?_);refine yC rfl (fun ht5=>?_) (fun ht5=>?_);have hw:isT 1 Z80 ts=false:=by simpa using ht5
 rw[Z21 hw];refine vQ ?_;refine Ja rfl (vS [2] ?_);refine vR ?_;refine JX.toP ?_;exact JX.retL1 (Lr:=[]) rfl ([],ts) (by unfold whereP;rw[if_neg (by rw[hw];decide)]) (.refl _) rfl rfl hb0 rfl (Sub.slENil fun _=>FrS.nil _);apply yK
 repeat first|apply yX|apply yB
 have hw:isT 1 Z80 ts=true:=by simpa using ht5
 rw[Z1z hw];refine vQ ?_;refine Jm rfl ?_;refine JO.callPK (Lr:=[]) (hex ts.tail (ZH hts) (by have:=(ZG hw).2;omega)) rfl (.refl _) qF qA (fun hbad=>?_) ?_
 · exact JX.pnI (by unfold whereP;rw[if_pos hw,hbad];rfl)
 intro z hz;refine vD ?_;rw[Z5Z];refine JO.openT (s:=7) rfl (fun p1 hp1=>?_);refine JO.buildE Z3F Zy rfl qD rfl rfl (fun b8=>?_);refine Ja rfl (vS [2] ?_);refine J.freezeOMW (e:=Z7) (sz:=8) hNW Cel.hlen (growE p1) .here (fun q hq=>by simp only[List.map_cons,List.map_nil,List.mem_singleton]at hq;exact⟨_,List.mem_cons_self,hq.symm⟩) rfl rfl ?_;refine J.fact (CelF exE [p1]) (fun X w hf _=>fun w' hk p hp=>by rw[List.mem_singleton.1 hp];exact hf _ qI w' hk) ?_;refine vR ?_;refine JX.toP ?_;exact JX.retL1 (Lr:=[]) rfl ([p1].map Cel.x,z.2) (by unfold whereP;rw[if_pos hw,hz,List.map_singleton,hp1];rfl) (.refl _) rfl rfl hb0 rfl (Sub.slEO (growE p1) qI qI qI)
theorem Z78(N:Nat)(T:Tk)(hc:T.ts.length<=T.cap)(h9:T.ts.length<=2049)(b:Nat)(ts:List T3)(hts:ts<:+T.ts)(e:Ps Ex)(hex: ∀us,us<:+T.ts->us.length<=ts.length->CallP Tryz.prog ZO [PB T b (us)] [T.G,AF] [.is (.pointer (some ⟨b,0,none⟩))] (e (us)=none) flt (fun z:Ex×List T3=>e (us)=some z) (fun z=>[PB T b z.2]) (fun z=>.rep (ExR z.1))):CallP Tryz.prog Z3r [PB T b ts] [T.G,AF,NH N] [.is (.pointer (some ⟨b,0,none⟩))] (removeP e ts=none) flt (fun z:Pz.St×List T3=>removeP e ts=some z) (fun z=>[PB T b z.2]) (fun z=>.rep (StR N z.1)):=
CallP.of (fn:=Tryz.f62) Tryz.func62 (n:=10) rfl rfl rfl (fun _ _=>by kernel_rfl) fun E W hb0=>by
 refine vQ ?_;refine JO.alloc ZT rfl fun b2=>(vP [0,2] ?_);refine Jm rfl ?_;refine JO.callPK (Lr:=[_]) (ZA T hc b (ts) (hts) Z5G (by decide+kernel) (by decide+kernel) (asc (by decide+kernel))) rfl (List.perm_append_comm (l₁:=[_]) (l₂:=[_])) qF qA (fun hbad=>?_) ?_
 · exact JX.pnI (by unfold removeP;rw[hbad];rfl)
 intro z0 hz0;have h0:Lt z0.2 ts:=Zk _ _ _ _ hz0;refine vD ?_;refine vP [0,2] ?_;refine Jm rfl ?_;refine JO.callPK (Lr:=[_]) (ZS T hc b z0.2 (h0.1.trans hts)) rfl (.refl _) qF qA (fun hbad=>?_) ?_
 · exact JX.pnI (by unfold removeP;rw[hz0,Option.bind_some,hbad];rfl)
 intro z1 hz1;have h1:Lt z1.2 ts:=Lt.trans (ZV _ _ hz1) h0.1;refine vD ?_;refine Jm rfl ?_;refine JO.callPK (Lr:=[_]) (Z3n N T hc h9 b z1.2 (h1.1.trans hts) e (fun us hus hu=>hex us hus (by have:=h1.2;omega))) rfl (.refl _) qF qA (fun hbad=>?_) ?_
 · exact JX.pnI (by unfold removeP;rw[hz0,Option.bind_some,hz1,Option.bind_some,hbad];rfl)
 intro z2 hz2;refine vD ?_;refine JO.openEv (s:=8) rfl (fun aw lw cw _ _=>?_);refine Jq (Zd (cs:=[_,_,_,_,_,_,_,_,_,_,_,_,_,_]) Z1w (.cons rfl (.cons rfl (.cons rfl (.cons rfl .nil)))) rfl rfl) (JO.m (Z2 rfl rfl qU qC qO Zo) (by rfl) ?_);refine vS [2] ?_;refine vR ?_;refine JX.toP ?_;exact JX.retLCs (Lr:=[_]) rfl ({stK 6 with tb:=z1.1,where_:=z2.1},z2.2) (by unfold removeP;rw[hz0,Option.bind_some,hz1,Option.bind_some,hz2];rfl) (.refl _) rfl rfl hb0 rfl Zj HasOwn.mem (ZQ rfl) (Sub.st rfl fun X w hf w' hk=>⟨Za (FrS.nil _),Za (FrS.nil _),Za trivial,Za trivial,Za trivial,hf _ qI w' hk,Z16,Za trivial,Z16⟩)
theorem Z5z(N:Nat)(T:Tk)(hc:T.ts.length<=T.cap)(h9:T.ts.length<=2049)(b:Nat)(ts:List T3)(hts:ts<:+T.ts)(bx:Nat)(k:Int):CallP Tryz.prog Z1S [PB T b ts] [T.G,AF,NH N,HeapIs bx [.int .i64 k] Z48] ([.is (.pointer (some ⟨b,0,none⟩))]++[Value.pointer (some ⟨bx,0,none⟩)].map Ty.is) False flt (fun z:Pz.St×List T3=>z=(stK k,ts)) (fun z=>[PB T b z.2]) (fun z=>.rep (StR N z.1)):=
CallP.of (fn:=Tryz.f123) Tryz.func123 (n:=6) rfl rfl rfl (fun _ _=>by kernel_rfl) fun E W hb0=>by
 refine vQ ?_;refine JO.alloc ZT rfl fun b3=>(vP [1,3] ?_);refine Jq (Z83 (cs:=[Value.int .i64 k]) (u:=.int .i64 k) Zx rfl qI rfl) ?_;refine Jq (Zd (cs:=[_,_,_,_,_,_,_,_,_,_,_,_,_,_]) Z1w (.cons rfl (.cons rfl .nil)) rfl rfl) (JO.m (Z2 rfl rfl qU qC qO Zo) (by rfl) ?_);refine vS [3] ?_;refine vR ?_;refine JX.toP ?_;exact JX.retLCs (Lr:=[_]) rfl (stK k,ts) (by rfl) (List.perm_append_comm (l₁:=[_]) (l₂:=[_])) rfl rfl hb0 rfl Zj HasOwn.mem (ZQ rfl) (Sub.st rfl fun X w hf w' hk=>⟨Za (FrS.nil _),Za (FrS.nil _),Za trivial,Za trivial,Za trivial,Za (FrS.nil _),Z16,Za trivial,Z16⟩)
theorem Z6r(k:Int):CallTy Tryz.prog Zc2 [.is (.int .i64 k)] (.rep (PlF k)):=
 CallTy.of (fn:=Tryz.f63) Tryz.func63 (n:=4) rfl rfl rfl (fun _ _=>by kernel_rfl) fun E W=>by
 refine vQ ?_;refine JO.box rfl rfl fun b1=>(Ja rfl (vP [1] ?_));refine Jq (Z3J .nil (.cons rfl .nil)) (Ja rfl (vS [2] ?_));refine J.freeze1 rfl (fun _ h=>h) rfl rfl ?_;refine vR ?_;exact JX.ret1sub rfl rfl rfl (Sub.plF List.mem_cons_self)
end Go.Proofs.YtbedigkncjbggaaGreatDoor
