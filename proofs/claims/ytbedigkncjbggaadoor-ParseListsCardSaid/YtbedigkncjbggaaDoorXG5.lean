/- The program logic, part 6. No condition. -/
import Derived.Test.YtbedigkncjbggaaDoorXG4
import Derived.Laws.Externs
import Derived.MapKept
import Derived.Maps.RangeRun
namespace Go.Vc
open Go
variable{P:Program}{c:Ctx}{K K' K0:List (Nat×Ty)}{L L' L0 Lr Lq Lm Lk:List Own}{Φ Φ0:List (World->Prop)}{Q:Exit->Act->World->Prop}{H:Know}{dst:Option Nat}{ty:TypeId}{pos:String}{after:Array Edge}{g:Option (Nat×Bool)}{ops:Array Oper}{rest:List Oper}{fn:Func}{n:Nat}{X:Nat->Prop}{W:World}{op:Op}{f:FuncId}{As:List Ty}{T:Ty}{Z:Type}{Zp:Z->Prop}{L1:Z->List Own}{R:Z->Ty}{Bad:Prop}{ch:List PanicEntry}
structure RV where
 row:List V3
 a:Option Addr
 len:Nat
 cap:Nat
theorem Z7w{w:World}{b o:Nat}{u:Value}(h:w.cell? ⟨b,o,none⟩=some u): ∃(cs:Array Value) (t:TypeId) (fr:Nat×Nat),w.heap[b]? =some (.cells cs t fr)/\cs[o]? =some u:=by
 unfold World.cell? at h
 split at h
 · rename_i cs t fr hb
   exact⟨cs,t,fr,hb,by simpa using h⟩
 · cases h
theorem Z9Z{xt:TypeId}{x:Operand}{v:Value}{d:TypeDesc}(hu:P.underlying xt=some d)(hd:(match d with| .interface _=>false|_=>true)=true)(hx:H x (.is v)):Ob P L Φ H ⟨dst,.makeInterface xt x,ty,pos,after,g⟩ (.is (.iface xt v)):=
 Z1i fun E w ρ hp=>by
  have h1:ρ x=v:=hp.x x _ (by simp[Op.operands]) hx;cases d<;>first|(cases hd;done)|simp[execOp,h1,Instr.makeInterface,run_underlying hu]
section
variable{V:Value}
end
section
variable{α:Type}{en:α->List Value}{sz:Nat}
end
structure FlI (ops:Array Oper) (m:Nat) (fl:List (Nat×Nat×Nat)) (x:Nat×Nat×Nat):Prop where
 lt:x.1<m
 op: ∃fo,ops[x.1]? =some fo/\fo.op= .move (.tmp x.2.2)/\fo.dst=some x.2.1/\fo.guard=none/\ ∀e∈fo.after,Region.binds .any e=true->e.on∉fl.map (·.1)
def pf(x:Nat×Nat×Nat)(a:Act):Act:=a.put (some x.2.1) (a.eval (.tmp x.2.2))
structure Flo where
 f:Nat
 d:Nat
 deps:List Nat
structure FlsI (ops:Array Oper) (m n:Nat) (fl:List Flo) (base:List Nat) (x:Flo):Prop where
 lt:x.f<m
 dn:x.d<n
 nb:x.d∉base
 op: ∃fo,ops[x.f]? =some fo/\fo.dst=some x.d/\fo.guard=none/\ ∀s∈x.deps,s∈base\/ ∃y∈fl,y.d=s/\ ∃e∈fo.after,Region.binds .any e=true/\e.on=y.f
structure FlA (σ:Nat->Value) (fl:List Flo) (base:List Nat) (n:Nat) (a:Act) (dn:Nat->Prop):Prop where
 b: ∀s∈base,a.eval (.tmp s)=σ s
 v: ∀x∈fl,dn x.f->a.eval (.tmp x.d)=σ x.d
 n:a.tmps.size=n
section
variable{σ:Nat->Value}{x:Flo}{fo:Oper}
end
theorem Ob.moreI{P:Program}{L L':List Own}{Φ:List (World->Prop)}{H H':Know}{o:Oper}{T:Ty}(hL: ∀E w,(∀m∈L',m.at E w)->∀m∈L,m.at E w)(hH: ∀x U,H x U->U= .any\/H' x U)(h:Ob P L Φ H o T):Ob P L' Φ H' o T:=fun E w ρ hp=>
 h E w ρ ⟨hp.wf,hL E w hp.l,hp.f,fun x U hx hU=>by
  rcases hH x U hU with rfl|h'
  · trivial
  · exact hp.x x U hx h'⟩
section
variable{D:Array Bool}{E:Nat->Prop}{a:Act}{w:World}{i:Nat}{o:Oper}{kd:Kind}
theorem St1.quietI{K1 K2:List (Nat×Ty)}{S':Sd}{M':List Own}(hL: ∀E w,(∀m∈L,m.at E w)->∀m∈Lq,m.at E w)(hK:KLe K1 K2)(hna:isAlloc o=false)(hns: ∀t p x,o.op≠ .store t p x)(h:St1 P ops Lq Φ i o K1 [] [] T M' S' kd):
   M'=[]/\S'=[]/\ ∃kd,St1 P ops L Φ i o K2 [] [] T [] [] kd:=by
 cases h with
 |typed hg h=>exact⟨rfl,rfl,_,.typed hg (h.moreI hL hK.op)⟩
 |gated π g b d hg hd hk hna h=>
   refine⟨rfl,rfl,_,.gated π g b d hg hd ?_ hna fun hπ=>(h hπ).moreI hL (hK.opG π)⟩;rcases hk with⟨c',hk,e⟩|⟨π₀,c',hk,e⟩
   · rcases hK d _ hk with h'|h'
     · cases h'
     · exact .inl ⟨c',h',e⟩
   · rcases hK d _ hk with h'|h'
     · cases h'
     · exact .inr ⟨π₀,c',h',e⟩
 |new t n d hd hg ho hz=>simp[isAlloc,ho]at hna
 |sto s ety ty n x hg hdst g hgi hal ho=>exact absurd ho (hns _ _ _)
 |chg hg hl hm h=>
   have hM:M'=[]:=List.map_eq_nil_iff.1 (by rw[hm];rfl);subst hM;refine⟨rfl,rfl,_,.typed hg ?_⟩;refine Ob.moreI hL hK.op fun E w ρ hp=>?_;exact(h E w ρ hp (fun _ h=>by cases h) (by simp)).mono fun v w' ⟨hk,hT,_⟩=>⟨hk.mono fun _ _ h=>by simp at h,hT⟩
end
def quietOK1(ops:Array Oper)(p:Nat):Bool:=(List.range ops.size).all fun j=>match ops[j]? with|some o=> !isAlloc o&&(j==p||match o.op with| .store .. =>false|_=>true)|none=>true
theorem J.regS1{id:Nat}{dr:Bool}{l1 l2 tail:List Oper}{op:Oper}(L2 Lq:List Own)(hop:op.dst=none)(hg:op.guard=none)
   (hmx:P.follows .mixedOrders=true)(hok:(backOK (l1++op::l2++tail).toArray&&syncOK (l1++op::l2++tail).toArray (l1++op::l2).length&&regOK (l1++op::l2).toArray&&quietOK1 (l1++op::l2).toArray l1.length)=true)
   (hdn:((l1++op::l2).toArray.all fun o=>match o.dst with|some d=>decide (d<c.n)|none=>true)=true)
   (hq1: ∀E w,(∀m∈L,m.at E w)->∀m∈Lq,m.at E w)(hq2: ∀E w,(∀m∈L2,m.at E w)->∀m∈Lq,m.at E w)
   (h:RT P (l1++op::l2).toArray Lq Φ 0 l1 K [] [] (fun K1 _ _=>BigOb P L Φ (Kn K1) op (G:=Unit) (fun _=>.any) (fun _=>L2)/\RT P (l1++op::l2).toArray Lq Φ (l1.length+1) l2 K1 [] [] (fun K2 _ _=>JO P c K2 L2 Φ (l1++op::l2++tail).toArray tail Q))):
   J P c K L Φ (.region id (l1++op::l2++tail).toArray dr) Q:=by
 refine⟨?_⟩;intro E a w hsa;simp only[Bool.and_eq_true]at hok;obtain⟨⟨⟨hbk,hsy⟩,hreg⟩,hqu⟩:=hok
 generalize hA:l1++op::l2=A at*
 have hlp:(A++tail).toArray.toList.take A.length=A:=by simp
 have hld:(A++tail).toArray.toList.drop A.length=tail:=by simp
 have hpA:A[l1.length]? =some op:=by rw[<-hA];simp
 have hAlen:A.length=l1.length+1+l2.length:=by rw[<-hA];simp;omega
 obtain⟨T1,Mf1,Sf1,kf1,hM1,hS1,hst1,hbig,hrt2⟩:=h.out;obtain⟨T2,Mf2,Sf2,kf2,hM2,hS2,hst2,hfin⟩:=hrt2.out;have hbk':backOK A.toArray=true:=by unfold regOK at hreg;rw[Bool.and_eq_true]at hreg;exact hreg.1
 have hord':ordOK A.toArray=true:=by unfold regOK at hreg;rw[Bool.and_eq_true]at hreg;exact hreg.2
 let T:Nat->Ty:=fun j=>if j<l1.length then T1 j else if j=l1.length then .any else T2 (j-(l1.length+1))
 have hTp:T l1.length= .any:=by simp[T]
 have hKA1: ∀n,n<=l1.length->kAt A T K n=kAt l1 T1 K n:=by
   intro n
   induction n with
   |zero=>intro _;rfl
   |succ n ih=>
     intro hn;rw[kAt,kAt,ih (by omega),<-hA,List.getElem?_append_left (by omega)]
     congr 1
     simp[T,show n<l1.length by omega]
 have hKA2: ∀n,kAt A T K (l1.length+1+n)=kAt l2 T2 (kAt l1 T1 K l1.length) n:=by
   intro n
   induction n with
   |zero=>
     show putK ((A[l1.length]?).bind (·.dst)) (T l1.length) (kAt A T K l1.length)=_;rw[hKA1 _ (Nat.le_refl _),hpA,Option.bind_some,hop,hTp]
     rfl
   |succ n ih=>
     show putK ((A[l1.length+1+n]?).bind (·.dst)) (T (l1.length+1+n)) (kAt A T K (l1.length+1+n))=putK ((l2[n]?).bind (·.dst)) (T2 n) _;rw[ih]
     congr 1
     · congr 1
       rw[<-hA,List.getElem?_append_right (by omega),show l1.length+1+n-l1.length=n+1 by omega]
       rfl
     · simp[T,show ¬l1.length+1+n<l1.length by omega,show l1.length+1+n≠l1.length by omega]
 have hquA: ∀(j:Nat) (oj:Oper),A[j]? =some oj->isAlloc oj=false/\(j≠l1.length->∀t p x,oj.op≠ .store t p x):=by
   intro j oj hj;unfold quietOK1 at hqu;have hjl:j<A.length:=(List.getElem?_eq_some_iff.1 hj).1;have h1:=List.all_eq_true.1 hqu j (List.mem_range.2 (by simpa using hjl));rw[show A.toArray[j]? =some oj by simpa using hj]at h1;simp only[Bool.and_eq_true,Bool.not_eq_true',Bool.or_eq_true,beq_iff_eq]at h1;exact⟨h1.1,fun hne t p x e=>by rw[e]at h1;simp[hne]at h1⟩
 have hMS1: ∀j,j<=l1.length->Mf1 j=[]/\Sf1 j=[]:=by
   intro j
   induction j with
   |zero=>intro _;exact⟨hM1,hS1⟩
   |succ j ih=>
     intro hj;obtain⟨e1,e2⟩:=ih (by omega);have ho:l1[j]? =some l1[j]:=List.getElem?_eq_getElem (by omega);have h1:=hst1 j _ ho;rw[e1,e2]at h1;obtain⟨q1,q2⟩:=hquA j l1[j] (by rw[<-hA,List.getElem?_append_left (by omega)];exact ho);obtain⟨g1,g2,_⟩:=h1.quietI (L:=Lq) (K2:=kAt l1 T1 K j) (fun _ _ h=>h) (fun s U h=>.inr h) q1 (q2 (by omega));exact⟨g1,g2⟩
 have hMS2: ∀j,j<=l2.length->Mf2 j=[]/\Sf2 j=[]:=by
   intro j
   induction j with
   |zero=>intro _;exact⟨hM2,hS2⟩
   |succ j ih=>
     intro hj;obtain⟨e1,e2⟩:=ih (by omega);have ho:l2[j]? =some l2[j]:=List.getElem?_eq_getElem (by omega);have h1:=hst2 j _ ho;rw[e1,e2]at h1;obtain⟨q1,q2⟩:=hquA (l1.length+1+j) l2[j] (by rw[<-hA,List.getElem?_append_right (by omega),show l1.length+1+j-l1.length=j+1 by omega];exact ho);obtain⟨g1,g2,_⟩:=h1.quietI (L:=Lq) (K2:=kAt l2 T2 (kAt l1 T1 K l1.length) j) (fun _ _ h=>h) (fun s U h=>.inr h) q1 (q2 (by omega));exact⟨g1,g2⟩
 have hst: ∀(L':List Own) (T':Nat->Ty),(∀E w,(∀m∈L',m.at E w)->∀m∈Lq,m.at E w)->(∀j,j≠l1.length->T' j=T j)->∀i o,A.toArray[i]? =some o->i≠l1.length->∃kd,St1 P A.toArray L' Φ i o (kAt A.toArray.toList T' K i) [] [] (T' i) [] [] kd:=by
   intro L' T' hL' hT' i o hi hne;have hi':A[i]? =some o:=by simpa using hi
   obtain⟨q1,q2⟩:=hquA i o hi';rw[hT' i hne];have hle:KLe (kAt A T K i) (kAt A T' K i):=ZbD hTp hT' i;rcases Nat.lt_or_ge i l1.length with hlt|hge
   · have ho:l1[i]? =some o:=by rw[<-hA,List.getElem?_append_left hlt]at hi';exact hi'
     have h1:=hst1 i o ho;obtain⟨e1,e2⟩:=hMS1 i (by omega);obtain⟨e3,e4⟩:=hMS1 (i+1) (by omega);rw[e1,e2,Nat.zero_add,<-hKA1 i (by omega)]at h1;have hTi:T i=T1 i:=by simp[T,hlt]
     rw[hTi];exact(h1.quietI hL' hle q1 (q2 hne)).2.2
   · have ho:l2[i-(l1.length+1)]? =some o:=by
       rw[<-hA,List.getElem?_append_right hge]at hi';rw[show i-l1.length=(i-(l1.length+1))+1 by omega]at hi'
       simpa using hi'
     have hl2:i-(l1.length+1)<l2.length:=(List.getElem?_eq_some_iff.1 ho).1;have h1:=hst2 _ o ho;obtain⟨e1,e2⟩:=hMS2 (i-(l1.length+1)) (by omega);rw[e1,e2,<-hKA2,show l1.length+1+(i-(l1.length+1))=i by omega]at h1;have hTi:T i=T2 (i-(l1.length+1)):=by simp[T,show ¬i<l1.length by omega,hne]
     rw[hTi];exact(h1.quietI hL' hle q1 (q2 hne)).2.2
 have hnn: ∀(i:Nat) (o:Oper) (d:Nat),A.toArray[i]? =some o->o.dst=some d->d<c.n:=by
   intro i o d hi hd;have:=Array.all_eq_true_iff_forall_mem.1 hdn o (Array.mem_of_getElem? hi);rw[hd]at this
   simpa using this
 have hnal: ∀(j:Nat) (oj:Oper) (t:TypeId),A.toArray[j]? =some oj->oj.op≠ .alloc t:=by
   intro j oj t hj e;have:=(hquA j oj (by simpa using hj)).1
   simp[isAlloc,e]at this
 have hpA':A.toArray[l1.length]? =some op:=by simpa using hpA
 refine Z2d (Q:=Q) A.length hmx hbk hsy (fun D a w'=>(D.getD l1.length false=false/\ ∃E,RI P A.toArray c K [] L Φ T (fun _=>[]) (fun _=>[]) w.heap.size D E a w')\/
     (D.getD l1.length false=true/\ ∃(B:Nat) (E:Nat->Prop),Stat0 A.toArray c [] L2 (fun _=>[]) (fun _=>[]) B/\RI P A.toArray c K [] L2 Φ (fun j=>if j=l1.length then .any else T j) (fun _=>[]) (fun _=>[]) B D E a w')) ?_ ?_ ?_
 · intro w' hw'
   have hs':SA c K L Φ E a w':=by
     rcases hw' with rfl|rfl
     · exact hsa
     · exact hsa.drew
   have hno: ∀(n j:Nat),(Array.replicate n false).getD j false=false:=by
     intro n j;rw[Array.getD_eq_getD_getElem?,Array.getElem?_replicate]
     split<;>simp
   refine .inl ⟨hno _ _,E,hs'.n,hs'.d,hs'.wf,fun j hj=>absurd hj (by rw[hno];simp),fun s T' hs _=>hs'.k s T' hs,fun j o d _ hj=>absurd hj (by rw[hno];simp),hs'.l,hs'.f,fun _ _ _=>⟨(fun _ h=>by cases h),(fun _ h=>by cases h)⟩,fun j oj d t hj hop=>absurd hop (hnal j oj t hj),fun j1 _ o1 _ _ _ t1 _ _ h1 _ p1=>absurd p1 (hnal j1 o1 t1 h1),hs'.x,hs'.keeps,?_⟩;rcases hw' with rfl|rfl<;>exact Nat.le_refl _
 · rw[hlp,hld]
   rintro D a' w' i o hs hI hi hd hr;have hi':i<A.toArray.size:=(Array.getElem?_eq_some_iff.1 hi).1;have hdf:D.getD i false=false:=by
     have hlt:i<D.size:=by omega
     simp only[Array.getD_eq_getD_getElem?,Array.getElem?_eq_getElem hlt,Option.getD_some]at hd ⊢;exact hd
   have hsize: ∀j,(D.setIfInBounds i true).getD j false=true↔j=i\/D.getD j false=true:=fun j=>ZL (by omega);have keepP:i≠l1.length->(D.setIfInBounds i true).getD l1.length false=D.getD l1.length false:=by
     intro hne;cases hq:D.getD l1.length false with
     |true=>exact(hsize _).2 (.inr hq)
     |false=>
       cases hq':(D.setIfInBounds i true).getD l1.length false with
       |false=>rfl
       |true=>
         rcases(hsize _).1 hq' with e|e
         · exact absurd e.symm hne
         · rw[hq]at e;cases e
   have quietAll: ∀(i:Nat) (o:Oper),A.toArray[i]? =some o->isLoud o=false->(fun _=>([]:List Own)) (i+1)=(fun _=>([]:List Own)) i/\(fun _=>([]:Sd)) (i+1)=(fun _=>([]:Sd)) i:=fun _ _ _ _=>⟨rfl,rfl⟩;rcases hI with⟨hp,E',hI⟩|⟨hp,B,E',hS,hI⟩
   · have hS0:Stat0 A.toArray c [] L (fun _=>[]) (fun _=>[]) w.heap.size:=⟨fun _ _=>rfl,fun _ _=>List.nodup_nil,hsa.ld,fun m hm=>Zx (hsa.l m hm).2.choose_spec.1,hsa.may,hnn,hsa.keeps.size⟩
     by_cases hip:i=l1.length
     · subst hip
       rw[hpA']at hi;injection hi with hi
       subst hi;have hpre:=hI.pre hbk' hord' hpA' hdf hr;have hKeq:kAt A.toArray.toList T K l1.length=kAt l1 T1 K l1.length:=hKA1 _ (Nat.le_refl _);rw[hKeq]at hpre;have hrun:=hbig E' w' a'.eval hpre hsa.ld;unfold wpOp;rw[hpA'];simp only;rw[if_pos (by simp[Region.wanted,hg])];refine .inl ?_;unfold Oper.wp;refine Runs.upon hrun fun v w'' ⟨_,E'',hk,hev,hwf,hT,hl,hnd,hmay⟩=>.inr ⟨(hsize _).2 (.inl rfl),w''.heap.size,E'',?_,?_⟩
       · refine⟨fun _ _=>rfl,fun _ _=>List.nodup_nil,hnd,fun m hm=>Zx (hl m hm).2.choose_spec.1,fun m hm=>?_,hnn,?_⟩
         · rcases hmay m hm with h1|h1
           · obtain⟨m',hm',e⟩:=List.mem_map.1 h1
             rw[<-e];exact hsa.may m' hm'
           · have:=hI.keeps.size
             exact .inr (by omega)
         · exact Nat.le_trans hI.keeps.size hk.size
       · exact hI.big hs hord' hpA' hdf hr hnal (fun d hd=>hnn _ _ d hpA' hd) hk hev hwf hT hl hsa.may
     · refine wpOp_mono (fun a'' w'' hI'=>.inl ⟨by rw[keepP hip];exact hp,hI'⟩) (hI.step1 hS0 quietAll hbk' hord' hs hi hd hr (hst L T hq1 (fun _ _=>rfl) i o hi hip))
   · have hip:i≠l1.length:=fun e=>by subst e;rw[hdf]at hp;cases hp
     refine wpOp_mono (fun a'' w'' hI'=>.inr ⟨by rw[keepP hip];exact hp,B,?_⟩) (hI.step1 hS quietAll hbk' hord' hs hi hd hr (hst L2 _ hq2 (fun j hj=>by simp[hj]) i o hi hip));obtain⟨E'',hI'⟩:=hI';exact⟨E'',hS,hI'⟩
 · rw[hlp,hld]
   rintro D a' w' hs hall hI;have hpd:D.getD l1.length false=true:=hall _ (by simp;omega);rcases hI with⟨hp,_⟩|⟨_,B,E',hS,hI⟩
   · rw[hpd]at hp;cases hp
   · have hlen:A.length=A.toArray.size:=by simp
     refine hfin.out E' a' w' ⟨hI.n,hI.d,hI.wf,?_,hI.l,hS.nd,hI.f,hI.x,hsa.xs,hI.keeps,hS.may⟩;intro s T' hl;rw[<-hKA2 l2.length,<-hAlen]at hl;have hl':look (kAt A.toArray.toList T K A.toArray.size) s=some T':=by simpa using hl
     rcases Z39 s A.toArray.size (Nat.le_refl _) T' hl' with⟨j,oj,hj,hoj,hdj,rfl⟩|⟨hn,hk⟩
     · have:=hI.t j oj s hoj (hall j (by simpa using hj)) hdj
       by_cases e:j=l1.length
       · subst e
         rw[hpA']at hoj;injection hoj with hoj
         subst hoj;rw[hop]at hdj;cases hdj
       · rw[if_neg e]at this
         exact this
     · exact hI.k s T' hk fun j oj hoj _=>hn j oj (Array.getElem?_eq_some_iff.1 hoj).1 hoj
theorem J.regSm{id:Nat}{dr:Bool}{l:List Oper}(p m:Nat){op:Oper}(L2 Lq:List Own)(hp:l[p]? =some op)(hpm:Nat.blt p m=true)(hop:op.dst=none)(hg:op.guard=none)
   (hmx:P.follows .mixedOrders=true)(hok:(backOK l.toArray&&syncOK l.toArray m&&regOK (l.take m).toArray&&quietOK1 (l.take m).toArray p)=true)(hml:(l.take m).length=m)(hpl:(l.take p).length=p)
   (hdn:((l.take m).toArray.all fun o=>match o.dst with|some d=>decide (d<c.n)|none=>true)=true)
   (hq1: ∀E w,(∀m∈L,m.at E w)->∀m∈Lq,m.at E w)(hq2: ∀E w,(∀m∈L2,m.at E w)->∀m∈Lq,m.at E w)
   (h:RT P (l.take m).toArray Lq Φ 0 (l.take p) K [] [] (fun K1 _ _=>BigOb P L Φ (Kn K1) op (G:=Unit) (fun _=>.any) (fun _=>L2)/\RT P (l.take m).toArray Lq Φ ((l.take p).length+1) ((l.drop (p+1)).take (m-(p+1))) K1 [] [] (fun K2 _ _=>JO P c K2 L2 Φ l.toArray (l.drop m) Q))):
   J P c K L Φ (.region id l.toArray dr) Q:=by
 have hc:=Z9m hp (Nat.le_of_ble_eq_true hpm);have key:=J.regS1 (P:=P) (c:=c) (K:=K) (L:=L) (Φ:=Φ) (Q:=Q) (id:=id) (dr:=dr) (l1:=l.take p) (l2:=(l.drop (p+1)).take (m-(p+1))) (tail:=l.drop m) (op:=op) L2 Lq hop hg hmx;rw[hc,hml,List.take_append_drop,hpl]at key;rw[hpl]at h;exact key hok hdn hq1 hq2 h
theorem BigOb.store{op:Oper}{H:Know}{L2:List Own}{T:Ty}(hm:L2.map (·.b)=L.map (·.b))(h:ObM P [] Φ H L op T L2):BigOb P L Φ H op (G:=Unit) (fun _=>.any) (fun _=>L2):=fun E w ρ hp hnd=>by
 have hR:=h E w ρ ⟨hp.wf,fun m hm=>absurd hm List.not_mem_nil,hp.f,hp.x⟩ hp.l hnd;refine Runs.mono hR fun v w' ⟨hk,_,hL⟩=>⟨(),E,hk,Ev.of_keeps (hk.mono fun b _ hb=>?_),fun b hb=>Nat.lt_of_lt_of_le (hp.wf b hb) hk.size,trivial,hL,by rw[hm];exact hnd,fun o ho=>.inl (by rw[<-hm];exact List.mem_map_of_mem ho)⟩;obtain⟨m,hm',rfl⟩:=List.mem_map.1 hb;exact(hp.l m hm').1
theorem RT.store{ops:Array Oper}{op:Oper}{Lq L2:List Own}{l2:List Oper}{i:Nat}{k:List (Nat×Ty)->List Own->Sd->Prop}(h:BigOb P L Φ (Kn K) op (G:=Unit) (fun _=>.any) (fun _=>L2))(n:RT P ops Lq Φ i l2 K [] [] k):
 RT P ops Lq Φ i [] K [] [] (fun K1 _ _=>BigOb P L Φ (Kn K1) op (G:=Unit) (fun _=>.any) (fun _=>L2)/\RT P ops Lq Φ i l2 K1 [] [] k):=⟨h,n⟩
abbrev MEs:=List (Int×Value×Nat)
def mEnt(e:Int×Value×Nat):MapEntry:={key:=.int .i64 e.1,val:=e.2.1,born:=e.2.2}
abbrev mObj(l:MEs)(cl:Nat):Obj:=.map (l.map mEnt).toArray cl
theorem Z9v{b:Nat}{e:TypeId}{o:Obj}{E:Nat->Prop}{w:World}(h:(⟨b,e,.ob o⟩:Own).at E w):w.heap[b]? =some o:=by
 obtain⟨_,_,h,_⟩:=h;exact h
theorem ZaL{b:Nat}{e:TypeId}{o:Obj}{E:Nat->Prop}{w:World}(h:w.heap[b]? =some o)(hE:E b):(⟨b,e,.ob o⟩:Own).at E w:=⟨hE,undef,h,trivial⟩
theorem Keeps.setOb{w:World}{b:Nat}{o o':Obj}(hb:w.heap[b]? =some o)(hn: ∀cs t fr,o≠ .cells cs t fr):Keeps (fun q=>q=b) w {w with heap:=w.heap.setIfInBounds b o'}:=by
 refine⟨rfl,rfl,rfl,by simp,fun q hq hx=>?_,fun q cs t fr hq=>?_⟩
 · exact(MapKept.heap_set hb).2 q hx
 · by_cases e:q=b
   · subst e
     rw[hb]at hq;injection hq with hq
     exact absurd hq (hn cs t fr)
   · exact⟨cs,((MapKept.heap_set hb).2 q e).trans hq,rfl⟩
theorem ZdK{M M':List Own}{o:Oper}{b:Nat}{e:TypeId}{x x':Obj}{T:Ty}{v:Value}(hu:Upd M ⟨b,e,.ob x⟩ ⟨b,e,.ob x'⟩ M')(hn: ∀cs t fr,x≠ .cells cs t fr)(hT: ∀E w,T.p E v w)
  (h: ∀E w ρ,Pre L Φ H o E w ρ->w.heap[b]? =some x->∃nx,(execOp ρ o).run P w= .ok nx {w with heap:=w.heap.setIfInBounds b x'}/\(nx= .value v\/nx= .skip/\v=undef)):ObM P L Φ H M o T M':=fun E w ρ hp hM hnd=>by
 have hb:=Z9v (hM _ hu.mem);have hE:=(hM _ hu.mem).1;obtain⟨nx,hrun,hnx⟩:=h E w ρ hp hb;have hk:Keeps (fun q=>q=b) w {w with heap:=w.heap.setIfInBounds b x'}:=Keeps.setOb hb hn;have hev:Ev E w E {w with heap:=w.heap.setIfInBounds b x'}:=Ev.of_keeps (hk.mono fun q _ e=>by rw[e];exact hE);rw[hrun];have hfin:Keeps (fun q=>q∈M.map (·.b)) w {w with heap:=w.heap.setIfInBounds b x'}/\T.p E v {w with heap:=w.heap.setIfInBounds b x'}/\ ∀m∈M',m.at E {w with heap:=w.heap.setIfInBounds b x'}:=
  ⟨hk.mono fun q _ e=>by rw[e];exact List.mem_map_of_mem hu.mem,hT _ _,hu.all hnd (fun m hm hne=>Own.keep (hM m hm) hev ((MapKept.heap_set hb).2 m.b hne)) (ZaL (MapKept.heap_set hb).1 hE)⟩
 rcases hnx with rfl|⟨rfl,rfl⟩
 · exact hfin
 · exact hfin
end Go.Vc
namespace Go.Vc
open Go Go.ChangeMaps
section
variable{P:Program}{c:Ctx}{K:List (Nat×Ty)}{L L':List Own}{Φ:List (World->Prop)}{Q:Exit->Act->World->Prop}
variable{ops:Array Oper}{rest:List Oper}{d:Nat}{ty t:TypeId}{pos:String}{after:Array Edge}
theorem SA.newOb{E:Nat->Prop}{a:Act}{w:World}{e:TypeId}{V:Value}(hs:SA c K L Φ E a w)(o:Obj)(hd:d<c.n):
   SA c ((d,.is V)::K) (⟨w.heap.size,e,.ob o⟩::L) Φ (fun b=>E b\/b=w.heap.size) (a.put (some d) V) (w.alloc o):=by
 have hk:=Keeps.alloc w o;have hev:Ev E w (fun b=>E b\/b=w.heap.size) (w.alloc o):=⟨hk.of_noX,fun b hb=>⟨fun h=>h.elim id (fun e=>absurd hb (by omega)),.inl⟩⟩;refine hs.put (dst:=some d) (T:=.is V) hev ?_ rfl (fun d' e=>by injection e with e;omega) ?_ ?_ (hs.keeps.step hk fun _=>False.elim) ?_
 · rintro b (hb|rfl)
   · rw[Z1c];have:=hs.wf b hb;omega
   · rw[Z1c];omega
 · intro m ho
   rcases List.mem_cons.1 ho with rfl|ho
   · exact ZaL (Z15 w _) (.inr rfl)
   · exact Own.keep0 (hs.l m ho) hev hk
 · rw[List.map_cons,List.nodup_cons]
   refine⟨fun h=>?_,hs.ld⟩;obtain⟨m,hm,e'⟩:=List.mem_map.1 h;have h1:=hs.wf m.b (hs.l m hm).1;have e'':m.b=w.heap.size:=e'
   omega
 · intro m ho
   rcases List.mem_cons.1 ho with rfl|ho
   · exact .inr hs.keeps.size
   · exact hs.may m ho
theorem JO.mapMk(hd:Nat.blt d c.n=true)(hn: ∀r,JO P c ((d,.is (.map (some r)))::K) (⟨r,0,.ob (mObj [] 0)⟩::L) Φ ops rest Q):JO P c K L Φ ops (⟨some d,.makeMap t none,ty,pos,after,none⟩::rest) Q:=by
 refine⟨fun E a w hs=>wpList_plain rfl fun K' hK=>?_⟩;unfold Oper.wp;have hrun:(execOp a.eval ⟨some d,.makeMap t none,ty,pos,after,none⟩).run P w= .ok (.value (.map (some w.heap.size))) (w.alloc (.map #[] 0)):=by
   simp[execOp,Instr.makeMap]
 rw[hrun];exact hK _ _ ((hn w.heap.size).out _ _ _ (hs.newOb (e:=0) _ (Nat.le_of_ble_eq_true hd)))
end
section
variable{P:Program}{L:List Own}{Φ:List (World->Prop)}{H:Know}{dst:Option Nat}{ty:TypeId}{pos:String}{after:Array Edge}{g:Option (Nat×Bool)}
theorem Zb6{t:Operand}{i:Nat}{xs:Array Value}{v:Value}(hx:H t (.is (.tuple xs)))(hv:xs[i]? =some v):Ob P L Φ H ⟨dst,.extract t i,ty,pos,after,g⟩ (.is v):=
 Z1i fun E w ρ hp=>by
  have h1:ρ t= .tuple xs:=hp.x t _ (by simp[Op.operands]) hx
  simp[execOp,h1,Instr.extract,hv]
end
end Go.Vc
