/- The program logic, part 7. No condition. -/
import Derived.Test.YtbedigkncjbggaaGreatDoorXG5
namespace Go.Vc
open Go
variable{P:Program}{c:Ctx}{K K' K0:List (Nat×Ty)}{L L' L0 Lr Lq Lm Lk:List Own}{Φ Φ0:List (World->Prop)}{Q:Exit->Act->World->Prop}{H:Know}{dst:Option Nat}{ty:TypeId}{pos:String}{after:Array Edge}{g:Option (Nat×Bool)}{ops:Array Oper}{rest:List Oper}{fn:Func}{n:Nat}{X:Nat->Prop}{W:World}{op:Op}{f:FuncId}{As:List Ty}{T:Ty}{Z:Type}{Zp:Z->Prop}{L1:Z->List Own}{R:Z->Ty}{Bad:Prop}{ch:List PanicEntry}
structure AlikeO (f:Nat) (o' o:Oper):Prop where
 dst:o'.dst=o.dst
 op:o'.op=o.op
 ty:o'.type=o.type
 pos:o'.pos=o.pos
 guard:o'.guard=o.guard
 after: ∀e∈o'.after,Region.binds .any e=true->e∈o.after\/e.on=f
section
variable{V:Value}
end
section
variable{d:Nat}{t:TypeId}
end
theorem JX.retL2{t u:Nat}{A B:Value}(hres:fn.results= #[.tmp t,.tmp u])(z:Z)(hz:Zp z)(hL:L.Perm (L1 z++Lr))(hol:(L1 z).all (fun o=>o.T.out)=true)(hL0: ∀b,b∈L0.map (·.b)->X b)(h:look K t=some (.is A))(h':look K u=some (.is B))(hR:R z= .is (.tuple #[A,B])):JX ⟨n,X,fun q=>q∈L0.map (·.b),W,[]⟩ K L Φ .ret (bodyPost P fn (PostL X W L0 Zp L1 R)):=
 JX.retLOf z hz hL hol (by rw[hR];rfl) hL0 fun a w E hs=>⟨_,results_tmp2 hres _ _ _,by
  have e1:slotOf a t=A:=hs.k t _ h;have e2:slotOf a u=B:=hs.k u _ h';rw[hR];show Value.tuple _=Value.tuple _;rw[<-e1,<-e2];rfl⟩
section
variable{t:TypeId}
theorem Zmc(ρ:Operand->Value)(w:World):(execOp ρ ⟨dst,.makeMap t none,ty,pos,after,g⟩).run P w= .ok (.value (.map (some w.heap.size))) (w.alloc (.map #[] 0)):=by
 simp[execOp,Instr.makeMap]
theorem Zdu:BigOb P L Φ H ⟨dst,.makeMap t none,ty,pos,after,none⟩ (G:=Nat) (fun r=>.is (.map (some r))) (fun r=>⟨r,0,.ob (mObj [] 0)⟩::L):=fun E w ρ hp hnd=>by
 rw[Zmc];have hk:=Keeps.alloc w (.map #[] 0);have hev:Ev E w (fun b=>E b\/b=w.heap.size) (w.alloc (.map #[] 0)):=⟨hk.of_noX,fun b hb=>⟨fun h=>h.elim id (fun e=>absurd hb (by omega)),.inl⟩⟩;refine⟨w.heap.size,fun b=>E b\/b=w.heap.size,hk.of_noX,hev,?_,rfl,?_,?_,?_⟩
 · rintro b (hb|rfl)
   · rw[Z2t];have:=hp.wf b hb;omega
   · rw[Z2t];omega
 · intro m hm
   rcases List.mem_cons.1 hm with rfl|hm
   · exact ZgU (Z2i w _) (.inr rfl)
   · exact Own.keep0 (hp.l m hm) hev hk
 · rw[List.map_cons,List.nodup_cons]
   refine⟨fun h=>?_,hnd⟩;obtain⟨m,hm,e⟩:=List.mem_map.1 h;have h1:=hp.wf m.b (hp.l m hm).1;have e':m.b=w.heap.size:=e
   omega
 · intro m hm
   rcases List.mem_cons.1 hm with rfl|hm
   · exact .inr (Nat.le_refl _)
   · exact .inl (List.mem_map_of_mem hm)
end
theorem RI.retype{P:Program}{ops:Array Oper}{c:Ctx}{K:List (Nat×Ty)}{Lm Lk:List Own}{Φ:List (World->Prop)}{T T':Nat->Ty}{Mf:Nat->List Own}{Sf:Nat->Sd}{B1:Nat}{D:Array Bool}{E:Nat->Prop}{a:Act}{w:World}
  (h:RI P ops c K Lm Lk Φ T Mf Sf B1 D E a w)(hT: ∀(j:Nat) (oj:Oper),ops[j]? =some oj->D.getD j false=true->T j=T' j):RI P ops c K Lm Lk Φ T' Mf Sf B1 D E a w:=
 {h with t:=fun j o d hj hd hdd=>by rw[<-hT j o hj hd];exact h.t j o d hj hd hdd}
theorem J.regBg{id:Nat}{dr:Bool}{l1 l2 tail:List Oper}{op:Oper}{d0:Nat}{G:Type}(Tg:G->Ty)(Lg:G->List Own)(Lq:List Own)(hop:op.dst=some d0)(hg:op.guard=none)
   (hmx:P.follows .mixedOrders=true)(hok:(backOK (l1++op::l2++tail).toArray&&syncOK (l1++op::l2++tail).toArray (l1++op::l2).length&&regOK (l1++op::l2).toArray&&quietOK (l1++op::l2).toArray (l1++op::l2).length)=true)
   (hdn:((l1++op::l2).toArray.all fun o=>match o.dst with|some d=>decide (d<c.n)|none=>true)=true)
   (hq1: ∀o∈Lq,o∈L)(hq2: ∀g,∀o∈Lq,o∈Lg g)
   (haf:((List.range l2.length).all fun j=>befHas (Region.before (l1++op::l2).toArray) (l1.length+1+j) l1.length)=true)
   (h:RT P (l1++op::l2).toArray Lq Φ 0 l1 K [] [] (fun K1 _ _=>BigOb P L Φ (Kn K1) op Tg Lg/\ ∀g,RT P (l1++op::l2).toArray (Lg g) Φ (l1.length+1) l2 ((d0,Tg g)::K1) [] [] (fun K2 _ _=>JO P c K2 (Lg g) Φ (l1++op::l2++tail).toArray tail Q))):
   J P c K L Φ (.region id (l1++op::l2++tail).toArray dr) Q:=by
 refine⟨?_⟩;intro E a w hsa;simp only[Bool.and_eq_true]at hok;obtain⟨⟨⟨hbk,hsy⟩,hreg⟩,hqu⟩:=hok
 generalize hA:l1++op::l2=A at*
 have hlp:(A++tail).toArray.toList.take A.length=A:=by simp
 have hld:(A++tail).toArray.toList.drop A.length=tail:=by simp
 have hpA:A[l1.length]? =some op:=by rw[<-hA];simp
 have hAlen:A.length=l1.length+1+l2.length:=by rw[<-hA];simp;omega
 obtain⟨T1,Mf1,Sf1,kf1,hM1,hS1,hst1,hbig,hrt2⟩:=h.out;have hrt3:=fun g=>(hrt2 g).out
 let T2:G->Nat->Ty:=fun g=>Classical.choose (hrt3 g)
 have hrt4: ∀g,∃(Mf2:Nat->List Own) (Sf2:Nat->List (Nat×TypeId×Ty)) (kf2:Nat->Kind),Mf2 0=[]/\Sf2 0=[]/\
     (∀i o,l2[i]? =some o->St1 P A.toArray (Lg g) Φ (l1.length+1+i) o (kAt l2 (T2 g) ((d0,Tg g)::kAt l1 T1 K l1.length) i) (Mf2 i) (Sf2 i) (T2 g i) (Mf2 (i+1)) (Sf2 (i+1)) (kf2 i))/\JO P c (kAt l2 (T2 g) ((d0,Tg g)::kAt l1 T1 K l1.length) l2.length) (Lg g) Φ (A++tail).toArray tail Q:=fun g=>Classical.choose_spec (hrt3 g)
 have hbk':backOK A.toArray=true:=by unfold regOK at hreg;rw[Bool.and_eq_true]at hreg;exact hreg.1
 have hord':ordOK A.toArray=true:=by unfold regOK at hreg;rw[Bool.and_eq_true]at hreg;exact hreg.2
 let T:Nat->Ty:=fun j=>if j<l1.length then T1 j else .any
 let TG:G->Nat->Ty:=fun g j=>if j<l1.length then T1 j else if j=l1.length then Tg g else T2 g (j-(l1.length+1))
 have hKA1: ∀T':Nat->Ty,(∀j,j<l1.length->T' j=T1 j)->∀n,n<=l1.length->kAt A T' K n=kAt l1 T1 K n:=by
   intro T' hT' n
   induction n with
   |zero=>intro _;rfl
   |succ n ih=>
     intro hn;rw[kAt,kAt,ih (by omega),<-hA,List.getElem?_append_left (by omega),hT' n (by omega)]
 have hTG1: ∀g j,j<l1.length->TG g j=T1 j:=fun g j hj=>by simp[TG,hj]
 have hKA2: ∀g n,kAt A (TG g) K (l1.length+1+n)=kAt l2 (T2 g) ((d0,Tg g)::kAt l1 T1 K l1.length) n:=by
   intro g n
   induction n with
   |zero=>
     show putK ((A[l1.length]?).bind (·.dst)) (TG g l1.length) (kAt A (TG g) K l1.length)=_;rw[hKA1 _ (hTG1 g) _ (Nat.le_refl _),hpA,Option.bind_some,hop,show TG g l1.length=Tg g by simp[TG]]
     rfl
   |succ n ih=>
     show putK ((A[l1.length+1+n]?).bind (·.dst)) (TG g (l1.length+1+n)) (kAt A (TG g) K (l1.length+1+n))=putK ((l2[n]?).bind (·.dst)) (T2 g n) _;rw[ih]
     congr 1
     · congr 1
       rw[<-hA,List.getElem?_append_right (by omega),show l1.length+1+n-l1.length=n+1 by omega]
       rfl
     · simp[TG,show ¬l1.length+1+n<l1.length by omega,show l1.length+1+n≠l1.length by omega]
 have hquA: ∀(j:Nat) (oj:Oper),A[j]? =some oj->isAlloc oj=false/\ ∀t p x,oj.op≠ .store t p x:=by
   intro j oj hj;unfold quietOK at hqu;have h1:=List.all_eq_true.1 hqu oj (by simp;exact List.mem_of_getElem? hj);simp only[Bool.and_eq_true,Bool.not_eq_true']at h1;exact⟨h1.1,fun t p x e=>by rw[e]at h1;simp at h1⟩
 have hMS1: ∀j,j<=l1.length->Mf1 j=[]/\Sf1 j=[]:=by
   intro j
   induction j with
   |zero=>intro _;exact⟨hM1,hS1⟩
   |succ j ih=>
     intro hj;obtain⟨e1,e2⟩:=ih (by omega);have ho:l1[j]? =some l1[j]:=List.getElem?_eq_getElem (by omega);have h1:=hst1 j _ ho;rw[e1,e2]at h1;obtain⟨q1,q2⟩:=hquA j l1[j] (by rw[<-hA,List.getElem?_append_left (by omega)];exact ho);obtain⟨g1,g2,_⟩:=h1.quiet (L:=Lq) (K2:=kAt l1 T1 K j) (fun _ h=>h) (fun s U h=>.inr h) q1 q2;exact⟨g1,g2⟩
 have hst2: ∀g j o,l2[j]? =some o->∃kd,St1 P A.toArray (Lg g) Φ (l1.length+1+j) o (kAt l2 (T2 g) ((d0,Tg g)::kAt l1 T1 K l1.length) j) [] [] (T2 g j) [] [] kd:=by
   intro g;obtain⟨Mf2,Sf2,kf2,hM2,hS2,hs2,_⟩:=hrt4 g;have hMS2: ∀j,j<=l2.length->Mf2 j=[]/\Sf2 j=[]:=by
     intro j
     induction j with
     |zero=>intro _;exact⟨hM2,hS2⟩
     |succ j ih=>
       intro hj;obtain⟨e1,e2⟩:=ih (by omega);have ho:l2[j]? =some l2[j]:=List.getElem?_eq_getElem (by omega);have h1:=hs2 j _ ho;rw[e1,e2]at h1;obtain⟨q1,q2⟩:=hquA (l1.length+1+j) l2[j] (by rw[<-hA,List.getElem?_append_right (by omega),show l1.length+1+j-l1.length=j+1 by omega];exact ho);obtain⟨g1,g2,_⟩:=h1.quiet (L:=Lg g) (K2:=kAt l2 (T2 g) ((d0,Tg g)::kAt l1 T1 K l1.length) j) (fun _ h=>h) (fun s U h=>.inr h) q1 q2;exact⟨g1,g2⟩
   intro j o ho;have hj:j<l2.length:=(List.getElem?_eq_some_iff.1 ho).1;have h1:=hs2 j o ho;obtain⟨e1,e2⟩:=hMS2 j (by omega);rw[e1,e2]at h1;obtain⟨q1,q2⟩:=hquA (l1.length+1+j) o (by rw[<-hA,List.getElem?_append_right (by omega),show l1.length+1+j-l1.length=j+1 by omega];exact ho);exact(h1.quiet (L:=Lg g) (K2:=kAt l2 (T2 g) ((d0,Tg g)::kAt l1 T1 K l1.length) j) (fun _ h=>h) (fun s U h=>.inr h) q1 q2).2.2
 have hstA: ∀(L':List Own) (T':Nat->Ty),(∀m∈Lq,m∈L')->(∀j,j<l1.length->T' j=T1 j)->∀i o,A.toArray[i]? =some o->i<l1.length->∃kd,St1 P A.toArray L' Φ i o (kAt A.toArray.toList T' K i) [] [] (T' i) [] [] kd:=by
   intro L' T' hL' hT' i o hi hlt;have hi':A[i]? =some o:=by simpa using hi
   obtain⟨q1,q2⟩:=hquA i o hi';have ho:l1[i]? =some o:=by rw[<-hA,List.getElem?_append_left hlt]at hi';exact hi'
   have h1:=hst1 i o ho;obtain⟨e1,e2⟩:=hMS1 i (by omega);rw[e1,e2,Nat.zero_add,<-hKA1 T' hT' i (by omega),<-hT' i hlt]at h1;exact(h1.quiet hL' (fun s U h=>.inr h) q1 q2).2.2
 have hstB: ∀g i o,A.toArray[i]? =some o->l1.length<i->∃kd,St1 P A.toArray (Lg g) Φ i o (kAt A.toArray.toList (TG g) K i) [] [] (TG g i) [] [] kd:=by
   intro g i o hi hge;have hi':A[i]? =some o:=by simpa using hi
   have ho:l2[i-(l1.length+1)]? =some o:=by
     rw[<-hA,List.getElem?_append_right (by omega)]at hi';rw[show i-l1.length=(i-(l1.length+1))+1 by omega]at hi'
     simpa using hi'
   have h1:=hst2 g _ o ho;rw[<-hKA2,show l1.length+1+(i-(l1.length+1))=i by omega]at h1;have hTi:TG g i=T2 g (i-(l1.length+1)):=by simp[TG,show ¬i<l1.length by omega,show ¬i=l1.length by omega]
   rw[hTi];exact h1
 have hafter: ∀j,l1.length<j->j<A.length->befHas (Region.before A.toArray) j l1.length=true:=fun j h1 h2=>by
   have:=List.all_eq_true.1 haf (j-(l1.length+1)) (List.mem_range.2 (by omega));rw[show l1.length+1+(j-(l1.length+1))=j by omega]at this;exact this
 have hnn: ∀(i:Nat) (o:Oper) (d:Nat),A.toArray[i]? =some o->o.dst=some d->d<c.n:=by
   intro i o d hi hd;have:=Array.all_eq_true_iff_forall_mem.1 hdn o (Array.mem_of_getElem? hi);rw[hd]at this
   simpa using this
 have hnal: ∀(j:Nat) (oj:Oper) (t:TypeId),A.toArray[j]? =some oj->oj.op≠ .alloc t:=by
   intro j oj t hj e;have:=(hquA j oj (by simpa using hj)).1
   simp[isAlloc,e]at this
 have hpA':A.toArray[l1.length]? =some op:=by simpa using hpA
 refine Z48 (Q:=Q) A.length hmx hbk hsy (fun D a w'=>(D.getD l1.length false=false/\ ∃E,RI P A.toArray c K [] L Φ T (fun _=>[]) (fun _=>[]) w.heap.size D E a w')\/
     (D.getD l1.length false=true/\ ∃(g:G) (B:Nat) (E:Nat->Prop),Stat0 A.toArray c [] (Lg g) (fun _=>[]) (fun _=>[]) B/\RI P A.toArray c K [] (Lg g) Φ (TG g) (fun _=>[]) (fun _=>[]) B D E a w')) ?_ ?_ ?_
 · intro w' hw'
   have hs':SA c K L Φ E a w':=by
     rcases hw' with rfl|rfl
     · exact hsa
     · exact hsa.drew
   have hno: ∀(n j:Nat),(Array.replicate n false).getD j false=false:=by
     intro n j;rw[Array.getD_eq_getD_getElem?,Array.getElem?_replicate]
     split<;>simp
   refine .inl ⟨hno _ _,E,hs'.n,hs'.d,hs'.wf,fun j hj=>absurd hj (by rw[hno];simp),fun s T' hs _=>hs'.k s T' hs,fun j o d _ hj=>absurd hj (by rw[hno];simp),hs'.l,hs'.f,fun _ _ _=>⟨(fun _ h=>by cases h),(fun _ h=>by cases h)⟩,fun j oj d t hj hop=>absurd hop (hnal j oj t hj),fun j1 _ o1 _ _ _ t1 _ _ h1 _ p1=>absurd p1 (hnal j1 o1 t1 h1),hs'.x,hs'.keeps,?_⟩;rcases hw' with rfl|rfl<;>exact Nat.le_refl _
 · rw[hlp,hld]
   rintro D a' w' i o hs hI hi hd hr;have hi':i<A.toArray.size:=(Array.getElem?_eq_some_iff.1 hi).1;have hdf:D.getD i false=false:=by
     have hlt:i<D.size:=by omega
     simp only[Array.getD_eq_getD_getElem?,Array.getElem?_eq_getElem hlt,Option.getD_some]at hd ⊢;exact hd
   have hsize: ∀j,(D.setIfInBounds i true).getD j false=true↔j=i\/D.getD j false=true:=fun j=>Z2L (by omega);have keepP:i≠l1.length->(D.setIfInBounds i true).getD l1.length false=D.getD l1.length false:=by
     intro hne;cases hq:D.getD l1.length false with
     |true=>exact(hsize _).2 (.inr hq)
     |false=>
       cases hq':(D.setIfInBounds i true).getD l1.length false with
       |false=>rfl
       |true=>
         rcases(hsize _).1 hq' with e|e
         · exact absurd e.symm hne
         · rw[hq]at e;cases e
   have quietAll: ∀(i:Nat) (o:Oper),A.toArray[i]? =some o->isLoud o=false->(fun _=>([]:List Own)) (i+1)=(fun _=>([]:List Own)) i/\(fun _=>([]:Sd)) (i+1)=(fun _=>([]:Sd)) i:=fun _ _ _ _=>⟨rfl,rfl⟩;rcases hI with⟨hp,E',hI⟩|⟨hp,g,B,E',hS,hI⟩
   · have hS0:Stat0 A.toArray c [] L (fun _=>[]) (fun _=>[]) w.heap.size:=⟨fun _ _=>rfl,fun _ _=>List.nodup_nil,hsa.ld,fun m hm=>Z1d (hsa.l m hm).2.choose_spec.1,hsa.may,hnn,hsa.keeps.size⟩
     by_cases hip:i=l1.length
     · subst hip
       rw[hpA']at hi;injection hi with hi
       subst hi;have hpre:=hI.pre hbk' hord' hpA' hdf hr;have hKeq:kAt A.toArray.toList T K l1.length=kAt l1 T1 K l1.length:=hKA1 T (fun j hj=>by simp[T,hj]) _ (Nat.le_refl _);rw[hKeq]at hpre;have hrun:=hbig E' w' a'.eval hpre hsa.ld;unfold wpOp;rw[hpA'];simp only;rw[if_pos (by simp[Region.wanted,hg])];refine .inl ?_;unfold Oper.wp;refine Runs.upon hrun fun v w'' ⟨g,E'',hk,hev,hwf,hT,hl,hnd,hmay⟩=>.inr ⟨(hsize _).2 (.inl rfl),g,w''.heap.size,E'',?_,?_⟩
       · refine⟨fun _ _=>rfl,fun _ _=>List.nodup_nil,hnd,fun m hm=>Z1d (hl m hm).2.choose_spec.1,fun m hm=>?_,hnn,?_⟩
         · rcases hmay m hm with h1|h1
           · obtain⟨m',hm',e⟩:=List.mem_map.1 h1
             rw[<-e];exact hsa.may m' hm'
           · have:=hI.keeps.size
             exact .inr (by omega)
         · exact Nat.le_trans hI.keeps.size hk.size
       · refine RI.retype (hI.big hs hord' hpA' hdf hr hnal (fun d hd=>hnn _ _ d hpA' hd) hk hev hwf hT hl hsa.may) fun j oj hoj hdone=>?_
         rcases(hsize j).1 hdone with rfl|hdone
         · simp[TG]
         · rcases Nat.lt_trichotomy j l1.length with h1|h1|h1
           · simp[TG,T,h1,Nat.ne_of_lt h1]
           · rw[h1]at hdone;rw[hdone]at hdf;cases hdf
           · have hjA:j<A.length:=by simpa using (Array.getElem?_eq_some_iff.1 hoj).1
             have:=Z2j hbk' hI.cl j l1.length (hI.cl j hdone) (hafter j h1 hjA);rw[this]at hdf;cases hdf
     · refine wpOp_mono (fun a'' w'' hI'=>.inl ⟨by rw[keepP hip];exact hp,hI'⟩) (hI.step1 hS0 quietAll hbk' hord' hs hi hd hr (hstA L T hq1 (fun j hj=>by simp[T,hj]) i o hi (by
         rcases Nat.lt_or_ge i l1.length with h1|h1
         · exact h1
         · have:=Z2j hbk' hI.cl i l1.length hr (hafter i (by omega) (by simpa using hi'))
           rw[this]at hp;cases hp)))
   · have hip:i≠l1.length:=fun e=>by subst e;rw[hdf]at hp;cases hp
     refine wpOp_mono (fun a'' w'' hI'=>.inr ⟨by rw[keepP hip];exact hp,g,B,?_⟩) (hI.step1 hS quietAll hbk' hord' hs hi hd hr (by
       rcases Nat.lt_or_ge i l1.length with h1|h1
       · exact hstA (Lg g) (TG g) (hq2 g) (hTG1 g) i o hi h1
       · exact hstB g i o hi (by omega)))
     obtain⟨E'',hI'⟩:=hI';exact⟨E'',hS,hI'⟩
 · rw[hlp,hld]
   rintro D a' w' hs hall hI;have hpd:D.getD l1.length false=true:=hall _ (by simp;omega);rcases hI with⟨hp,_⟩|⟨_,g,B,E',hS,hI⟩
   · rw[hpd]at hp;cases hp
   · have hlen:A.length=A.toArray.size:=by simp
     obtain⟨_,_,_,_,_,_,hfin⟩:=hrt4 g;refine hfin.out E' a' w' ⟨hI.n,hI.d,hI.wf,?_,hI.l,hS.nd,hI.f,hI.x,hsa.xs,hI.keeps,hS.may⟩;intro s T' hl;rw[<-hKA2 g l2.length,<-hAlen]at hl;have hl':look (kAt A.toArray.toList (TG g) K A.toArray.size) s=some T':=by simpa using hl
     rcases Z5x s A.toArray.size (Nat.le_refl _) T' hl' with⟨j,oj,hj,hoj,hdj,rfl⟩|⟨hn,hk⟩
     · exact hI.t j oj s hoj (hall j (by simpa using hj)) hdj
     · exact hI.k s T' hk fun j oj hoj _=>hn j oj (Array.getElem?_eq_some_iff.1 hoj).1 hoj
theorem J.regBgm{id:Nat}{dr:Bool}{l:List Oper}(p m:Nat){op:Oper}{d0:Nat}{G:Type}(Tg:G->Ty)(Lg:G->List Own)(Lq:List Own)(hp:l[p]? =some op)(hpm:Nat.blt p m=true)(hop:op.dst=some d0)(hg:op.guard=none)
   (hmx:P.follows .mixedOrders=true)(hok:(backOK l.toArray&&syncOK l.toArray m&&regOK (l.take m).toArray&&quietOK (l.take m).toArray m)=true)(hml:(l.take m).length=m)
   (hdn:((l.take m).toArray.all fun o=>match o.dst with|some d=>decide (d<c.n)|none=>true)=true)
   (hq1: ∀o∈Lq,o∈L)(hq2: ∀g,∀o∈Lq,o∈Lg g)
   (haf:((List.range ((l.drop (p+1)).take (m-(p+1))).length).all fun j=>befHas (Region.before (l.take m).toArray) ((l.take p).length+1+j) (l.take p).length)=true)
   (h:RT P (l.take m).toArray Lq Φ 0 (l.take p) K [] [] (fun K1 _ _=>BigOb P L Φ (Kn K1) op Tg Lg/\ ∀g,RT P (l.take m).toArray (Lg g) Φ ((l.take p).length+1) ((l.drop (p+1)).take (m-(p+1))) ((d0,Tg g)::K1) [] [] (fun K2 _ _=>JO P c K2 (Lg g) Φ l.toArray (l.drop m) Q))):
   J P c K L Φ (.region id l.toArray dr) Q:=by
 have hc:=ZeQ hp (Nat.le_of_ble_eq_true hpm);have key:=J.regBg (P:=P) (c:=c) (K:=K) (L:=L) (Φ:=Φ) (Q:=Q) (id:=id) (dr:=dr) (l1:=l.take p) (l2:=(l.drop (p+1)).take (m-(p+1))) (tail:=l.drop m) (op:=op) (d0:=d0) Tg Lg Lq hop hg hmx;rw[hc,hml,List.take_append_drop]at key;exact key hok hdn hq1 hq2 haf h
theorem RT.bigg{ops:Array Oper}{op:Oper}{l2:List Oper}{i:Nat}{d0:Nat}{G:Type}{Tg:G->Ty}{Lg:G->List Own}{k:G->List (Nat×Ty)->List Own->Sd->Prop}
 (h:BigOb P L Φ (Kn K) op Tg Lg)(n: ∀g,RT P ops (Lg g) Φ i l2 ((d0,Tg g)::K) [] [] (k g)):
 RT P ops Lq Φ i [] K [] [] (fun K1 _ _=>BigOb P L Φ (Kn K1) op Tg Lg/\ ∀g,RT P ops (Lg g) Φ i l2 ((d0,Tg g)::K1) [] [] (k g)):=⟨h,n⟩
theorem ZbL{α:Type}{en:α->List Value}{sz:Nat}{xs:List α}{st:Option (Nat×List Value)}{cap:Nat}(h:Grows en sz xs st cap)(hne:0<xs.length): ∃b cs,st=some (b,cs):=by
 cases st with
 |none=>rw[show xs=[]from h]at hne;exact absurd hne (by simp)
 |some p=>exact⟨p.1,p.2,rfl⟩
section
variable{V:Value}
end
theorem JX.retLC{s b m:Nat}{t ety:TypeId}{cs:Array Value}(hres:fn.results= #[.cell s t])(z:Z)(hz:Zp z)(hL:L.Perm (L1 z++Lr))(hol:(L1 z).all (fun o=>o.T.out)=true)(hL0: ∀b,b∈L0.map (·.b)->X b)(h:look K s=some (.is (.pointer (some ⟨b,0,none⟩))))(hs':szOf P t=some (some m))(hm:⟨b,ety,.is (.agg cs)⟩∈L)(hn:cs.size=m)(hR:R z= .is (.agg cs)):
   JX ⟨n,X,fun q=>q∈L0.map (·.b),W,[]⟩ K L Φ .ret (bodyPost P fn (PostL X W L0 Zp L1 R)):=
 JX.retLOf z hz hL hol (by rw[hR];rfl) hL0 fun a w E hs=>by
   obtain⟨v,h1,h2⟩:=Z4L (P:=P) hs' (hs.l _ hm) (Z1o hn);have e:a.tmps.getD s undef= .pointer (some ⟨b,0,none⟩):=hs.k s _ h;rw[Array.getD_eq_getD_getElem?]at e;rw[hR];exact⟨v,by simp[results,hres,Array.getD_eq_getD_getElem?,e,asAddr,h1],h2⟩
section
variable{α:Type}{en:α->List Value}{sz:Nat}
theorem JO.apSL{L':List Own}{d:Nat}{ops:Array Oper}{rest:List Oper}{ty t tx e:TypeId}{pos:String}{after:Array Edge}{s x:Operand}{bytes cap:Nat}{xs:List α}(ys:List α){p:Nat×List Value}{TX:Ty}{C:Option (Nat×List Value)->List Own}
   (hT:ApTy P t e sz bytes)(hC:Cx e L (some p) C L')(hG:Grows en sz xs (some p) cap)(h0:opTy K s=some (.is (sliceO (some p) xs.length cap)))(hx:opTy K x=some TX)(hS:SrcOf P (⟨p.1,e,.is (.agg p.2.toArray)⟩::L') Φ sz tx TX ys.length (ys.flatMap en))(hfit:(xs.length+ys.length)*bytes<=140737488355328)(h63:xs.length+ys.length<=9223372036854775807)(hd:Nat.blt d c.n=true)
   (hn: ∀(p':Nat×List Value) (cap':Nat),Grows en sz (xs++ys) (some p') cap'->JO P c ((d,.is (sliceO (some p') (xs++ys).length cap'))::K) (C (some p')) Φ ops rest Q):
   JO P c K L Φ ops (⟨some d,.call {callee:=.builtin .append,args:= #[s,x],argTypes:= #[t,tx]},ty,pos,after,none⟩::rest) Q:=by
 refine JO.subL hC.tl.perm ?_;obtain⟨b,cs⟩:=p;obtain⟨h1,h2,h3⟩:=hG;refine JO.ap hT h0 hx hS h1 h2 hfit h63 hd fun b' cap' cs' k1 k2 k3=>?_;have:=hn (b',cs') cap' ⟨k1,by rw[List.length_append];exact k2,by rw[List.length_append,k3,h3,List.flatMap_append]⟩;have h4:=JO.subL (hC.back (some (b',cs'))) this
 simpa [sliceO,ownO] using h4
theorem JO.apN{d:Nat}{ops:Array Oper}{rest:List Oper}{ty t tx e:TypeId}{pos:String}{after:Array Edge}{s x:Operand}{bytes:Nat}(ys:List α){TX:Ty}
   (hT:ApTy P t e sz bytes)(h0:opTy K s=some (.is (.slice none 0 0)))(hx:opTy K x=some TX)(hS:SrcOf P L Φ sz tx TX ys.length (ys.flatMap en))(hfit:ys.length*bytes<=140737488355328)(h63:ys.length<=9223372036854775807)(hd:Nat.blt d c.n=true)
   (hn: ∀(st:Option (Nat×List Value)) (cap:Nat),Grows en sz ys st cap->JO P c ((d,.is (sliceO st ys.length cap))::K) (ownO st e L) Φ ops rest Q):
   JO P c K L Φ ops (⟨some d,.call {callee:=.builtin .append,args:= #[s,x],argTypes:= #[t,tx]},ty,pos,after,none⟩::rest) Q:=by
 by_cases hy:ys=[]
 · subst hy
   refine⟨?_⟩;intro E a w hs;refine wpList_plain rfl fun K' hK=>?_;have e1:a.eval s= .slice none 0 0:=Z2c hs h0;have e2:=hS E w (a.eval x) hs.l hs.f (Z2c hs hx);unfold Oper.wp;obtain⟨i,z,hi,hz,hzs,rfl,rfl⟩:=hT.get;have hr:=Z6A (P:=P) (ty:=ty) (a:=none) hT.ht hi e2;have hrun:(execOp a.eval ⟨some d,.call {callee:=.builtin .append,args:= #[s,x],argTypes:= #[t,tx]},ty,pos,after,none⟩).run P w= .ok (.value (.slice none 0 0)) w:=by
     simp[execOp,resolve,invoke,builtin,e1,hr]
   rw[hrun];have hs':SA c ((d,.is (.slice none 0 0))::K) L Φ E (a.put (some d) (.slice none 0 0)) w:=hs.put (dst:=some d) (T:=.is (.slice none 0 0)) (Ev.of_keeps (.refl _ _)) hs.wf rfl (fun d' e=>by injection e with e;subst e;exact Nat.le_of_ble_eq_true hd) hs.l hs.ld hs.keeps hs.may;exact hK _ _ ((hn none 0 rfl).out E _ _ hs')
 · refine JO.ap0 hT h0 (fun E v w h=>⟨none,h⟩) hx hS hfit h63 hd (fun h=>absurd (List.length_eq_zero_iff.1 h) hy) (fun _ b' cap' cs' h1 h2 h3=>?_)
   exact hn (some (b',cs')) cap' ⟨h1,h2,h3⟩
end
theorem Z3x{dst:Option Nat}{ty:TypeId}{pos:String}{after:Array Edge}{g:Option (Nat×Bool)}{xs:List Operand}{ats:Array TypeId}(hf:H (.func f) (.is (.func (.func f) #[] #[])))(hc:CallL P f L0 Φ0 As Zp L1 R)(hL:L.Perm (L0++Lr))(hΦ: ∀F∈Φ0,F∈Φ)(ha:Args L Φ H xs As):
   BigOb P L Φ H ⟨dst,.call {callee:=.value (.func f),args:=xs.toArray,argTypes:=ats},ty,pos,after,g⟩ (G:={z:Z // Zp z}) (fun g=>R g.1) (fun g=>L1 g.1++Lr):=fun E w ρ hp hnd0=>by
 have h1:ρ (.func f)= .func (.func f) #[] #[]:=hp.x (.func f) (.is (.func (.func f) #[] #[])) (by simp[Op.operands,Call.operands]) hf;have hall:=ha.all (ρ:=ρ) (Z2B hp) fun x T hx=>hp.x x T (by simp[Op.operands,Call.operands,hx]);have hnd:((L0++Lr).map (·.b)).Nodup:=((hL.map _).nodup_iff).1 hnd0;rw[List.map_append,List.nodup_append]at hnd;have hin: ∀o∈L0,o∈L:=fun o ho=>hL.mem_iff.2 (List.mem_append_left _ ho);have hir: ∀o∈Lr,o∈L:=fun o ho=>hL.mem_iff.2 (List.mem_append_right _ ho);have h3:=Zar hc hΦ hp.wf hp.f hall (fun m hm=>hp.l m (hin m hm)) hnd.1;simp only[execOp,resolve,h1,Deferred.ofValue,invoke,Sem.run_bind,Sem.run_pure,Result.andThen_ok,List.map_toArray];refine Runs.mono (by simpa using h3) ?_;rintro v w' ⟨z,E',he⟩;have hsub: ∀b,b∈L0.map (·.b)->E b:=fun b hb=>by obtain⟨m,hm,rfl⟩:=List.mem_map.1 hb;exact(hp.l m (hin m hm)).1
 have hev:Ev E w E' w':=⟨he.k.mono (fun b _=>hsub b),he.same⟩;refine⟨⟨z,he.zp⟩,E',he.k.mono (fun b _ hb=>?_),hev,he.wf,he.r,?_,?_,?_⟩
 · obtain⟨m,hm,rfl⟩:=List.mem_map.1 hb
   exact List.mem_map_of_mem (hin m hm)
 · intro o ho
   rcases List.mem_append.1 ho with ho|ho
   · exact he.l o ho
   · have h1:=hp.l o (hir o ho)
     exact Own.keep h1 hev (he.k.blk _ (hp.wf _ h1.1) fun hm=>hnd.2.2 _ hm _ (List.mem_map_of_mem ho) rfl)
 · rw[List.map_append,List.nodup_append]
   refine⟨he.nd,hnd.2.1,fun b hb b' hb' e=>?_⟩;subst e;obtain⟨m,hm,rfl⟩:=List.mem_map.1 hb;obtain⟨m',hm',e'⟩:=List.mem_map.1 hb';rcases he.inn m hm with h1|h1
   · exact hnd.2.2 _ h1 _ hb' rfl
   · have:=hp.wf m'.b (hp.l m' (hir m' hm')).1
     have e2:m'.b=m.b:=e'
     omega
 · intro o ho
   rcases List.mem_append.1 ho with ho|ho
   · rcases he.inn o ho with h1|h1
     · obtain⟨m,hm,e⟩:=List.mem_map.1 h1
       exact .inl (List.mem_map.2 ⟨m,hin m hm,e⟩)
     · exact .inr h1
   · exact .inl (List.mem_map_of_mem (hir o ho))
theorem JO.gd{ops:Array Oper}{o:Oper}{rest:List Oper}{g s:Nat}{b:Bool}(hg:o.guard=some (g,b))(hs:((ops[g]?).bind (·.dst))=some s)(hk:look K s=some (.is (.bool b)))(h:JO P c K L Φ ops ({o with guard:=none}::rest) Q):JO P c K L Φ ops (o::rest) Q:=by
 refine⟨fun E a w ha=>?_⟩;have h1:=h.out E a w ha;have h2:slotOf a s= .bool b:=ha.k s _ hk;have h3:=Z6C hg hs h2;unfold wpList at h1 ⊢;rw[h3];have h4:Region.wanted ({o with guard:=none}:Oper) (yielded ops a.tmps)=true:=rfl;rw[h4]at h1;simp only[beq_self_eq_true,if_true]at h1 ⊢;exact h1
theorem JO.gn{ops:Array Oper}{o:Oper}{rest:List Oper}{g s d:Nat}{b:Bool}(hg:o.guard=some (g,b))(hs:((ops[g]?).bind (·.dst))=some s)(hk:look K s=some (.is (.bool (!b))))(hd0:o.dst=some d)(hd:Nat.blt d c.n=true)(h:JO P c ((d,.is undef)::K) L Φ ops rest Q):JO P c K L Φ ops (o::rest) Q:=by
 refine⟨fun E a w ha=>?_⟩;have h2:slotOf a s= .bool (!b):=ha.k s _ hk;have h3:=Z6C hg hs h2;unfold wpList;rw[h3,if_neg (by cases b<;>simp)];refine h.out E _ _ ?_;rw[hd0];exact ha.put (dst:=some d) (T:=.is undef) (Ev.refl _ _) ha.wf rfl (fun d' e=>by injection e with e;subst e;exact Nat.blt_eq.mp hd) ha.l ha.ld ha.keeps ha.may
section
variable{Φ1:List (World->Prop)}{Z':Type}{Zp':Z'->Prop}{L1':Z'->List Own}{R':Z'->Ty}
theorem CallTy.toL{T:Ty}(h:CallTy P f As T)(z0:Z)(hz:Zp z0)(hL:L1 z0=L0)(hR: ∀E v w,T.p E v w->(R z0).p E v w):CallL P f L0 Φ0 As Zp L1 R:=
 ⟨h.enter,fun E w vs hw hM hnd hΦ ht=>Calls.mono (h.calls E w vs hw ht) (by
  rintro e w' ⟨v,rfl,hk,hT⟩;have hev:Ev E w E w':=Ev.of_keeps hk.of_noX;refine⟨v,z0,E,rfl,hz,hk.of_noX,fun _ _=>Iff.rfl,fun b hb=>Nat.lt_of_lt_of_le (hw b hb) hk.size,?_,?_,?_,hR _ _ _ hT⟩
  · rw[hL];exact fun o ho=>Own.keep0 (hM o ho) hev hk
  · rw[hL];exact hnd
  · rw[hL];exact fun o ho=>.inl (List.mem_map_of_mem ho))⟩
end
theorem JO.callK{ops:Array Oper}{rest:List Oper}{d:Nat}{ty:TypeId}{pos:String}{after:Array Edge}{xs:List Operand}{ats:Array TypeId}(hc:CallL P f L0 Φ0 As Zp L1 R)(hd:Nat.blt d c.n=true)(hL:L.Perm (L0++Lr))(hΦ: ∀F∈Φ0,F∈Φ)(ha:Args L Φ (Kn K) xs As)
  (hn: ∀z,Zp z->JO P c ((d,R z)::K) (L1 z++Lr) Φ ops rest Q):JO P c K L Φ ops (⟨some d,.call {callee:=.value (.func f),args:=xs.toArray,argTypes:=ats},ty,pos,after,none⟩::rest) Q:=
 JO.callL hc (fun d' e=>by injection e with e;subst e;exact Nat.blt_eq.mp hd) hL hΦ ha hn
theorem Z3j: ∀F∈([]:List (World->Prop)),F∈Φ:=fun _ h=>by cases h
theorem Z7c{F:World->Prop}(h:F∈Φ): ∀G∈[F],G∈Φ:=fun G hG=>by rw[List.mem_singleton.1 hG];exact h
theorem Z3q(L:List Own):L.Perm ([]++L):=.of_eq (List.nil_append L).symm
section
variable{L0' F:List Own}{L1':Z->List Own}
end
theorem J.loopH{α:Type}{body:Code}(Kf:α->List (Nat×Ty))(Lf:α->List Own)(Ff:α->World->Prop)(inv:α->Prop)(μ:α->Nat)(x0:α)(ss:List Nat)(h0:Sel K ss (Kf x0))(hL:Lf x0=L)(hF: ∀E w,(∀G∈Φ,Pers E w G)->Pers E w (Ff x0))(hi:inv x0)
  (h: ∀x,inv x->J P c (Kf x) (Lf x) (Ff x::Φ) body (Exit.then (fun a w=>∃x',inv x'/\μ x'<μ x/\ ∃E,SA c (Kf x') (Lf x') (Ff x'::Φ) E a w) Q)):J P c K L Φ (.loop body) Q:=
 J.sel ss h0 (J.fact (Ff x0) (fun E w hG _=>hF E w hG) (J.loop Kf Lf (fun x=>Ff x::Φ) inv μ x0 ⟨rfl,hL,rfl⟩ hi h))
theorem ZdR{x:Operand}{o:Oper}{T T' U:Ty}(hx:H x T)(hmem:x∈o.op.operands)(hS:Sub L Φ T T')(h:Ob P L Φ (fun y V=>H y V\/(y=x/\V=T')) o U):Ob P L Φ H o U:=fun E w ρ hp=>
 h E w ρ ⟨hp.wf,hp.l,hp.f,fun y V hy hV=>by
  rcases hV with hV|⟨rfl,rfl⟩
  · exact hp.x y V hy hV
  · exact hS E _ w (Z2B hp) (hp.x _ _ hmem hx)⟩
theorem J.cutZN{Z:Type}(Kf:Z->List (Nat×Ty))(Lf:Z->List Own)(inv:Z->Prop){x y:Code}(h:J P c K L Φ x (Exit.then (fun a w=>∃z,inv z/\ ∃E,SA c (Kf z) (Lf z) Φ E a w) Q))(hy: ∀z,inv z->J P c (Kf z) (Lf z) Φ y Q):J P c K L Φ x (Exit.then (y.wp P Q) Q):=
 ⟨fun E a w hs=>wp_mono (h.out E a w hs) fun e a w hq=>by
   cases e with
   |normal=>
     obtain⟨z,hz,E,hs⟩:=hq;exact(hy z hz).out E a w hs
   |_=>exact hq⟩
theorem JX.midZ{Z:Type}{Kf:Z->List (Nat×Ty)}{Lf:Z->List Own}{inv:Z->Prop}{Φ':List (World->Prop)}(z:Z)(hi:inv z)(ss:List Nat)(hK:Sel K ss (Kf z))(hL:Has L (Lf z))(hΦ: ∀G∈Φ',G∈Φ):
  JX c K L Φ .normal (Exit.then (fun a w=>∃z,inv z/\ ∃E,SA c (Kf z) (Lf z) Φ' E a w) Q):=
 ⟨fun E a w hs=>⟨z,hi,E,hs.sub hK.look hL.mem (hL.nodup hs.ld) hΦ⟩⟩
section
variable{Z':Type}{Zp':Z'->Prop}{L1':Z'->List Own}{R':Z'->Ty}
end
theorem J.subP{P:Program}{c:Ctx}{K:List (Nat×Ty)}{L L':List Own}{Φ:List (World->Prop)}{Q:Exit->Act->World->Prop}{x:Code}(hp:L'.Perm L)(h:J P c K L' Φ x Q):J P c K L Φ x Q:=
 ⟨fun E a w hs=>h.out E a w (hs.sub (fun _ _=>id) (fun o ho=>hp.mem_iff.1 ho) (((hp.map _).nodup_iff).2 hs.ld) (fun _=>id))⟩
def PostP{Z:Type}(X:Nat->Prop)(W:World)(L0:List Own)(Bad:Prop)(ch:List PanicEntry)(Zp:Z->Prop)(L1:Z->List Own)(R:Z->Ty):Ending->World->Prop:=
 fun e w'=>PostL X W L0 Zp L1 R e w'\/(e= .panicked ch/\Bad/\Keeps (fun q=>q∈L0.map (·.b)) W w')
structure CallP (P:Program) (f:FuncId) {Z:Type} (L0:List Own) (Φ0:List (World->Prop)) (As:List Ty) (Bad:Prop) (ch:List PanicEntry) (Zp:Z->Prop) (L1:Z->List Own) (R:Z->Ty):Prop where
 enter: ∀args w,(callFunc f args).run P w= .ok (.enter f args) w
 calls: ∀(E:Nat->Prop) (w:World) (vs:List Value),(∀b,E b->b<w.heap.size)->(∀o∈L0,o.at E w)->(L0.map (·.b)).Nodup->(∀F∈Φ0,Pers E w F)->TyAll E w As vs->
   Calls P f vs.toArray w (PostP E w L0 Bad ch Zp L1 R)
def RunsP(P:Program)(r:Result Next)(Bad:World->Prop)(ch:List PanicEntry)(R:Value->World->Prop):Prop:=
 match r with
 | .ok (.enter f args) w'=>Calls P f args w' fun
     | .returned v,w''=>R v w''
     | .panicked chain,w''=>chain=ch/\Bad w''
     | .outgrown,_=>False
 |_=>False
theorem JO.stepP{ops:Array Oper}{o:Oper}{rest:List Oper}(hg:o.guard=none)(hd: ∀d,o.dst=some d->d<c.n)(hL:L.Perm (L0++Lr))
   (h: ∀E w ρ,Pre L Φ (Kn K) o E w ρ->(L0.map (·.b)).Nodup->RunsP P ((execOp ρ o).run P w) (fun w'=>Bad/\Keeps (fun q=>q∈L0.map (·.b)) w w') ch fun v w'=>∃z E',EndL L0 Zp L1 R E w z E' v w')
   (hp:Bad->JX c K Lr Φ (.panic ch) Q)
   (hn: ∀z,Zp z->JO P c (putK o.dst (R z) K) (L1 z++Lr) Φ ops rest Q):JO P c K L Φ ops (o::rest) Q:=by
 refine⟨?_⟩;intro E a w hs;refine wpList_plain hg fun K' hK=>?_;unfold Oper.wp;have hnd:((L0++Lr).map (·.b)).Nodup:=((hL.map _).nodup_iff).1 hs.ld;rw[List.map_append,List.nodup_append]at hnd;have h0:=h E w a.eval ⟨hs.wf,hs.l,hs.f,fun x T' _ hx=>Z2c hs hx⟩ hnd.1;have hin: ∀o∈L0,o∈L:=fun o ho=>hL.mem_iff.2 (List.mem_append_left _ ho);have hir: ∀o∈Lr,o∈L:=fun o ho=>hL.mem_iff.2 (List.mem_append_right _ ho);have hsub: ∀b,b∈L0.map (·.b)->E b:=fun b hb=>by obtain⟨m,hm,rfl⟩:=List.mem_map.1 hb;exact(hs.l m (hin m hm)).1
 have hmay: ∀b,b∈L0.map (·.b)->c.X0 b\/c.W0.heap.size<=b:=fun b hb=>by obtain⟨m,hm,rfl⟩:=List.mem_map.1 hb;exact hs.may m (hin m hm)
 generalize (execOp a.eval o).run P w=r at h0 ⊢
 unfold RunsP at h0
 split at h0
 · rename_i f' args w1
   rw[Oper.upon_enter];refine Calls.mono h0 ?_;intro e w' he;cases e with
   |returned v=>
     obtain⟨z,E',he⟩:=he;refine hK _ _ ((hn z he.zp).out E' _ _ ?_);have hev:Ev E w E' w':=⟨he.k.mono (fun b _=>hsub b),he.same⟩;refine hs.put hev he.wf he.r hd ?_ ?_ (hs.keeps.step he.k hmay) ?_
     · intro o ho
       rcases List.mem_append.1 ho with ho|ho
       · exact he.l o ho
       · have h1:=hs.l o (hir o ho)
         exact Own.keep h1 hev (he.k.blk _ (hs.wf _ h1.1) fun hm=>hnd.2.2 _ hm _ (List.mem_map_of_mem ho) rfl)
     · rw[List.map_append,List.nodup_append]
       refine⟨he.nd,hnd.2.1,fun b hb b' hb' e=>?_⟩;subst e;obtain⟨m,hm,rfl⟩:=List.mem_map.1 hb;obtain⟨m',hm',e'⟩:=List.mem_map.1 hb';rcases he.inn m hm with h1|h1
       · exact hnd.2.2 _ h1 _ hb' rfl
       · have:=hs.wf m'.b (hs.l m' (hir m' hm')).1
         have e2:m'.b=m.b:=e'
         omega
     · intro o ho
       rcases List.mem_append.1 ho with ho|ho
       · rcases he.inn o ho with h1|h1
         · exact hmay _ h1
         · exact .inr (Nat.le_trans hs.keeps.size h1)
       · exact hs.may o (hir o ho)
   |panicked chain=>
     obtain⟨rfl,hb,hk⟩:=he;have hev:Ev E w E w':=Ev.of_keeps (hk.mono fun b _=>hsub b);refine(hp hb).out E a w' ⟨hs.n,hs.d,fun b hb=>Nat.lt_of_lt_of_le (hs.wf b hb) hk.size,fun s T hl=>Ty.mono hev (hs.k s T hl),fun o ho=>?_,hnd.2.1,fun F hF=>(hs.f F hF).ev hev,hs.x,hs.xs,hs.keeps.step hk hmay,fun o ho=>hs.may o (hir o ho)⟩;have h1:=hs.l o (hir o ho);exact Own.keep h1 hev (hk.blk _ (hs.wf _ h1.1) fun hm=>hnd.2.2 _ hm _ (List.mem_map_of_mem ho) rfl)
   |outgrown=>exact he.elim
 · exact h0.elim
theorem ZaG(hc:CallP P f L0 Φ0 As Bad ch Zp L1 R)(hΦ: ∀F∈Φ0,F∈Φ){E:Nat->Prop}{w:World}{vs:List Value}(hw: ∀b,E b->b<w.heap.size)(hf: ∀F∈Φ,Pers E w F)(ht:TyAll E w As vs)(hM: ∀m∈L0,m.at E w)(hnd:(L0.map (·.b)).Nodup):
  RunsP P ((callFunc f vs.toArray).run P w) (fun w'=>Bad/\Keeps (fun q=>q∈L0.map (·.b)) w w') ch fun v w'=>∃z E',EndL L0 Zp L1 R E w z E' v w':=by
 rw[hc.enter];refine Calls.mono (hc.calls E w vs hw hM hnd (fun F hF=>hf F (hΦ F hF)) ht) ?_;rintro e w' (⟨v,z,E',rfl,h⟩|⟨rfl,h⟩)
 · exact⟨z,E',h⟩
 · exact⟨rfl,h⟩
theorem JO.callP{ops:Array Oper}{rest:List Oper}{dst:Option Nat}{ty:TypeId}{pos:String}{after:Array Edge}{xs:List Operand}{ats:Array TypeId}(hc:CallP P f L0 Φ0 As Bad ch Zp L1 R)(hd: ∀d,dst=some d->d<c.n)(hL:L.Perm (L0++Lr))(hΦ: ∀F∈Φ0,F∈Φ)(ha:Args L Φ (Kn K) xs As)
   (hp:Bad->JX c K Lr Φ (.panic ch) Q)
   (hn: ∀z,Zp z->JO P c (putK dst (R z) K) (L1 z++Lr) Φ ops rest Q):JO P c K L Φ ops (⟨dst,.call {callee:=.value (.func f),args:=xs.toArray,argTypes:=ats},ty,pos,after,none⟩::rest) Q:=by
 refine JO.stepP rfl hd hL (fun E w ρ hp hnd=>?_) hp hn;have h1:ρ (.func f)= .func (.func f) #[] #[]:=hp.x (.func f) (.is (.func (.func f) #[] #[])) (by simp[Op.operands,Call.operands]) rfl;have hall:=ha.all (ρ:=ρ) (Z2B hp) fun x T hx=>hp.x x T (by simp[Op.operands,Call.operands,hx]);have h3:=ZaG hc hΦ hp.wf hp.f hall (fun m hm=>hp.l m (hL.mem_iff.2 (List.mem_append_left _ hm))) hnd;simp only[execOp,resolve,h1,Deferred.ofValue,invoke,Sem.run_bind,Sem.run_pure,Result.andThen_ok,List.map_toArray]
 simpa using h3
theorem JO.callPv{ops:Array Oper}{rest:List Oper}{dst:Option Nat}{ty:TypeId}{pos:String}{after:Array Edge}{cal:Operand}{xs:List Operand}{ats:Array TypeId}{cp:List Value}(hf:opTy K cal=some (.is (.func (.func f) #[] cp.toArray)))(hc:CallP P f L0 Φ0 (As++cp.map Ty.is) Bad ch Zp L1 R)(hd: ∀d,dst=some d->d<c.n)(hL:L.Perm (L0++Lr))(hΦ: ∀F∈Φ0,F∈Φ)(ha:Args L Φ (Kn K) xs As)
   (hp:Bad->JX c K Lr Φ (.panic ch) Q)
   (hn: ∀z,Zp z->JO P c (putK dst (R z) K) (L1 z++Lr) Φ ops rest Q):JO P c K L Φ ops (⟨dst,.call {callee:=.value cal,args:=xs.toArray,argTypes:=ats},ty,pos,after,none⟩::rest) Q:=by
 refine JO.stepP rfl hd hL (fun E w ρ hp hnd=>?_) hp hn;have h1:ρ cal= .func (.func f) #[] cp.toArray:=hp.x cal _ (by simp[Op.operands,Call.operands]) hf;have hall:=ha.all (ρ:=ρ) (Z2B hp) fun x T hx=>hp.x x T (by simp[Op.operands,Call.operands,hx]);have hcp:TyAll E w (cp.map Ty.is) cp:=by
   clear hf hc h1
   induction cp with
   |nil=>trivial
   |cons v cp ih=>exact⟨rfl,ih⟩
 have h3:=ZaG hc hΦ hp.wf hp.f (hall.append hcp) (fun m hm=>hp.l m (hL.mem_iff.2 (List.mem_append_left _ hm))) hnd;simp only[execOp,resolve,h1,Deferred.ofValue,invoke,Sem.run_bind,Sem.run_pure,Result.andThen_ok,List.map_toArray]
 simpa using h3
theorem JO.callPK{ops:Array Oper}{rest:List Oper}{d:Nat}{ty:TypeId}{pos:String}{after:Array Edge}{xs:List Operand}{ats:Array TypeId}(hc:CallP P f L0 Φ0 As Bad ch Zp L1 R)(hd:Nat.blt d c.n=true)(hL:L.Perm (L0++Lr))(hΦ: ∀F∈Φ0,F∈Φ)(ha:Args L Φ (Kn K) xs As)
  (hp:Bad->JX c K Lr Φ (.panic ch) Q)
  (hn: ∀z,Zp z->JO P c ((d,R z)::K) (L1 z++Lr) Φ ops rest Q):JO P c K L Φ ops (⟨some d,.call {callee:=.value (.func f),args:=xs.toArray,argTypes:=ats},ty,pos,after,none⟩::rest) Q:=
 JO.callP hc (fun d' e=>by injection e with e;subst e;exact Nat.blt_eq.mp hd) hL hΦ ha hp hn
theorem JO.pan{ops:Array Oper}{rest:List Oper}{x:Operand}{ty t:TypeId}{v:Value}{dst:Option Nat}{pos:String}{after:Array Edge}(hx:opTy K x=some (.is (.iface t v)))(h:JX c K L Φ (.panic [{v:=.iface t v,recovered:=false}]) Q):JO P c K L Φ ops (⟨dst,.panic x,ty,pos,after,none⟩::rest) Q:=by
 refine⟨?_⟩;intro E a w hs;refine wpList_plain rfl fun K' hK=>?_;unfold Oper.wp;have h1:a.eval x= .iface t v:=Z2c hs hx;have h2:(execOp a.eval ⟨dst,.panic x,ty,pos,after,none⟩).run P w= .halt (.panic (.iface t v)) w:=by
   simp only[execOp,h1]
   rfl
 rw[h2,Oper.upon_panic];exact h.out E a w hs
theorem JX.pan_pass{N:Act->World->Prop}(h:JX c K L Φ (.panic ch) Q):JX c K L Φ (.panic ch) (Exit.then N Q):=⟨h.out⟩
theorem JX.pan_block{id:Nat}(h:JX c K L Φ (.panic ch) Q):JX c K L Φ (.panic ch) (Exit.inBlock id Q):=⟨h.out⟩
theorem JX.pan(hb:Bad):JX ⟨n,X,fun q=>q∈L0.map (·.b),W,[]⟩ K L Φ (.panic ch) (bodyPost P fn (PostP X W L0 Bad ch Zp L1 R)):=
 ⟨fun _ _ _ hs=>⟨hs.d,.inr ⟨rfl,hb,hs.keeps⟩⟩⟩
theorem JX.toP(h:JX c K L Φ .ret (bodyPost P fn (PostL X W L0 Zp L1 R))):JX c K L Φ .ret (bodyPost P fn (PostP X W L0 Bad ch Zp L1 R)):=
 ⟨fun E a w hs=>by obtain⟨h1,v,h2,h3⟩:=h.out E a w hs;exact⟨h1,v,h2,.inl h3⟩⟩
theorem JX.retLCs{s b m:Nat}{t ety:TypeId}{T:Ty}(hres:fn.results= #[.cell s t])(z:Z)(hz:Zp z)(hL:L.Perm (L1 z++Lr))(hol:(L1 z).all (fun o=>o.T.out)=true)(hor:(R z).out=true)(hL0: ∀b,b∈L0.map (·.b)->X b)(h:look K s=some (.is (.pointer (some ⟨b,0,none⟩))))(hs':szOf P t=some (some m))(hm:⟨b,ety,T⟩∈L)(hT: ∀E v w,T.p E v w->∃cs,v= .agg cs/\cs.size=m)(hR:Sub L Φ T (R z)):
   JX ⟨n,X,fun q=>q∈L0.map (·.b),W,[]⟩ K L Φ .ret (bodyPost P fn (PostL X W L0 Zp L1 R)):=
 JX.retLOf z hz hL hol hor hL0 fun a w E hs=>by
   obtain⟨v,h1,h2⟩:=Z4L (P:=P) hs' (hs.l _ hm) hT;have e:a.tmps.getD s undef= .pointer (some ⟨b,0,none⟩):=hs.k s _ h;rw[Array.getD_eq_getD_getElem?]at e;exact⟨v,by simp[results,hres,Array.getD_eq_getD_getElem?,e,asAddr,h1],hR E _ w ⟨hs.l,hs.f⟩ h2⟩
theorem CallP.of{x:Code}(hf:P.funcs[f]? =some fn)(hb:fn.body=some x)(hn:fn.ntmps=n)(hl:Nat.ble As.length n=true)(he: ∀args w,(callFunc f args).run P w= .ok (.enter f args) w)
   (h: ∀(E:Nat->Prop) (W:World),(∀b,b∈L0.map (·.b)->E b)->J P ⟨n,E,fun q=>q∈L0.map (·.b),W,[]⟩ (params 0 As) L0 Φ0 x (bodyPost P fn (PostP E W L0 Bad ch Zp L1 R))):CallP P f L0 Φ0 As Bad ch Zp L1 R:=
 ⟨he,fun E w vs hw hM hnd hΦ ht=>by
   refine calls_of_wp hf hb ?_;rw[hn];refine(h E w (fun b hb=>by obtain⟨m,hm,rfl⟩:=List.mem_map.1 hb;exact(hM m hm).1)).out E _ w ?_;have hs:=Z4h (n:=n) hw ht (Nat.le_of_ble_eq_true hl);exact⟨hs.n,hs.d,hw,hs.k,hM,hnd,hΦ,fun _ h=>h,hw,.refl _ _,fun o ho=>.inl (List.mem_map_of_mem ho)⟩⟩
section
variable{Φ1:List (World->Prop)}{Z':Type}{Zp':Z'->Prop}{L1':Z'->List Own}{R':Z'->Ty}{Bad':Prop}
theorem CallP.map(h:CallP P f L0 Φ0 As Bad ch Zp L1 R)(hb:Bad->Bad')(g:Z->Z')(hz: ∀z,Zp z->Zp' (g z))(hL: ∀z,Zp z->L1 z=L1' (g z))(hR: ∀z,Zp z->R z=R' (g z)):CallP P f L0 Φ0 As Bad' ch Zp' L1' R':=
 ⟨h.enter,fun E w vs hw hM hnd hΦ ht=>Calls.mono (h.calls E w vs hw hM hnd hΦ ht) (by
   rintro e w' (⟨v,z,E',rfl,he⟩|⟨rfl,h1,h2⟩)
   · refine .inl ⟨v,g z,E',rfl,hz z he.zp,he.k,he.same,he.wf,?_,?_,?_,?_⟩
     · rw[<-hL z he.zp];exact he.l
     · rw[<-hL z he.zp];exact he.nd
     · rw[<-hL z he.zp];exact he.inn
     · rw[<-hR z he.zp];exact he.r
   · exact .inr ⟨rfl,hb h1,h2⟩)⟩
theorem CallP.weak(h:CallP P f L0 Φ0 As Bad ch Zp L1 R)(hs: ∀F∈Φ0,F∈Φ1):CallP P f L0 Φ1 As Bad ch Zp L1 R:=
 ⟨h.enter,fun E w vs hw hM hnd hΦ ht=>h.calls E w vs hw hM hnd (fun F hF=>hΦ F (hs F hF)) ht⟩
end
def fldSc(P:Program)(t:TypeId)(i:Nat):Option Nat:=
 match P.underlying t with
 |some (.struct fs)=>
   match fs[i]? with
   |some f=>
     match P.underlying f.type with
     |some .string=>some f.offset
     |some .bool=>some f.offset
     |some (.int _)=>some f.offset
     |_=>none
   |none=>none
 |_=>none
theorem Z4S{P:Program}{L:List Own}{Φ:List (World->Prop)}{H:Know}{dst:Option Nat}{ty:TypeId}{pos:String}{after:Array Edge}{g:Option (Nat×Bool)}{xt:TypeId}{x:Operand}{cs:Array Value}{i off:Nat}{v:Value}(hs:fldSc P xt i=some off)(hx:H x (.is (.agg cs)))(hv:cs[off]? =some v):Ob P L Φ H ⟨dst,.field xt x i,ty,pos,after,g⟩ (.is v):=
 Z25 fun E w ρ hp=>by
   have h1:ρ x= .agg cs:=hp.x x _ (by simp[Op.operands]) hx;unfold fldSc at hs
   split at hs
   · rename_i fs hu
     split at hs
     · rename_i f hf
       split at hs
       · rename_i he
         injection hs with hs
         subst hs;have hag:(isAgg f.type).run P w= .ok false w:=by simp[isAgg,run_underlying he]
         simp[execOp,h1,Instr.field,run_underlying hu,hf,asAgg,part,hag,hv]
       · rename_i he
         injection hs with hs
         subst hs;have hag:(isAgg f.type).run P w= .ok false w:=by simp[isAgg,run_underlying he]
         simp[execOp,h1,Instr.field,run_underlying hu,hf,asAgg,part,hag,hv]
       · rename_i k he
         injection hs with hs
         subst hs;have hag:(isAgg f.type).run P w= .ok false w:=by simp[isAgg,run_underlying he]
         simp[execOp,h1,Instr.field,run_underlying hu,hf,asAgg,part,hag,hv]
       · cases hs
     · cases hs
   · cases hs
class PanQ (c:Ctx) (ch:List PanicEntry) (Bad:outParam Prop) (Q:Exit->Act->World->Prop):Prop where
 out:Bad->∀K L Φ,JX c K L Φ (.panic ch) Q
instance panQ_post {P:Program} {fn:Func} {n:Nat} {X:Nat->Prop} {W:World} {L0:List Own} {Bad:Prop} {ch:List PanicEntry} {Z:Type} {Zp:Z->Prop} {L1:Z->List Own} {R:Z->Ty}:PanQ ⟨n,X,fun q=>q∈L0.map (·.b),W,[]⟩ ch Bad (bodyPost P fn (PostP X W L0 Bad ch Zp L1 R)):=⟨fun h _ _ _=>JX.pan h⟩
instance panQ_then {c:Ctx} {ch:List PanicEntry} {Bad:Prop} {Q:Exit->Act->World->Prop} {N:Act->World->Prop} [h:PanQ c ch Bad Q]:PanQ c ch Bad (Exit.then N Q):=⟨fun hb K L Φ=>JX.pan_pass (h.out hb K L Φ)⟩
instance panQ_block {c:Ctx} {ch:List PanicEntry} {Bad:Prop} {Q:Exit->Act->World->Prop} {id:Nat} [h:PanQ c ch Bad Q]:PanQ c ch Bad (Exit.inBlock id Q):=⟨fun hb K L Φ=>JX.pan_block (h.out hb K L Φ)⟩
theorem JX.pnI{c:Ctx}{K:List (Nat×Ty)}{L:List Own}{Φ:List (World->Prop)}{ch:List PanicEntry}{Bad:Prop}{Q:Exit->Act->World->Prop}[h:PanQ c ch Bad Q](hb:Bad):JX c K L Φ (.panic ch) Q:=h.out hb K L Φ
end Go.Vc
