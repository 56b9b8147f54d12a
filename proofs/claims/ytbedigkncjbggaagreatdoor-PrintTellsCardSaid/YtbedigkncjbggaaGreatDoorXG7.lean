/- The program logic, part 8. No condition. -/
import Derived.Test.YtbedigkncjbggaaGreatDoorXG6
import Derived.Recover
namespace Go.Vc
open Go
variable{P:Program}{c:Ctx}{K K' K0:List (Nat×Ty)}{L L' L0 Lr Lq Lm Lk:List Own}{Φ Φ0:List (World->Prop)}{Q:Exit->Act->World->Prop}{H:Know}{dst:Option Nat}{ty:TypeId}{pos:String}{g:Option (Nat×Bool)}{ops:Array Oper}{rest:List Oper}{fn:Func}{n:Nat}{X:Nat->Prop}{W:World}{op:Op}{f:FuncId}{As:List Ty}{Z:Type}{Zp:Z->Prop}{L1:Z->List Own}{R:Z->Ty}{Bad:Prop}{ch:List PanicEntry}
theorem Sub.newExs{e:TypeId}{n:Nat}(xs:List XC)(hn:xs.length=n)(hx: ∀p∈xs,ExR p.e (.agg p.cs.toArray)∈Φ):Sub L Φ (.newSl (.cells (xs.flatMap XC.cs).toArray e (0,0)) n n) (.rep (ExsR (xs.map (·.e)))):=fun E v w hf ⟨b,hv,hE,hb⟩=>by
 subst hv;intro w' hk;refine⟨_,_,_,rfl,Zid hn (hk.get hb hE) fun p hp=>hf.2 _ (hx p hp) w' hk⟩
theorem RunsP.upon{P:Program}{o:Oper}{a:Act}{next:Act->World->Prop}{Q:Exit->Act->World->Prop}{r:Result Next}{Bad:World->Prop}{ch:List PanicEntry}{R:Value->World->Prop}(h:RunsP P r Bad ch R)(hn: ∀v w',R v w'->next (a.put o.dst v) w')(hp: ∀w',Bad w'->Q (.panic ch) a w'):o.upon P a next Q r:=by
 unfold RunsP at h
 split at h
 · rw[Oper.upon_enter]
   refine Calls.mono h ?_;intro e w' he;cases e with
   |returned v=>exact hn v w' he
   |panicked chain=>obtain⟨rfl,hb⟩:=he;exact hp w' hb
   |outgrown=>exact he.elim
 · exact h.elim
theorem RunsP.mono{P:Program}{r:Result Next}{Bad Bad':World->Prop}{ch:List PanicEntry}{R R':Value->World->Prop}(h:RunsP P r Bad ch R)(hb: ∀w,Bad w->Bad' w)(hr: ∀v w,R v w->R' v w):RunsP P r Bad' ch R':=by
 unfold RunsP at h ⊢
 split at h
 · refine Calls.mono h ?_
   intro e w' he;cases e with
   |returned v=>exact hr v w' he
   |panicked chain=>exact⟨he.1,hb _ he.2⟩
   |outgrown=>exact he.elim
 · exact h.elim
def BigObP(P:Program)(L:List Own)(Φ:List (World->Prop))(H:Know)(o:Oper)(Bad:Prop)(ch:List PanicEntry){G:Type}(Tg:G->Ty)(Lg:G->List Own):Prop:=
 ∀E w ρ,Pre L Φ H o E w ρ->(L.map (·.b)).Nodup->RunsP P ((execOp ρ o).run P w) (fun w'=>Bad/\Keeps (fun b=>b∈L.map (·.b)) w w') ch fun v w'=>∃(g:G) (E':Nat->Prop),Keeps (fun b=>b∈L.map (·.b)) w w'/\Ev E w E' w'/\(∀b,E' b->b<w'.heap.size)/\(Tg g).p E' v w'/\
  (∀m∈Lg g,m.at E' w')/\((Lg g).map (·.b)).Nodup/\ ∀m∈Lg g,m.b∈L.map (·.b)\/w.heap.size<=m.b
theorem J.regBP{id:Nat}{dr:Bool}{l1 l2 tail:List Oper}{op:Oper}{d0:Nat}{G:Type}{Bad:Prop}{ch:List PanicEntry}(hpan:Bad->JX c [] [] Φ (.panic ch) Q)(Tg:G->Ty)(Lg:G->List Own)(Lq:List Own)(hop:op.dst=some d0)(hg:op.guard=none)
   (hmx:P.follows .mixedOrders=true)(hok:(backOK (l1++op::l2++tail).toArray&&syncOK (l1++op::l2++tail).toArray (l1++op::l2).length&&regOK (l1++op::l2).toArray&&quietOK (l1++op::l2).toArray (l1++op::l2).length)=true)
   (hdn:((l1++op::l2).toArray.all fun o=>match o.dst with|some d=>decide (d<c.n)|none=>true)=true)
   (hq1: ∀o∈Lq,o∈L)(hq2: ∀g,∀o∈Lq,o∈Lg g)
   (h:RT P (l1++op::l2).toArray Lq Φ 0 l1 K [] [] (fun K1 _ _=>BigObP P L Φ (Kn K1) op Bad ch Tg Lg/\RT P (l1++op::l2).toArray Lq Φ (l1.length+1) l2 ((d0,.any)::K1) [] [] (fun K2 _ _=>∀g,JO P c ((d0,Tg g)::K2) (Lg g) Φ (l1++op::l2++tail).toArray tail Q))):
   J P c K L Φ (.region id (l1++op::l2++tail).toArray dr) Q:=by
 refine⟨?_⟩;intro E a w hsa;simp only[Bool.and_eq_true]at hok;obtain⟨⟨⟨hbk,hsy⟩,hreg⟩,hqu⟩:=hok
 generalize hA:l1++op::l2=A at*
 have hlp:(A++tail).toArray.toList.take A.length=A:=by simp
 have hld:(A++tail).toArray.toList.drop A.length=tail:=by simp
 have hpA:A[l1.length]? =some op:=by rw[<-hA];simp
 have hAlen:A.length=l1.length+1+l2.length:=by rw[<-hA];simp;omega
 obtain⟨T1,Mf1,Sf1,kf1,hM1,hS1,hst1,hbig,hrt2⟩:=h.out;obtain⟨T2,Mf2,Sf2,kf2,hM2,hS2,hst2,hfin⟩:=hrt2.out;have hbk':backOK A.toArray=true:=by unfold regOK at hreg;rw[Bool.and_eq_true]at hreg;exact hreg.1
 have hord':ordOK A.toArray=true:=by unfold regOK at hreg;rw[Bool.and_eq_true]at hreg;exact hreg.2
 let T:Nat->Ty:=fun j=>if j<l1.length then T1 j else if j=l1.length then .any else T2 (j-(l1.length+1))
 have hTp:T l1.length= .any:=by simp[T]
 have hKA1: ∀n,n<=l1.length->kAt A T K n=kAt l1 T1 K n:=by
   intro n
   induction n with
   |zero=>intro _;rfl
   |succ n ih=>
     intro hn;rw[kAt,kAt,ih (by omega),<-hA,List.getElem?_append_left (by omega)]
     congr 1
     simp[T,show n<l1.length by omega]
 have hKA2: ∀n,kAt A T K (l1.length+1+n)=kAt l2 T2 ((d0,.any)::kAt l1 T1 K l1.length) n:=by
   intro n
   induction n with
   |zero=>
     show putK ((A[l1.length]?).bind (·.dst)) (T l1.length) (kAt A T K l1.length)=_;rw[hKA1 _ (Nat.le_refl _),hpA,Option.bind_some,hop,hTp]
     rfl
   |succ n ih=>
     show putK ((A[l1.length+1+n]?).bind (·.dst)) (T (l1.length+1+n)) (kAt A T K (l1.length+1+n))=putK ((l2[n]?).bind (·.dst)) (T2 n) _;rw[ih]
     congr 1
     · congr 1
       rw[<-hA,List.getElem?_append_right (by omega),show l1.length+1+n-l1.length=n+1 by omega]
       rfl
     · simp[T,show ¬l1.length+1+n<l1.length by omega,show l1.length+1+n≠l1.length by omega]
 have hquA: ∀(j:Nat) (oj:Oper),A[j]? =some oj->isAlloc oj=false/\ ∀t p x,oj.op≠ .store t p x:=by
   intro j oj hj;unfold quietOK at hqu;have h1:=List.all_eq_true.1 hqu oj (by simp;exact List.mem_of_getElem? hj);simp only[Bool.and_eq_true,Bool.not_eq_true']at h1;exact⟨h1.1,fun t p x e=>by rw[e]at h1;simp at h1⟩
 have hMS1: ∀j,j<=l1.length->Mf1 j=[]/\Sf1 j=[]:=by
   intro j
   induction j with
   |zero=>intro _;exact⟨hM1,hS1⟩
   |succ j ih=>
     intro hj;obtain⟨e1,e2⟩:=ih (by omega);have ho:l1[j]? =some l1[j]:=List.getElem?_eq_getElem (by omega);have h1:=hst1 j _ ho;rw[e1,e2]at h1;obtain⟨q1,q2⟩:=hquA j l1[j] (by rw[<-hA,List.getElem?_append_left (by omega)];exact ho);obtain⟨g1,g2,_⟩:=h1.quiet (L:=Lq) (K2:=kAt l1 T1 K j) (fun _ h=>h) (fun s U h=>.inr h) q1 q2;exact⟨g1,g2⟩
 have hMS2: ∀j,j<=l2.length->Mf2 j=[]/\Sf2 j=[]:=by
   intro j
   induction j with
   |zero=>intro _;exact⟨hM2,hS2⟩
   |succ j ih=>
     intro hj;obtain⟨e1,e2⟩:=ih (by omega);have ho:l2[j]? =some l2[j]:=List.getElem?_eq_getElem (by omega);have h1:=hst2 j _ ho;rw[e1,e2]at h1;obtain⟨q1,q2⟩:=hquA (l1.length+1+j) l2[j] (by rw[<-hA,List.getElem?_append_right (by omega),show l1.length+1+j-l1.length=j+1 by omega];exact ho);obtain⟨g1,g2,_⟩:=h1.quiet (L:=Lq) (K2:=kAt l2 T2 ((d0,.any)::kAt l1 T1 K l1.length) j) (fun _ h=>h) (fun s U h=>.inr h) q1 q2;exact⟨g1,g2⟩
 have hst: ∀(L':List Own) (T':Nat->Ty),(∀m∈Lq,m∈L')->(∀j,j≠l1.length->T' j=T j)->∀i o,A.toArray[i]? =some o->i≠l1.length->∃kd,St1 P A.toArray L' Φ i o (kAt A.toArray.toList T' K i) [] [] (T' i) [] [] kd:=by
   intro L' T' hL' hT' i o hi hne;have hi':A[i]? =some o:=by simpa using hi
   obtain⟨q1,q2⟩:=hquA i o hi';rw[hT' i hne];have hle:KLe (kAt A T K i) (kAt A T' K i):=ZlT hTp hT' i;rcases Nat.lt_or_ge i l1.length with hlt|hge
   · have ho:l1[i]? =some o:=by rw[<-hA,List.getElem?_append_left hlt]at hi';exact hi'
     have h1:=hst1 i o ho;obtain⟨e1,e2⟩:=hMS1 i (by omega);obtain⟨e3,e4⟩:=hMS1 (i+1) (by omega);rw[e1,e2,Nat.zero_add,<-hKA1 i (by omega)]at h1;have hTi:T i=T1 i:=by simp[T,hlt]
     rw[hTi];exact(h1.quiet hL' hle q1 q2).2.2
   · have ho:l2[i-(l1.length+1)]? =some o:=by
       rw[<-hA,List.getElem?_append_right hge]at hi';rw[show i-l1.length=(i-(l1.length+1))+1 by omega]at hi'
       simpa using hi'
     have hl2:i-(l1.length+1)<l2.length:=(List.getElem?_eq_some_iff.1 ho).1;have h1:=hst2 _ o ho;obtain⟨e1,e2⟩:=hMS2 (i-(l1.length+1)) (by omega);rw[e1,e2,<-hKA2,show l1.length+1+(i-(l1.length+1))=i by omega]at h1;have hTi:T i=T2 (i-(l1.length+1)):=by simp[T,show ¬i<l1.length by omega,hne]
     rw[hTi];exact(h1.quiet hL' hle q1 q2).2.2
 have hnn: ∀(i:Nat) (o:Oper) (d:Nat),A.toArray[i]? =some o->o.dst=some d->d<c.n:=by
   intro i o d hi hd;have:=Array.all_eq_true_iff_forall_mem.1 hdn o (Array.mem_of_getElem? hi);rw[hd]at this
   simpa using this
 have hnal: ∀(j:Nat) (oj:Oper) (t:TypeId),A.toArray[j]? =some oj->oj.op≠ .alloc t:=by
   intro j oj t hj e;have:=(hquA j oj (by simpa using hj)).1
   simp[isAlloc,e]at this
 have hpA':A.toArray[l1.length]? =some op:=by simpa using hpA
 refine Z48 (Q:=Q) A.length hmx hbk hsy (fun D a w'=>(D.getD l1.length false=false/\ ∃E,RI P A.toArray c K [] L Φ T (fun _=>[]) (fun _=>[]) w.heap.size D E a w')\/
     (D.getD l1.length false=true/\ ∃(g:G) (B:Nat) (E:Nat->Prop),Stat0 A.toArray c [] (Lg g) (fun _=>[]) (fun _=>[]) B/\RI P A.toArray c K [] (Lg g) Φ (fun j=>if j=l1.length then Tg g else T j) (fun _=>[]) (fun _=>[]) B D E a w')) ?_ ?_ ?_
 · intro w' hw'
   have hs':SA c K L Φ E a w':=by
     rcases hw' with rfl|rfl
     · exact hsa
     · exact hsa.drew
   have hno: ∀(n j:Nat),(Array.replicate n false).getD j false=false:=by
     intro n j;rw[Array.getD_eq_getD_getElem?,Array.getElem?_replicate]
     split<;>simp
   refine .inl ⟨hno _ _,E,hs'.n,hs'.d,hs'.wf,fun j hj=>absurd hj (by rw[hno];simp),fun s T' hs _=>hs'.k s T' hs,fun j o d _ hj=>absurd hj (by rw[hno];simp),hs'.l,hs'.f,fun _ _ _=>⟨(fun _ h=>by cases h),(fun _ h=>by cases h)⟩,fun j oj d t hj hop=>absurd hop (hnal j oj t hj),fun j1 _ o1 _ _ _ t1 _ _ h1 _ p1=>absurd p1 (hnal j1 o1 t1 h1),hs'.x,hs'.keeps,?_⟩;rcases hw' with rfl|rfl<;>exact Nat.le_refl _
 · rw[hlp,hld]
   rintro D a' w' i o hs hI hi hd hr;have hi':i<A.toArray.size:=(Array.getElem?_eq_some_iff.1 hi).1;have hdf:D.getD i false=false:=by
     have hlt:i<D.size:=by omega
     simp only[Array.getD_eq_getD_getElem?,Array.getElem?_eq_getElem hlt,Option.getD_some]at hd ⊢;exact hd
   have hsize: ∀j,(D.setIfInBounds i true).getD j false=true↔j=i\/D.getD j false=true:=fun j=>Z2L (by omega);have keepP:i≠l1.length->(D.setIfInBounds i true).getD l1.length false=D.getD l1.length false:=by
     intro hne;cases hq:D.getD l1.length false with
     |true=>exact(hsize _).2 (.inr hq)
     |false=>
       cases hq':(D.setIfInBounds i true).getD l1.length false with
       |false=>rfl
       |true=>
         rcases(hsize _).1 hq' with e|e
         · exact absurd e.symm hne
         · rw[hq]at e;cases e
   have quietAll: ∀(i:Nat) (o:Oper),A.toArray[i]? =some o->isLoud o=false->(fun _=>([]:List Own)) (i+1)=(fun _=>([]:List Own)) i/\(fun _=>([]:Sd)) (i+1)=(fun _=>([]:Sd)) i:=fun _ _ _ _=>⟨rfl,rfl⟩;rcases hI with⟨hp,E',hI⟩|⟨hp,g,B,E',hS,hI⟩
   · have hS0:Stat0 A.toArray c [] L (fun _=>[]) (fun _=>[]) w.heap.size:=⟨fun _ _=>rfl,fun _ _=>List.nodup_nil,hsa.ld,fun m hm=>Z1d (hsa.l m hm).2.choose_spec.1,hsa.may,hnn,hsa.keeps.size⟩
     by_cases hip:i=l1.length
     · subst hip
       rw[hpA']at hi;injection hi with hi
       subst hi;have hpre:=hI.pre hbk' hord' hpA' hdf hr;have hKeq:kAt A.toArray.toList T K l1.length=kAt l1 T1 K l1.length:=hKA1 _ (Nat.le_refl _);rw[hKeq]at hpre;have hrun:=hbig E' w' a'.eval hpre hsa.ld;unfold wpOp;rw[hpA'];simp only;rw[if_pos (by simp[Region.wanted,hg])];refine .inl ?_;unfold Oper.wp;refine RunsP.upon hrun (fun v w'' ⟨g,E'',hk,hev,hwf,hT,hl,hnd,hmay⟩=>.inr ⟨(hsize _).2 (.inl rfl),g,w''.heap.size,E'',?_,?_⟩) (fun w'' ⟨hb,hk⟩=>?_)
       · refine⟨fun _ _=>rfl,fun _ _=>List.nodup_nil,hnd,fun m hm=>Z1d (hl m hm).2.choose_spec.1,fun m hm=>?_,hnn,?_⟩
         · rcases hmay m hm with h1|h1
           · obtain⟨m',hm',e⟩:=List.mem_map.1 h1
             rw[<-e];exact hsa.may m' hm'
           · have:=hI.keeps.size
             exact .inr (by omega)
         · exact Nat.le_trans hI.keeps.size hk.size
       · exact hI.big hs hord' hpA' hdf hr hnal (fun d hd=>hnn _ _ d hpA' hd) hk hev hwf hT hl hsa.may
       · have hsub: ∀b,b∈L.map (·.b)->E' b:=fun b hb=>by obtain⟨m,hm,rfl⟩:=List.mem_map.1 hb;exact(hI.l m hm).1
         have hev:Ev E' w' E' w'':=Ev.of_keeps (hk.mono fun b _=>hsub b);refine(hpan hb).out E' a' w'' ⟨hI.n,hI.d,fun b hb=>Nat.lt_of_lt_of_le (hI.wf b hb) hk.size,(fun s T h=>by cases h),(fun _ h=>by cases h),List.nodup_nil,fun F hF=>(hI.f F hF).ev hev,hI.x,hsa.xs,hI.keeps.step hk fun b hb=>?_,(fun _ h=>by cases h)⟩;obtain⟨m,hm,rfl⟩:=List.mem_map.1 hb;exact hsa.may m hm
     · refine wpOp_mono (fun a'' w'' hI'=>.inl ⟨by rw[keepP hip];exact hp,hI'⟩) (hI.step1 hS0 quietAll hbk' hord' hs hi hd hr (hst L T hq1 (fun _ _=>rfl) i o hi hip))
   · have hip:i≠l1.length:=fun e=>by subst e;rw[hdf]at hp;cases hp
     refine wpOp_mono (fun a'' w'' hI'=>.inr ⟨by rw[keepP hip];exact hp,g,B,?_⟩) (hI.step1 hS quietAll hbk' hord' hs hi hd hr (hst (Lg g) _ (hq2 g) (fun j hj=>by simp[hj]) i o hi hip));obtain⟨E'',hI'⟩:=hI';exact⟨E'',hS,hI'⟩
 · rw[hlp,hld]
   rintro D a' w' hs hall hI;have hpd:D.getD l1.length false=true:=hall _ (by simp;omega);rcases hI with⟨hp,_⟩|⟨_,g,B,E',hS,hI⟩
   · rw[hpd]at hp;cases hp
   · have hlen:A.length=A.toArray.size:=by simp
     refine(hfin g).out E' a' w' ⟨hI.n,hI.d,hI.wf,?_,hI.l,hS.nd,hI.f,hI.x,hsa.xs,hI.keeps,hS.may⟩;intro s T' hl;have hd0:(if l1.length=l1.length then Tg g else T l1.length).p E' (slotOf a' d0) w':=hI.t l1.length op d0 hpA' hpd hop;rw[if_pos rfl]at hd0;simp only[look]at hl;cases hq:Nat.beq d0 s with
     |true=>
       rw[hq,cond_true]at hl;injection hl with hl
       subst hl;rw[<-Nat.eq_of_beq_eq_true hq];exact hd0
     |false=>
       rw[hq,cond_false]at hl;rw[<-hKA2 l2.length,<-hAlen]at hl;have hl':look (kAt A.toArray.toList T K A.toArray.size) s=some T':=by simpa using hl
       rcases Z5x s A.toArray.size (Nat.le_refl _) T' hl' with⟨j,oj,hj,hoj,hdj,rfl⟩|⟨hn,hk⟩
       · have:=hI.t j oj s hoj (hall j (by simpa using hj)) hdj
         by_cases e:j=l1.length
         · subst e
           rw[hpA']at hoj;injection hoj with hoj
           subst hoj;rw[hop]at hdj;injection hdj with hdj
           rw[hdj,Nat.beq_refl]at hq;cases hq
         · rw[if_neg e]at this
           exact this
       · exact hI.k s T' hk fun j oj hoj _=>hn j oj (Array.getElem?_eq_some_iff.1 hoj).1 hoj
theorem J.regBPm{id:Nat}{dr:Bool}{l:List Oper}(p m:Nat){op:Oper}{d0:Nat}{G:Type}{Bad:Prop}{ch:List PanicEntry}(hpan:Bad->JX c [] [] Φ (.panic ch) Q){Tg:G->Ty}{Lg:G->List Own}(Lq:List Own)(hp:l[p]? =some op)(hpm:Nat.blt p m=true)(hop:op.dst=some d0)(hg:op.guard=none)
   (hmx:P.follows .mixedOrders=true)(hok:(backOK l.toArray&&syncOK l.toArray m&&regOK (l.take m).toArray&&quietOK (l.take m).toArray m)=true)(hml:(l.take m).length=m)
   (hdn:((l.take m).toArray.all fun o=>match o.dst with|some d=>decide (d<c.n)|none=>true)=true)
   (hq1: ∀o∈Lq,o∈L)(hq2: ∀g,∀o∈Lq,o∈Lg g)
   (h:RT P (l.take m).toArray Lq Φ 0 (l.take p) K [] [] (fun K1 _ _=>BigObP P L Φ (Kn K1) op Bad ch Tg Lg/\RT P (l.take m).toArray Lq Φ ((l.take p).length+1) ((l.drop (p+1)).take (m-(p+1))) ((d0,.any)::K1) [] [] (fun K2 _ _=>∀g,JO P c ((d0,Tg g)::K2) (Lg g) Φ l.toArray (l.drop m) Q))):
   J P c K L Φ (.region id l.toArray dr) Q:=by
 have hc:=ZeQ hp (Nat.le_of_ble_eq_true hpm);have key:=J.regBP (P:=P) (c:=c) (K:=K) (L:=L) (Φ:=Φ) (Q:=Q) (id:=id) (dr:=dr) (l1:=l.take p) (l2:=(l.drop (p+1)).take (m-(p+1))) (tail:=l.drop m) (op:=op) (d0:=d0) hpan Tg Lg Lq hop hg hmx;rw[hc,hml,List.take_append_drop]at key;exact key hok hdn hq1 hq2 h
theorem RT.bigP{ops:Array Oper}{op:Oper}{Lq:List Own}{l2:List Oper}{i:Nat}{d0:Nat}{G:Type}{Bad:Prop}{ch:List PanicEntry}{Tg:G->Ty}{Lg:G->List Own}{k:List (Nat×Ty)->List Own->Sd->Prop}
 (h:BigObP P L Φ (Kn K) op Bad ch Tg Lg)(n:RT P ops Lq Φ i l2 ((d0,.any)::K) [] [] k):
 RT P ops Lq Φ i [] K [] [] (fun K1 _ _=>BigObP P L Φ (Kn K1) op Bad ch Tg Lg/\RT P ops Lq Φ i l2 ((d0,.any)::K1) [] [] k):=⟨h,n⟩
theorem Zcc{dst:Option Nat}{ty:TypeId}{pos:String}{after:Array Edge}{g:Option (Nat×Bool)}{cal:Operand}{cp:List Value}{xs:List Operand}{ats:Array TypeId}(hf:H cal (.is (.func (.func f) #[] cp.toArray)))(hc:CallP P f L0 Φ0 (As++cp.map Ty.is) Bad ch Zp L1 R)(hL:L.Perm (L0++Lr))(hΦ: ∀F∈Φ0,F∈Φ)(ha:Args L Φ H xs As):
   BigObP P L Φ H ⟨dst,.call {callee:=.value cal,args:=xs.toArray,argTypes:=ats},ty,pos,after,g⟩ Bad ch (G:={z:Z // Zp z}) (fun g=>R g.1) (fun g=>L1 g.1++Lr):=fun E w ρ hp hnd0=>by
 have h1:ρ cal= .func (.func f) #[] cp.toArray:=hp.x cal _ (by simp[Op.operands,Call.operands]) hf;have hall:=ha.all (ρ:=ρ) (Z2B hp) fun x T hx=>hp.x x T (by simp[Op.operands,Call.operands,hx]);have hcp:TyAll E w (cp.map Ty.is) cp:=by
   clear hf hc h1
   induction cp with
   |nil=>trivial
   |cons v cp ih=>exact⟨rfl,ih⟩
 have hnd:((L0++Lr).map (·.b)).Nodup:=((hL.map _).nodup_iff).1 hnd0;rw[List.map_append,List.nodup_append]at hnd;have hin: ∀o∈L0,o∈L:=fun o ho=>hL.mem_iff.2 (List.mem_append_left _ ho);have hir: ∀o∈Lr,o∈L:=fun o ho=>hL.mem_iff.2 (List.mem_append_right _ ho);have h3:=ZaG hc hΦ hp.wf hp.f (hall.append hcp) (fun m hm=>hp.l m (hin m hm)) hnd.1;simp only[execOp,resolve,h1,Deferred.ofValue,invoke,Sem.run_bind,Sem.run_pure,Result.andThen_ok,List.map_toArray];have hsb: ∀b,b∈L0.map (·.b)->b∈L.map (·.b):=fun b hb=>by
   obtain⟨m,hm,rfl⟩:=List.mem_map.1 hb;exact List.mem_map_of_mem (hin m hm)
 refine RunsP.mono (Bad:=fun w'=>Bad/\Keeps (fun q=>q∈L0.map (·.b)) w w') (by simpa using h3) (fun w' hb=>⟨hb.1,hb.2.mono fun b _ hq=>hsb b hq⟩) ?_;rintro v w' ⟨z,E',he⟩;have hsub: ∀b,b∈L0.map (·.b)->E b:=fun b hb=>by obtain⟨m,hm,rfl⟩:=List.mem_map.1 hb;exact(hp.l m (hin m hm)).1
 have hev:Ev E w E' w':=⟨he.k.mono (fun b _=>hsub b),he.same⟩;refine⟨⟨z,he.zp⟩,E',he.k.mono (fun b _ hb=>?_),hev,he.wf,he.r,?_,?_,?_⟩
 · obtain⟨m,hm,rfl⟩:=List.mem_map.1 hb
   exact List.mem_map_of_mem (hin m hm)
 · intro o ho
   rcases List.mem_append.1 ho with ho|ho
   · exact he.l o ho
   · have h1:=hp.l o (hir o ho)
     exact Own.keep h1 hev (he.k.blk _ (hp.wf _ h1.1) fun hm=>hnd.2.2 _ hm _ (List.mem_map_of_mem ho) rfl)
 · rw[List.map_append,List.nodup_append]
   refine⟨he.nd,hnd.2.1,fun b hb b' hb' e=>?_⟩;subst e;obtain⟨m,hm,rfl⟩:=List.mem_map.1 hb;obtain⟨m',hm',e'⟩:=List.mem_map.1 hb';rcases he.inn m hm with h1|h1
   · exact hnd.2.2 _ h1 _ hb' rfl
   · have:=hp.wf m'.b (hp.l m' (hir m' hm')).1
     have e2:m'.b=m.b:=e'
     omega
 · intro o ho
   rcases List.mem_append.1 ho with ho|ho
   · rcases he.inn o ho with h1|h1
     · obtain⟨m,hm,e⟩:=List.mem_map.1 h1
       exact .inl (List.mem_map.2 ⟨m,hin m hm,e⟩)
     · exact .inr h1
   · exact .inl (List.mem_map_of_mem (hir o ho))
theorem J.regBgP{id:Nat}{dr:Bool}{l1 l2 tail:List Oper}{op:Oper}{d0:Nat}{G:Type}{Bad:Prop}{ch:List PanicEntry}(hpan:Bad->JX c [] [] Φ (.panic ch) Q)(Tg:G->Ty)(Lg:G->List Own)(Lq:List Own)(hop:op.dst=some d0)(hg:op.guard=none)
   (hmx:P.follows .mixedOrders=true)(hok:(backOK (l1++op::l2++tail).toArray&&syncOK (l1++op::l2++tail).toArray (l1++op::l2).length&&regOK (l1++op::l2).toArray&&quietOK (l1++op::l2).toArray (l1++op::l2).length)=true)
   (hdn:((l1++op::l2).toArray.all fun o=>match o.dst with|some d=>decide (d<c.n)|none=>true)=true)
   (hq1: ∀o∈Lq,o∈L)(hq2: ∀g,∀o∈Lq,o∈Lg g)
   (haf:((List.range l2.length).all fun j=>befHas (Region.before (l1++op::l2).toArray) (l1.length+1+j) l1.length)=true)
   (h:RT P (l1++op::l2).toArray Lq Φ 0 l1 K [] [] (fun K1 _ _=>BigObP P L Φ (Kn K1) op Bad ch Tg Lg/\ ∀g,RT P (l1++op::l2).toArray (Lg g) Φ (l1.length+1) l2 ((d0,Tg g)::K1) [] [] (fun K2 _ _=>JO P c K2 (Lg g) Φ (l1++op::l2++tail).toArray tail Q))):
   J P c K L Φ (.region id (l1++op::l2++tail).toArray dr) Q:=by
 refine⟨?_⟩;intro E a w hsa;simp only[Bool.and_eq_true]at hok;obtain⟨⟨⟨hbk,hsy⟩,hreg⟩,hqu⟩:=hok
 generalize hA:l1++op::l2=A at*
 have hlp:(A++tail).toArray.toList.take A.length=A:=by simp
 have hld:(A++tail).toArray.toList.drop A.length=tail:=by simp
 have hpA:A[l1.length]? =some op:=by rw[<-hA];simp
 have hAlen:A.length=l1.length+1+l2.length:=by rw[<-hA];simp;omega
 obtain⟨T1,Mf1,Sf1,kf1,hM1,hS1,hst1,hbig,hrt2⟩:=h.out;have hrt3:=fun g=>(hrt2 g).out
 let T2:G->Nat->Ty:=fun g=>Classical.choose (hrt3 g)
 have hrt4: ∀g,∃(Mf2:Nat->List Own) (Sf2:Nat->List (Nat×TypeId×Ty)) (kf2:Nat->Kind),Mf2 0=[]/\Sf2 0=[]/\
     (∀i o,l2[i]? =some o->St1 P A.toArray (Lg g) Φ (l1.length+1+i) o (kAt l2 (T2 g) ((d0,Tg g)::kAt l1 T1 K l1.length) i) (Mf2 i) (Sf2 i) (T2 g i) (Mf2 (i+1)) (Sf2 (i+1)) (kf2 i))/\JO P c (kAt l2 (T2 g) ((d0,Tg g)::kAt l1 T1 K l1.length) l2.length) (Lg g) Φ (A++tail).toArray tail Q:=fun g=>Classical.choose_spec (hrt3 g)
 have hbk':backOK A.toArray=true:=by unfold regOK at hreg;rw[Bool.and_eq_true]at hreg;exact hreg.1
 have hord':ordOK A.toArray=true:=by unfold regOK at hreg;rw[Bool.and_eq_true]at hreg;exact hreg.2
 let T:Nat->Ty:=fun j=>if j<l1.length then T1 j else .any
 let TG:G->Nat->Ty:=fun g j=>if j<l1.length then T1 j else if j=l1.length then Tg g else T2 g (j-(l1.length+1))
 have hKA1: ∀T':Nat->Ty,(∀j,j<l1.length->T' j=T1 j)->∀n,n<=l1.length->kAt A T' K n=kAt l1 T1 K n:=by
   intro T' hT' n
   induction n with
   |zero=>intro _;rfl
   |succ n ih=>
     intro hn;rw[kAt,kAt,ih (by omega),<-hA,List.getElem?_append_left (by omega),hT' n (by omega)]
 have hTG1: ∀g j,j<l1.length->TG g j=T1 j:=fun g j hj=>by simp[TG,hj]
 have hKA2: ∀g n,kAt A (TG g) K (l1.length+1+n)=kAt l2 (T2 g) ((d0,Tg g)::kAt l1 T1 K l1.length) n:=by
   intro g n
   induction n with
   |zero=>
     show putK ((A[l1.length]?).bind (·.dst)) (TG g l1.length) (kAt A (TG g) K l1.length)=_;rw[hKA1 _ (hTG1 g) _ (Nat.le_refl _),hpA,Option.bind_some,hop,show TG g l1.length=Tg g by simp[TG]]
     rfl
   |succ n ih=>
     show putK ((A[l1.length+1+n]?).bind (·.dst)) (TG g (l1.length+1+n)) (kAt A (TG g) K (l1.length+1+n))=putK ((l2[n]?).bind (·.dst)) (T2 g n) _;rw[ih]
     congr 1
     · congr 1
       rw[<-hA,List.getElem?_append_right (by omega),show l1.length+1+n-l1.length=n+1 by omega]
       rfl
     · simp[TG,show ¬l1.length+1+n<l1.length by omega,show l1.length+1+n≠l1.length by omega]
 have hquA: ∀(j:Nat) (oj:Oper),A[j]? =some oj->isAlloc oj=false/\ ∀t p x,oj.op≠ .store t p x:=by
   intro j oj hj;unfold quietOK at hqu;have h1:=List.all_eq_true.1 hqu oj (by simp;exact List.mem_of_getElem? hj);simp only[Bool.and_eq_true,Bool.not_eq_true']at h1;exact⟨h1.1,fun t p x e=>by rw[e]at h1;simp at h1⟩
 have hMS1: ∀j,j<=l1.length->Mf1 j=[]/\Sf1 j=[]:=by
   intro j
   induction j with
   |zero=>intro _;exact⟨hM1,hS1⟩
   |succ j ih=>
     intro hj;obtain⟨e1,e2⟩:=ih (by omega);have ho:l1[j]? =some l1[j]:=List.getElem?_eq_getElem (by omega);have h1:=hst1 j _ ho;rw[e1,e2]at h1;obtain⟨q1,q2⟩:=hquA j l1[j] (by rw[<-hA,List.getElem?_append_left (by omega)];exact ho);obtain⟨g1,g2,_⟩:=h1.quiet (L:=Lq) (K2:=kAt l1 T1 K j) (fun _ h=>h) (fun s U h=>.inr h) q1 q2;exact⟨g1,g2⟩
 have hst2: ∀g j o,l2[j]? =some o->∃kd,St1 P A.toArray (Lg g) Φ (l1.length+1+j) o (kAt l2 (T2 g) ((d0,Tg g)::kAt l1 T1 K l1.length) j) [] [] (T2 g j) [] [] kd:=by
   intro g;obtain⟨Mf2,Sf2,kf2,hM2,hS2,hs2,_⟩:=hrt4 g;have hMS2: ∀j,j<=l2.length->Mf2 j=[]/\Sf2 j=[]:=by
     intro j
     induction j with
     |zero=>intro _;exact⟨hM2,hS2⟩
     |succ j ih=>
       intro hj;obtain⟨e1,e2⟩:=ih (by omega);have ho:l2[j]? =some l2[j]:=List.getElem?_eq_getElem (by omega);have h1:=hs2 j _ ho;rw[e1,e2]at h1;obtain⟨q1,q2⟩:=hquA (l1.length+1+j) l2[j] (by rw[<-hA,List.getElem?_append_right (by omega),show l1.length+1+j-l1.length=j+1 by omega];exact ho);obtain⟨g1,g2,_⟩:=h1.quiet (L:=Lg g) (K2:=kAt l2 (T2 g) ((d0,Tg g)::kAt l1 T1 K l1.length) j) (fun _ h=>h) (fun s U h=>.inr h) q1 q2;exact⟨g1,g2⟩
   intro j o ho;have hj:j<l2.length:=(List.getElem?_eq_some_iff.1 ho).1;have h1:=hs2 j o ho;obtain⟨e1,e2⟩:=hMS2 j (by omega);rw[e1,e2]at h1;obtain⟨q1,q2⟩:=hquA (l1.length+1+j) o (by rw[<-hA,List.getElem?_append_right (by omega),show l1.length+1+j-l1.length=j+1 by omega];exact ho);exact(h1.quiet (L:=Lg g) (K2:=kAt l2 (T2 g) ((d0,Tg g)::kAt l1 T1 K l1.length) j) (fun _ h=>h) (fun s U h=>.inr h) q1 q2).2.2
 have hstA: ∀(L':List Own) (T':Nat->Ty),(∀m∈Lq,m∈L')->(∀j,j<l1.length->T' j=T1 j)->∀i o,A.toArray[i]? =some o->i<l1.length->∃kd,St1 P A.toArray L' Φ i o (kAt A.toArray.toList T' K i) [] [] (T' i) [] [] kd:=by
   intro L' T' hL' hT' i o hi hlt;have hi':A[i]? =some o:=by simpa using hi
   obtain⟨q1,q2⟩:=hquA i o hi';have ho:l1[i]? =some o:=by rw[<-hA,List.getElem?_append_left hlt]at hi';exact hi'
   have h1:=hst1 i o ho;obtain⟨e1,e2⟩:=hMS1 i (by omega);rw[e1,e2,Nat.zero_add,<-hKA1 T' hT' i (by omega),<-hT' i hlt]at h1;exact(h1.quiet hL' (fun s U h=>.inr h) q1 q2).2.2
 have hstB: ∀g i o,A.toArray[i]? =some o->l1.length<i->∃kd,St1 P A.toArray (Lg g) Φ i o (kAt A.toArray.toList (TG g) K i) [] [] (TG g i) [] [] kd:=by
   intro g i o hi hge;have hi':A[i]? =some o:=by simpa using hi
   have ho:l2[i-(l1.length+1)]? =some o:=by
     rw[<-hA,List.getElem?_append_right (by omega)]at hi';rw[show i-l1.length=(i-(l1.length+1))+1 by omega]at hi'
     simpa using hi'
   have h1:=hst2 g _ o ho;rw[<-hKA2,show l1.length+1+(i-(l1.length+1))=i by omega]at h1;have hTi:TG g i=T2 g (i-(l1.length+1)):=by simp[TG,show ¬i<l1.length by omega,show ¬i=l1.length by omega]
   rw[hTi];exact h1
 have hafter: ∀j,l1.length<j->j<A.length->befHas (Region.before A.toArray) j l1.length=true:=fun j h1 h2=>by
   have:=List.all_eq_true.1 haf (j-(l1.length+1)) (List.mem_range.2 (by omega));rw[show l1.length+1+(j-(l1.length+1))=j by omega]at this;exact this
 have hnn: ∀(i:Nat) (o:Oper) (d:Nat),A.toArray[i]? =some o->o.dst=some d->d<c.n:=by
   intro i o d hi hd;have:=Array.all_eq_true_iff_forall_mem.1 hdn o (Array.mem_of_getElem? hi);rw[hd]at this
   simpa using this
 have hnal: ∀(j:Nat) (oj:Oper) (t:TypeId),A.toArray[j]? =some oj->oj.op≠ .alloc t:=by
   intro j oj t hj e;have:=(hquA j oj (by simpa using hj)).1
   simp[isAlloc,e]at this
 have hpA':A.toArray[l1.length]? =some op:=by simpa using hpA
 refine Z48 (Q:=Q) A.length hmx hbk hsy (fun D a w'=>(D.getD l1.length false=false/\ ∃E,RI P A.toArray c K [] L Φ T (fun _=>[]) (fun _=>[]) w.heap.size D E a w')\/
     (D.getD l1.length false=true/\ ∃(g:G) (B:Nat) (E:Nat->Prop),Stat0 A.toArray c [] (Lg g) (fun _=>[]) (fun _=>[]) B/\RI P A.toArray c K [] (Lg g) Φ (TG g) (fun _=>[]) (fun _=>[]) B D E a w')) ?_ ?_ ?_
 · intro w' hw'
   have hs':SA c K L Φ E a w':=by
     rcases hw' with rfl|rfl
     · exact hsa
     · exact hsa.drew
   have hno: ∀(n j:Nat),(Array.replicate n false).getD j false=false:=by
     intro n j;rw[Array.getD_eq_getD_getElem?,Array.getElem?_replicate]
     split<;>simp
   refine .inl ⟨hno _ _,E,hs'.n,hs'.d,hs'.wf,fun j hj=>absurd hj (by rw[hno];simp),fun s T' hs _=>hs'.k s T' hs,fun j o d _ hj=>absurd hj (by rw[hno];simp),hs'.l,hs'.f,fun _ _ _=>⟨(fun _ h=>by cases h),(fun _ h=>by cases h)⟩,fun j oj d t hj hop=>absurd hop (hnal j oj t hj),fun j1 _ o1 _ _ _ t1 _ _ h1 _ p1=>absurd p1 (hnal j1 o1 t1 h1),hs'.x,hs'.keeps,?_⟩;rcases hw' with rfl|rfl<;>exact Nat.le_refl _
 · rw[hlp,hld]
   rintro D a' w' i o hs hI hi hd hr;have hi':i<A.toArray.size:=(Array.getElem?_eq_some_iff.1 hi).1;have hdf:D.getD i false=false:=by
     have hlt:i<D.size:=by omega
     simp only[Array.getD_eq_getD_getElem?,Array.getElem?_eq_getElem hlt,Option.getD_some]at hd ⊢;exact hd
   have hsize: ∀j,(D.setIfInBounds i true).getD j false=true↔j=i\/D.getD j false=true:=fun j=>Z2L (by omega);have keepP:i≠l1.length->(D.setIfInBounds i true).getD l1.length false=D.getD l1.length false:=by
     intro hne;cases hq:D.getD l1.length false with
     |true=>exact(hsize _).2 (.inr hq)
     |false=>
       cases hq':(D.setIfInBounds i true).getD l1.length false with
       |false=>rfl
       |true=>
         rcases(hsize _).1 hq' with e|e
         · exact absurd e.symm hne
         · rw[hq]at e;cases e
   have quietAll: ∀(i:Nat) (o:Oper),A.toArray[i]? =some o->isLoud o=false->(fun _=>([]:List Own)) (i+1)=(fun _=>([]:List Own)) i/\(fun _=>([]:Sd)) (i+1)=(fun _=>([]:Sd)) i:=fun _ _ _ _=>⟨rfl,rfl⟩;rcases hI with⟨hp,E',hI⟩|⟨hp,g,B,E',hS,hI⟩
   · have hS0:Stat0 A.toArray c [] L (fun _=>[]) (fun _=>[]) w.heap.size:=⟨fun _ _=>rfl,fun _ _=>List.nodup_nil,hsa.ld,fun m hm=>Z1d (hsa.l m hm).2.choose_spec.1,hsa.may,hnn,hsa.keeps.size⟩
     by_cases hip:i=l1.length
     · subst hip
       rw[hpA']at hi;injection hi with hi
       subst hi;have hpre:=hI.pre hbk' hord' hpA' hdf hr;have hKeq:kAt A.toArray.toList T K l1.length=kAt l1 T1 K l1.length:=hKA1 T (fun j hj=>by simp[T,hj]) _ (Nat.le_refl _);rw[hKeq]at hpre;have hrun:=hbig E' w' a'.eval hpre hsa.ld;unfold wpOp;rw[hpA'];simp only;rw[if_pos (by simp[Region.wanted,hg])];refine .inl ?_;unfold Oper.wp;refine RunsP.upon hrun (fun v w'' ⟨g,E'',hk,hev,hwf,hT,hl,hnd,hmay⟩=>.inr ⟨(hsize _).2 (.inl rfl),g,w''.heap.size,E'',?_,?_⟩) (fun w'' ⟨hb,hk⟩=>?_)
       · refine⟨fun _ _=>rfl,fun _ _=>List.nodup_nil,hnd,fun m hm=>Z1d (hl m hm).2.choose_spec.1,fun m hm=>?_,hnn,?_⟩
         · rcases hmay m hm with h1|h1
           · obtain⟨m',hm',e⟩:=List.mem_map.1 h1
             rw[<-e];exact hsa.may m' hm'
           · have:=hI.keeps.size
             exact .inr (by omega)
         · exact Nat.le_trans hI.keeps.size hk.size
       · refine RI.retype (hI.big hs hord' hpA' hdf hr hnal (fun d hd=>hnn _ _ d hpA' hd) hk hev hwf hT hl hsa.may) fun j oj hoj hdone=>?_
         rcases(hsize j).1 hdone with rfl|hdone
         · simp[TG]
         · rcases Nat.lt_trichotomy j l1.length with h1|h1|h1
           · simp[TG,T,h1,Nat.ne_of_lt h1]
           · rw[h1]at hdone;rw[hdone]at hdf;cases hdf
           · have hjA:j<A.length:=by simpa using (Array.getElem?_eq_some_iff.1 hoj).1
             have:=Z2j hbk' hI.cl j l1.length (hI.cl j hdone) (hafter j h1 hjA);rw[this]at hdf;cases hdf
       · have hsub: ∀b,b∈L.map (·.b)->E' b:=fun b hb=>by obtain⟨m,hm,rfl⟩:=List.mem_map.1 hb;exact(hI.l m hm).1
         have hev:Ev E' w' E' w'':=Ev.of_keeps (hk.mono fun b _=>hsub b);refine(hpan hb).out E' a' w'' ⟨hI.n,hI.d,fun b hb=>Nat.lt_of_lt_of_le (hI.wf b hb) hk.size,(fun s T h=>by cases h),(fun _ h=>by cases h),List.nodup_nil,fun F hF=>(hI.f F hF).ev hev,hI.x,hsa.xs,hI.keeps.step hk fun b hb=>?_,(fun _ h=>by cases h)⟩;obtain⟨m,hm,rfl⟩:=List.mem_map.1 hb;exact hsa.may m hm
     · refine wpOp_mono (fun a'' w'' hI'=>.inl ⟨by rw[keepP hip];exact hp,hI'⟩) (hI.step1 hS0 quietAll hbk' hord' hs hi hd hr (hstA L T hq1 (fun j hj=>by simp[T,hj]) i o hi (by
         rcases Nat.lt_or_ge i l1.length with h1|h1
         · exact h1
         · have:=Z2j hbk' hI.cl i l1.length hr (hafter i (by omega) (by simpa using hi'))
           rw[this]at hp;cases hp)))
   · have hip:i≠l1.length:=fun e=>by subst e;rw[hdf]at hp;cases hp
     refine wpOp_mono (fun a'' w'' hI'=>.inr ⟨by rw[keepP hip];exact hp,g,B,?_⟩) (hI.step1 hS quietAll hbk' hord' hs hi hd hr (by
       rcases Nat.lt_or_ge i l1.length with h1|h1
       · exact hstA (Lg g) (TG g) (hq2 g) (hTG1 g) i o hi h1
       · exact hstB g i o hi (by omega)))
     obtain⟨E'',hI'⟩:=hI';exact⟨E'',hS,hI'⟩
 · rw[hlp,hld]
   rintro D a' w' hs hall hI;have hpd:D.getD l1.length false=true:=hall _ (by simp;omega);rcases hI with⟨hp,_⟩|⟨_,g,B,E',hS,hI⟩
   · rw[hpd]at hp;cases hp
   · have hlen:A.length=A.toArray.size:=by simp
     obtain⟨_,_,_,_,_,_,hfin⟩:=hrt4 g;refine hfin.out E' a' w' ⟨hI.n,hI.d,hI.wf,?_,hI.l,hS.nd,hI.f,hI.x,hsa.xs,hI.keeps,hS.may⟩;intro s T' hl;rw[<-hKA2 g l2.length,<-hAlen]at hl;have hl':look (kAt A.toArray.toList (TG g) K A.toArray.size) s=some T':=by simpa using hl
     rcases Z5x s A.toArray.size (Nat.le_refl _) T' hl' with⟨j,oj,hj,hoj,hdj,rfl⟩|⟨hn,hk⟩
     · exact hI.t j oj s hoj (hall j (by simpa using hj)) hdj
     · exact hI.k s T' hk fun j oj hoj _=>hn j oj (Array.getElem?_eq_some_iff.1 hoj).1 hoj
theorem J.regBgPm{id:Nat}{dr:Bool}{l:List Oper}(p m:Nat){op:Oper}{d0:Nat}{G:Type}{Bad:Prop}{ch:List PanicEntry}(hpan:Bad->JX c [] [] Φ (.panic ch) Q)(Tg:G->Ty)(Lg:G->List Own)(Lq:List Own)(hp:l[p]? =some op)(hpm:Nat.blt p m=true)(hop:op.dst=some d0)(hg:op.guard=none)
   (hmx:P.follows .mixedOrders=true)(hok:(backOK l.toArray&&syncOK l.toArray m&&regOK (l.take m).toArray&&quietOK (l.take m).toArray m)=true)(hml:(l.take m).length=m)
   (hdn:((l.take m).toArray.all fun o=>match o.dst with|some d=>decide (d<c.n)|none=>true)=true)
   (hq1: ∀o∈Lq,o∈L)(hq2: ∀g,∀o∈Lq,o∈Lg g)
   (haf:((List.range ((l.drop (p+1)).take (m-(p+1))).length).all fun j=>befHas (Region.before (l.take m).toArray) ((l.take p).length+1+j) (l.take p).length)=true)
   (h:RT P (l.take m).toArray Lq Φ 0 (l.take p) K [] [] (fun K1 _ _=>BigObP P L Φ (Kn K1) op Bad ch Tg Lg/\ ∀g,RT P (l.take m).toArray (Lg g) Φ ((l.take p).length+1) ((l.drop (p+1)).take (m-(p+1))) ((d0,Tg g)::K1) [] [] (fun K2 _ _=>JO P c K2 (Lg g) Φ l.toArray (l.drop m) Q))):
   J P c K L Φ (.region id l.toArray dr) Q:=by
 have hc:=ZeQ hp (Nat.le_of_ble_eq_true hpm);have key:=J.regBgP (P:=P) (c:=c) (K:=K) (L:=L) (Φ:=Φ) (Q:=Q) (id:=id) (dr:=dr) (l1:=l.take p) (l2:=(l.drop (p+1)).take (m-(p+1))) (tail:=l.drop m) (op:=op) (d0:=d0) hpan Tg Lg Lq hop hg hmx;rw[hc,hml,List.take_append_drop]at key;exact key hok hdn hq1 hq2 haf h
theorem RT.biggP{ops:Array Oper}{op:Oper}{l2:List Oper}{i:Nat}{d0:Nat}{G:Type}{Bad:Prop}{ch:List PanicEntry}{Tg:G->Ty}{Lg:G->List Own}{k:G->List (Nat×Ty)->List Own->Sd->Prop}
 (h:BigObP P L Φ (Kn K) op Bad ch Tg Lg)(n: ∀g,RT P ops (Lg g) Φ i l2 ((d0,Tg g)::K) [] [] (k g)):
 RT P ops Lq Φ i [] K [] [] (fun K1 _ _=>BigObP P L Φ (Kn K1) op Bad ch Tg Lg/\ ∀g,RT P ops (Lg g) Φ i l2 ((d0,Tg g)::K1) [] [] (k g)):=⟨h,n⟩
theorem JO.tgOf{ops:Array Oper}{o:Oper}{rest:List Oper}{g d s:Nat}{b:Bool}{π:Prop}{T:Ty}(hg:o.guard=some (g,b))(hs:((ops[g]?).bind (·.dst))=some s)(hd0:o.dst=some d)(hd:Nat.blt d c.n=true)
   (hv: ∀E a w,SA c K L Φ E a w->(π/\slotOf a s= .bool b)\/(¬π/\slotOf a s≠ .bool b))(h:π->Ob P L Φ (KnG π K) o T)
   (hn:JO P c ((d,.opt π T)::K) L Φ ops rest Q):JO P c K L Φ ops (o::rest) Q:=by
 refine⟨fun E a w ha=>?_⟩;unfold wpList;rcases hv E a w ha with⟨hp,hv⟩|⟨hp,hv⟩
 · have hw:Region.wanted o (yielded ops a.tmps)=true:=by rw[Z6C hg hs hv];simp
   rw[hw,if_pos rfl];refine .inl ?_;unfold Oper.wp;refine Runs.upon (h hp E w a.eval ⟨ha.wf,ha.l,ha.f,fun x T' _ hx=>?_⟩) fun v w' ⟨hk,hT⟩=>hn.out E _ _ ?_
   · rcases hx with hx|⟨π',hx,hi⟩
     · exact Z2c ha hx
     · exact(Z2c ha hx).1 (hi hp)
   · have hev:Ev E w E w':=Ev.of_keeps hk.of_noX
     rw[hd0];exact ha.put (dst:=some d) hev (fun b hb=>Nat.lt_of_lt_of_le (ha.wf b hb) hk.size) ⟨fun _=>hT,fun hn=>absurd hp hn⟩ (fun d' e=>by injection e with e;subst e;exact Nat.blt_eq.mp hd) (fun o ho=>Own.keep0 (ha.l o ho) hev hk) ha.ld (ha.keeps.step hk fun _=>False.elim) ha.may
 · have hw:Region.wanted o (yielded ops a.tmps)=false:=Zbb hg hs rfl hv
   rw[hw,if_neg (by decide)];refine hn.out E _ _ ?_;rw[hd0];exact ha.put (dst:=some d) (T:=.opt π T) (Ev.refl _ _) ha.wf ⟨fun h=>absurd h hp,fun _=>rfl⟩ (fun d' e=>by injection e with e;subst e;exact Nat.blt_eq.mp hd) ha.l ha.ld ha.keeps ha.may
theorem JO.tg{ops:Array Oper}{o:Oper}{rest:List Oper}{g d s:Nat}{b cc:Bool}{T:Ty}(hg:o.guard=some (g,b))(hs:((ops[g]?).bind (·.dst))=some s)(hk:look K s=some (.is (.bool cc)))(hd0:o.dst=some d)(hd:Nat.blt d c.n=true)
   (h:cc=b->Ob P L Φ (KnG (cc=b) K) o T)(hn:JO P c ((d,.opt (cc=b) T)::K) L Φ ops rest Q):JO P c K L Φ ops (o::rest) Q:=
 JO.tgOf hg hs hd0 hd (fun E a w ha=>by
   have h2:slotOf a s= .bool cc:=ha.k s _ hk
   by_cases e:cc=b
   · exact .inl ⟨e,by rw[h2,e]⟩
   · exact .inr ⟨e,by rw[h2];intro h;injection h with h;exact e h⟩) h hn
theorem JO.tgg{ops:Array Oper}{o:Oper}{rest:List Oper}{g d s:Nat}{b cc:Bool}{π:Prop}{T:Ty}(hg:o.guard=some (g,b))(hs:((ops[g]?).bind (·.dst))=some s)(hk:look K s=some (.opt π (.is (.bool cc))))(hd0:o.dst=some d)(hd:Nat.blt d c.n=true)
   (h:(π/\cc=b)->Ob P L Φ (KnG (π/\cc=b) K) o T)(hn:JO P c ((d,.opt (π/\cc=b) T)::K) L Φ ops rest Q):JO P c K L Φ ops (o::rest) Q:=
 JO.tgOf hg hs hd0 hd (fun E a w ha=>by
   have h2:(Ty.opt π (.is (.bool cc))).p E (slotOf a s) w:=ha.k s _ hk
   by_cases e:π
   · have h3:slotOf a s= .bool cc:=h2.1 e
     by_cases e':cc=b
     · exact .inl ⟨⟨e,e'⟩,by rw[h3,e']⟩
     · exact .inr ⟨fun h=>e' h.2,by rw[h3];intro h;injection h with h;exact e' h⟩
   · have h3:slotOf a s=undef:=h2.2 e
     exact .inr ⟨fun h=>e h.1,by rw[h3];intro h;cases h⟩) h hn
structure Enc (α:Type) where
 sz:Nat
 R:α->List Value->World->Prop
 v:List Value->Value
 pos:0<sz
 len: ∀{x:α} {cs:List Value} {w:World},R x cs w->cs.length=sz
 one: ∀{x:α} {cs:List Value} {w:World},R x cs w->∀u∈cs,u.oneCell'=true
 nu: ∀{x:α} {cs:List Value} {w:World},R x cs w->∃u,cs[0]? =some u/\u≠undef
 inj: ∀{cs cs':List Value},cs.length=sz->cs'.length=sz->v cs=v cs'->cs=cs'
structure Cel {α:Type} (E:Enc α) where
 x:α
 cs:List Value
 h:cs.length=E.sz
 o: ∀u∈cs,u.oneCell'=true
section
variable{α:Type}{E:Enc α}
theorem Cel.ext'{p q:Cel E}(h1:p.x=q.x)(h2:p.cs=q.cs):p=q:=by
 cases p;cases q
 simp_all
def CelR(p:Cel E)(w:World):Prop:=E.R p.x p.cs w
def CelF(E:Enc α)(ps:List (Cel E))(w:World):Prop:=∀p∈ps,CelR p w
abbrev GoS:=Option Addr->Nat->Nat->World->Prop
abbrev noS:GoS:=fun _ _ _ _=>True
def SlE(E:Enc α)(G:GoS)(xs:List α)(v:Value)(w:World):Prop:=∃(ps:List (Cel E)) (a:Option Addr) (len cap:Nat),ps.map Cel.x=xs/\v= .slice a len cap/\len<=cap/\RowG Cel.cs E.sz ps a len w/\CelF E ps w/\G a len cap w
def Enc.T(E:Enc α)(x:α)(v:Value)(w:World):Prop:=∃cs,v=E.v cs/\E.R x cs w
theorem ZcD{G:GoS}{xs:List α}{X:Nat->Prop}{v:Value}{w:World}(h:Pers X w (SlE E G xs v)):
   ∃(ps:List (Cel E)) (a:Option Addr) (len cap:Nat),ps.map Cel.x=xs/\v= .slice a len cap/\len<=cap/\ps.length=len/\(∃b o,len≠0->a=some ⟨b,o,none⟩)/\Pers X w (RowG Cel.cs E.sz ps a len)/\Pers X w (CelF E ps)/\Pers X w (G a len cap):=by
 obtain⟨ps,a,len,cap,hm,hv,hlc,hR,hF,hG⟩:=h.now;have hb: ∃b o,len≠0->a=some ⟨b,o,none⟩:=by
   by_cases hn:len=0
   · exact⟨0,0,fun h=>absurd hn h⟩
   · obtain⟨b,o,e,_⟩:=hR.2 hn
     exact⟨b,o,fun _=>e⟩
 have hne: ∀b o,a=some ⟨b,o,none⟩->len≠0->¬X b:=by
   rintro b o rfl h0 hE;have hl:0<ps.length:=by rw[hR.1];omega
   obtain⟨u,hu,hun⟩:=E.nu (hF ps[0] (List.getElem_mem hl));have h1:=Z5v hR (List.getElem?_eq_getElem hl) 0 u hu;obtain⟨cs,t,fr,hb1,hb2⟩:=ZbG h1;have hbs:=Z1d hb1;have hk:Keeps X w {w with heap:=w.heap.setIfInBounds b (.cells (Array.replicate cs.size undef) t fr)}:=by
     refine⟨rfl,rfl,rfl,by simp,fun q hq hx=>?_,fun q cs' t' fr' hq=>?_⟩
     · show(w.heap.setIfInBounds b _)[q]? =_
       rw[Array.getElem?_setIfInBounds_ne (fun e:b=q=>hx (by rw[<-e];exact hE))]
     · by_cases e:b=q
       · subst e
         rw[hb1]at hq;injection hq with hq
         injection hq with e1 e2 e3
         subst e1 e2 e3;exact⟨Array.replicate cs.size undef,by show(w.heap.setIfInBounds b _)[b]? =_;simp[hbs],by simp⟩
       · exact⟨cs',by show(w.heap.setIfInBounds b _)[q]? =_;rw[Array.getElem?_setIfInBounds_ne e];exact hq,rfl⟩
   obtain⟨ps',a',len',cap',hm',hv',_,hR',hF',_⟩:=h _ hk;rw[hv]at hv';injection hv' with e1 e2 e3
   subst e1 e2 e3;have hl':0<ps'.length:=by rw[hR'.1];omega
   obtain⟨u',hu',hun'⟩:=E.nu (hF' ps'[0] (List.getElem_mem hl'));have h2:=Z5v hR' (List.getElem?_eq_getElem hl') 0 u' hu';have hb':({w with heap:=w.heap.setIfInBounds b (.cells (Array.replicate cs.size undef) t fr)}:World).heap[b]? =some (.cells (Array.replicate cs.size undef) t fr):=by
     show(w.heap.setIfInBounds b _)[b]? =_
     simp[hbs]
   rw[Z1I hb']at h2;have h3:(o+E.sz*0+0)<cs.size:=(Array.getElem?_eq_some_iff.1 hb2).1;rw[Array.getElem?_eq_getElem (by simpa using h3)]at h2;exact hun' (by simpa using h2.symm)
 have key: ∀w',Keeps X w w'->RowG Cel.cs E.sz ps a len w'/\CelF E ps w'/\G a len cap w':=by
   intro w' hk;obtain⟨ps',a',len',cap',hm',hv',_,hR',hF',hG'⟩:=h w' hk;rw[hv]at hv';injection hv' with e1 e2 e3
   subst e1 e2 e3;have e:ps'=ps:=by
     refine List.ext_getElem (by rw[hR.1,hR'.1]) fun i h1 h2=>?_;have hrow:(ps'.map Cel.x)[i]? =(ps.map Cel.x)[i]? :=by rw[hm,hm']
     simp only[List.getElem?_map,List.getElem?_eq_getElem h1,List.getElem?_eq_getElem h2,Option.map_some,Option.some.injEq]at hrow;refine Cel.ext' hrow ?_;have h0:len≠0:=by rw[<-hR.1];omega
     obtain⟨b,o,rfl,_⟩:=hR.2 h0;refine List.ext_getElem (by rw[ps[i].h,ps'[i].h]) fun j j1 j2=>?_;have k1:=Z5v hR (List.getElem?_eq_getElem h2) j _ (List.getElem?_eq_getElem j2);have k2:=Z5v hR' (List.getElem?_eq_getElem h1) j _ (List.getElem?_eq_getElem j1);obtain⟨cs,t,fr,q1,q2⟩:=ZbG k1;have q3:=hk.get q1 (hne b o rfl h0);rw[Z1I q3,q2]at k2;injection k2 with k2
     exact k2.symm
   subst e;exact⟨hR',hF',hG'⟩
 exact⟨ps,a,len,cap,hm,hv,hlc,hR.1,hb,fun w' hk=>(key w' hk).1,fun w' hk=>(key w' hk).2.1,fun w' hk=>(key w' hk).2.2⟩
end
section
variable{α:Type}{E:Enc α}
theorem SA.tell{s:Nat}{v:Value}{X:Nat->Prop}{a:Act}{w:World}(hs:SA c K L Φ X a w)(hv:a.tmps.getD s undef=v)(Ψ:List (World->Prop))(hΨ: ∀F∈Ψ,Pers X w F):SA c ((s,.is v)::K) L (Ψ++Φ) X a w:=by
 refine⟨hs.n,hs.d,hs.wf,fun s' T' hl'=>?_,hs.l,hs.ld,fun F hF=>?_,hs.x,hs.xs,hs.keeps,hs.may⟩
 · simp only[look]at hl'
   cases hq:Nat.beq s s' with
   |true=>
     rw[hq,cond_true]at hl';injection hl' with hl'
     subst hl';rw[<-Nat.eq_of_beq_eq_true hq];exact hv
   |false=>rw[hq,cond_false]at hl';exact hs.k s' T' hl'
 · rcases List.mem_append.1 hF with hF|hF
   · exact hΨ F hF
   · exact hs.f F hF
theorem SA.openE{G:GoS}{s:Nat}{xs:List α}{X:Nat->Prop}{a:Act}{w:World}(h:look K s=some (.rep (SlE E G xs)))(hs:SA c K L Φ X a w):
  ∃(ps:List (Cel E)) (ad:Option Addr) (len cap b o:Nat),ps.map Cel.x=xs/\ps.length=len/\len<=cap/\(len≠0->ad=some ⟨b,o,none⟩)/\SA c ((s,.is (.slice ad len cap))::K) L (G ad len cap::RowG Cel.cs E.sz ps ad len::CelF E ps::Φ) X a w:=by
 obtain⟨ps,ad,len,cap,hm,hv,hlc,hl,⟨b,o,hbo⟩,p1,p2,p3⟩:=ZcD (hs.k s _ h:Pers X w (SlE E G xs (a.tmps.getD s undef)));refine⟨ps,ad,len,cap,b,o,hm,hl,hlc,hbo,hs.tell hv [G ad len cap,RowG Cel.cs E.sz ps ad len,CelF E ps] fun F hF=>?_⟩;simp only[List.mem_cons,List.mem_nil_iff,or_false]at hF;rcases hF with rfl|rfl|rfl
 · exact p3
 · exact p1
 · exact p2
theorem J.openE{G:GoS}{x:Code}{s:Nat}{xs:List α}(h:look K s=some (.rep (SlE E G xs)))
  (hj: ∀(ps:List (Cel E)) (a:Option Addr) (len cap b o:Nat),ps.map Cel.x=xs->ps.length=len->len<=cap->(len≠0->a=some ⟨b,o,none⟩)->J P c ((s,.is (.slice a len cap))::K) L (G a len cap::RowG Cel.cs E.sz ps a len::CelF E ps::Φ) x Q):J P c K L Φ x Q:=by
 refine⟨fun X a w hs=>?_⟩;obtain⟨ps,ad,len,cap,b,o,h1,h2,h3,h4,h5⟩:=hs.openE h;exact(hj ps ad len cap b o h1 h2 h3 h4).out X a w h5
theorem JO.openEv{G:GoS}{ops:Array Oper}{l:List Oper}{s:Nat}{xs:List α}(h:look K s=some (.rep (SlE E G xs)))
  (hj: ∀(a:Option Addr) (len cap:Nat),xs.length=len->len<=cap->JO P c ((s,.is (.slice a len cap))::K) L (SlE E G xs (.slice a len cap)::Φ) ops l Q):JO P c K L Φ ops l Q:=by
 refine⟨fun X a w hs=>?_⟩;have hp:Pers X w (SlE E G xs (a.tmps.getD s undef)):=hs.k s _ h;obtain⟨ps,ad,len,cap,hm,hv,hlc,hl,_⟩:=ZcD hp;refine(hj ad len cap (by rw[<-hm,List.length_map,hl]) hlc).out X a w (hs.tell hv [_] fun F hF=>?_);rw[List.mem_singleton.1 hF,<-hv];exact hp
theorem SA.openT{s:Nat}{x:α}{X:Nat->Prop}{a:Act}{w:World}(h:look K s=some (.rep (E.T x)))(hs:SA c K L Φ X a w):
  ∃p:Cel E,p.x=x/\SA c ((s,.is (E.v p.cs))::K) L (CelR p::Φ) X a w:=by
 have hp:Pers X w (E.T x (a.tmps.getD s undef)):=hs.k s _ h;obtain⟨cs,hv,hR⟩:=hp.now;refine⟨⟨x,cs,E.len hR,E.one hR⟩,rfl,hs.tell hv [_] fun F hF=>?_⟩;rw[List.mem_singleton.1 hF];intro w' hk;obtain⟨cs',hv',hR'⟩:=hp w' hk;rw[hv]at hv';rw[show CelR (E:=E) ⟨x,cs,E.len hR,E.one hR⟩ w'=E.R x cs w' from rfl,E.inj (E.len hR) (E.len hR') hv'];exact hR'
theorem J.openT{y:Code}{s:Nat}{x:α}(h:look K s=some (.rep (E.T x)))
  (hj: ∀p:Cel E,p.x=x->J P c ((s,.is (E.v p.cs))::K) L (CelR p::Φ) y Q):J P c K L Φ y Q:=by
 refine⟨fun X a w hs=>?_⟩;obtain⟨p,h1,h2⟩:=hs.openT h;exact(hj p h1).out X a w h2
theorem JO.openT{ops:Array Oper}{l:List Oper}{s:Nat}{x:α}(h:look K s=some (.rep (E.T x)))
  (hj: ∀p:Cel E,p.x=x->JO P c ((s,.is (E.v p.cs))::K) L (CelR p::Φ) ops l Q):JO P c K L Φ ops l Q:=by
 refine⟨fun X a w hs=>?_⟩;obtain⟨p,h1,h2⟩:=hs.openT h;exact(hj p h1).out X a w h2
theorem Sub.slE{G:GoS}{ps:List (Cel E)}{a:Option Addr}{len cap:Nat}(hlc:len<=cap)(hR:RowG Cel.cs E.sz ps a len∈Φ)(hF:CelF E ps∈Φ)(hG: ∀X w,(∀F∈Φ,Pers X w F)->Pers X w (G a len cap)):Sub L Φ (.is (.slice a len cap)) (.rep (SlE E G (ps.map Cel.x))):=fun X v w hf e=>by
 rw[show v=_ from e];exact fun w' hk=>⟨ps,a,len,cap,rfl,rfl,hlc,hf.2 _ hR w' hk,hf.2 _ hF w' hk,hG X w hf.2 w' hk⟩
theorem Sub.slENil{G:GoS}(hG: ∀w,G none 0 0 w):Sub L Φ (.is (.slice none 0 0)) (.rep (SlE E G [])):=fun X v w hf e=>by
 rw[show v=_ from e];exact fun w' _=>⟨[],none,0,0,rfl,rfl,Nat.le_refl _,⟨rfl,fun h=>absurd rfl h⟩,(fun p hp=>by cases hp),hG w'⟩
abbrev FrS(N:Nat)(e:TypeId)(sz:Nat):GoS:=fun a len cap=>FreshW N e a len cap sz
theorem FrS.nil{N:Nat}{e:TypeId}{sz:Nat}(w:World):FrS N e sz none 0 0 w:=fun h=>absurd rfl h
theorem SlE.weak{G G':GoS}{xs:List α}{v:Value}{w:World}(h:SlE E G xs v w)(hG: ∀a len cap,G a len cap w->G' a len cap w):SlE E G' xs v w:=by
 obtain⟨ps,a,len,cap,h1,h2,h3,h4,h5,h6⟩:=h;exact⟨ps,a,len,cap,h1,h2,h3,h4,h5,hG _ _ _ h6⟩
theorem CelF.nil(w:World):CelF E [] w:=fun p hp=>by cases hp
theorem CelF.snoc{ps:List (Cel E)}{p:Cel E}{w:World}(h:CelF E ps w)(hp:CelR p w):CelF E (ps++[p]) w:=fun q hq=>by
 rcases List.mem_append.1 hq with hq|hq
 · exact h q hq
 · rcases List.mem_cons.1 hq with rfl|hq
   · exact hp
   · cases hq
theorem Cel.hlen(p:Cel E):p.cs.length=E.sz:=p.h
theorem Sub.slEO{N:Nat}{e:TypeId}{ps:List (Cel E)}{st:Option (Nat×List Value)}{cap:Nat}(hG:Grows Cel.cs E.sz ps st cap)(hR:RowG Cel.cs E.sz ps (adO st) ps.length∈Φ)(hF:CelF E ps∈Φ)(hW:FreshW N e (adO st) ps.length (capO st cap) E.sz∈Φ):Sub L Φ (.is (sliceO st ps.length cap)) (.rep (SlE E (FrS N e E.sz) (ps.map Cel.x))):=by
 obtain⟨h1,h2⟩:=hG.sl;rw[h1];exact Sub.slE h2 hR hF fun X w hf=>hf _ hW
end
abbrev NH(N:Nat):World->Prop:=fun w=>N<=w.heap.size
section
variable{N:Nat}
theorem CallP.ofN{x:Code}(hN:NH N∈Φ0)(hf:P.funcs[f]? =some fn)(hb:fn.body=some x)(hn:fn.ntmps=n)(hl:Nat.ble As.length n=true)(he: ∀args w,(callFunc f args).run P w= .ok (.enter f args) w)
   (h: ∀(E:Nat->Prop) (W:World),N<=W.heap.size->(∀b,b∈L0.map (·.b)->E b)->J P ⟨n,E,fun q=>q∈L0.map (·.b),W,[]⟩ (params 0 As) L0 Φ0 x (bodyPost P fn (PostP E W L0 Bad ch Zp L1 R))):CallP P f L0 Φ0 As Bad ch Zp L1 R:=
 ⟨he,fun E w vs hw hM hnd hΦ ht=>by
   refine calls_of_wp hf hb ?_;rw[hn];refine(h E w (hΦ _ hN).now (fun b hb=>by obtain⟨m,hm,rfl⟩:=List.mem_map.1 hb;exact(hM m hm).1)).out E _ w ?_;have hs:=Z4h (n:=n) hw ht (Nat.le_of_ble_eq_true hl);exact⟨hs.n,hs.d,hw,hs.k,hM,hnd,hΦ,fun _ h=>h,hw,.refl _ _,fun o ho=>.inl (List.mem_map_of_mem ho)⟩⟩
end
abbrev sC(s:ByteArray):List Value:=[.string s]
abbrev iC(n:Int):List Value:=[.int .i64 n]
theorem JO.callPvK{ops:Array Oper}{rest:List Oper}{d:Nat}{ty:TypeId}{pos:String}{after:Array Edge}{cal:Operand}{xs:List Operand}{ats:Array TypeId}{cp:List Value}(hf:opTy K cal=some (.is (.func (.func f) #[] cp.toArray)))(hc:CallP P f L0 Φ0 (As++cp.map Ty.is) Bad ch Zp L1 R)(hd:Nat.blt d c.n=true)(hL:L.Perm (L0++Lr))(hΦ: ∀F∈Φ0,F∈Φ)(ha:Args L Φ (Kn K) xs As)
  (hp:Bad->JX c K Lr Φ (.panic ch) Q)
  (hn: ∀z,Zp z->JO P c ((d,R z)::K) (L1 z++Lr) Φ ops rest Q):JO P c K L Φ ops (⟨some d,.call {callee:=.value cal,args:=xs.toArray,argTypes:=ats},ty,pos,after,none⟩::rest) Q:=
 JO.callPv hf hc (fun d' e=>by injection e with e;subst e;exact Nat.blt_eq.mp hd) hL hΦ ha hp hn
theorem Z87{dst:Option Nat}{ty:TypeId}{pos:String}{after:Array Edge}{g:Option (Nat×Bool)}{xs:List Operand}{ats:Array TypeId}(hf:H (.func f) (.is (.func (.func f) #[] #[])))(hc:CallP P f L0 Φ0 As Bad ch Zp L1 R)(hL:L.Perm (L0++Lr))(hΦ: ∀F∈Φ0,F∈Φ)(ha:Args L Φ H xs As):
  BigObP P L Φ H ⟨dst,.call {callee:=.value (.func f),args:=xs.toArray,argTypes:=ats},ty,pos,after,g⟩ Bad ch (G:={z:Z // Zp z}) (fun g=>R g.1) (fun g=>L1 g.1++Lr):=
 Zcc (cp:=[]) hf (by rw[List.map_nil,List.append_nil];exact hc) hL hΦ ha
theorem Zlo{P:Program}{L:List Own}{Φ:List (World->Prop)}{H:Know}{dst:Option Nat}{ty:TypeId}{pos:String}{after:Array Edge}{g:Option (Nat×Bool)}{xt yt:TypeId}{x y:Operand}{k:IntKind}{a b cc:Int}(hx:H x (.is (.int k a)))(hy:H y (.is (.int k b)))(hc:k.wrap (a+b)=cc):
 Ob P L Φ H ⟨dst,.binOp .add xt x y yt,ty,pos,after,g⟩ (.is (.int k cc)):=hc ▸ Z6F hx hy
section
variable{after:Array Edge}
theorem Ob.im{o:Oper}{T T':Ty}(h:Ob P L Φ H o T)(hS:Sub [] [] T T'):Ob P L Φ H o T':=fun E w ρ hp=>
 Runs.mono (h E w ρ hp) fun v w' ⟨hk,e⟩=>⟨hk,hS E v w' ⟨(fun _ h=>by cases h),(fun _ h=>by cases h)⟩ e⟩
theorem ZdY{xt yt:TypeId}{x y:Operand}{s t:ByteArray}{cc:Bool}(hx:H x (.is (.string s)))(hy:H y (.is (.string t)))(hc:(!seq s t)=cc):Ob P L Φ H ⟨dst,.binOp .neq xt x y yt,ty,pos,after,g⟩ (.is (.bool cc)):=hc ▸ Z4Z hx hy
end
def ordOK1(ops:Array Oper):Bool:=
 let B:=Region.before ops
 let l:=ops.toList.zipIdx
 l.all fun(oi,i)=>l.all fun(oj,j)=>i==j||
   (match oi.dst with|none=>true|some d=>(oj.dst != some d)&&(!(oj.looksAt ops).contains d||(if i<j then befHas B j i else befHas B i j)))
theorem Zau{ops:Array Oper}(h:ordOK1 ops=true){i j:Nat}{oi oj:Oper}(hi:ops[i]? =some oi)(hj:ops[j]? =some oj)(hne:i≠j):
   (∀d,oi.dst=some d->oj.dst≠some d/\(d∈oj.looksAt ops->if i<j then befHas (Region.before ops) j i=true else befHas (Region.before ops) i j=true))/\True:=by
 refine⟨?_,trivial⟩;unfold ordOK1 at h;have h1:=List.all_eq_true.1 (List.all_eq_true.1 h (oi,i) (by rw[List.mk_mem_zipIdx_iff_getElem?];simpa using hi)) (oj,j) (by rw[List.mk_mem_zipIdx_iff_getElem?];simpa using hj);simp only[Bool.or_eq_true,beq_iff_eq,hne,false_or]at h1;intro d hd;rw[hd]at h1;simp only[Bool.and_eq_true,bne_iff_ne,ne_eq,Bool.or_eq_true,Bool.not_eq_true']at h1;refine⟨h1.1,fun hm=>?_⟩;rcases h1.2 with h3|h3
 · have:(oj.looksAt ops).contains d=true:=List.contains_iff_mem.2 hm
   rw[h3]at this;cases this
 · split at h3
   · rename_i hlt;rw[if_pos hlt];exact h3
   · rename_i hlt;rw[if_neg hlt];exact h3
theorem slotTy1{P:Program}{ops:Array Oper}{c:Ctx}{K:List (Nat×Ty)}{Lm Lk:List Own}{Φ:List (World->Prop)}{T:Nat->Ty}{Mf:Nat->List Own}{Sf:Nat->Sd}{B1:Nat}{D:Array Bool}{E:Nat->Prop}{a:Act}{w:World}
   (hI:RI P ops c K Lm Lk Φ T Mf Sf B1 D E a w)(hb:backOK ops=true)(ho:ordOK1 ops=true){i:Nat}{o:Oper}(hi:ops[i]? =some o)(hd:D.getD i false=false)(hr:readyAt ops D i):
   ∀s T',s∈o.looksAt ops->look (kAt ops.toList T K i) s=some T'->T'.p E (slotOf a s) w:=by
 intro s T' hs hl;have key:=Z5x (ops:=ops) (K:=K) (T:=T) s;rcases key i (Nat.le_of_lt (Array.getElem?_eq_some_iff.1 hi).1) T' hl with⟨j,oj,hj,hoj,hdj,rfl⟩|⟨hno,hk⟩
 · have hord:=((Zau ho hoj hi (by omega)).1 s hdj).2 hs
   rw[if_pos hj]at hord;exact hI.t j oj s hoj (Z2j hb hI.cl i j hr hord) hdj
 · refine hI.k s T' hk fun j oj hoj hdone hdj=>?_
   rcases Nat.lt_or_ge j i with hlt|hge
   · exact hno j oj hlt hoj hdj
   · have hne:j≠i:=fun e=>by subst e;rw[hdone]at hd;cases hd
     have hord:=((Zau ho hoj hi hne).1 s hdj).2 hs;rw[if_neg (by omega)]at hord;have:=Z2j hb hI.cl j i (hI.cl j hdone) hord;rw[hd]at this;cases this
theorem RI.pre1{P:Program}{ops:Array Oper}{c:Ctx}{K:List (Nat×Ty)}{Lm Lk:List Own}{Φ:List (World->Prop)}{T:Nat->Ty}{Mf:Nat->List Own}{Sf:Nat->Sd}{B1:Nat}{D:Array Bool}{E:Nat->Prop}{a:Act}{w:World}
   (hI:RI P ops c K Lm Lk Φ T Mf Sf B1 D E a w)(hb:backOK ops=true)(ho:ordOK1 ops=true){i:Nat}{o:Oper}(hi:ops[i]? =some o)(hd:D.getD i false=false)(hr:readyAt ops D i):
   Pre Lk Φ (Kn (kAt ops.toList T K i)) o E w a.eval:=by
 refine⟨hI.wf,hI.l,hI.f,fun x T' hx hT=>?_⟩;cases x with
 |tmp s=>exact slotTy1 hI hb ho hi hd hr s T' (Z6t hx) hT
 |const v=>simp only[Kn,opTy,Option.some.injEq]at hT;subst hT;rfl
 |global g=>simp only[Kn,opTy,Option.some.injEq]at hT;subst hT;rfl
 |func f=>simp only[Kn,opTy,Option.some.injEq]at hT;subst hT;rfl
section
variable{D:Array Bool}{E:Nat->Prop}{a:Act}{w:World}{i:Nat}{o:Oper}
theorem RI.big1{Tf:Nat->Ty}{B1:Nat}(hI:RI P ops c K [] L Φ Tf (fun _=>[]) (fun _=>[]) B1 D E a w)(hs:D.size=ops.size)(ho:ordOK1 ops=true)(hi:ops[i]? =some o)(hd:D.getD i false=false)(hr:readyAt ops D i)
   (hna: ∀(j:Nat) (oj:Oper) (t:TypeId),ops[j]? =some oj->oj.op≠ .alloc t)(hn: ∀d,o.dst=some d->d<c.n){L':List Own}{T':Ty}{E':Nat->Prop}{v:Value}{w':World}(hk:Keeps (fun b=>b∈L.map (·.b)) w w')(hev:Ev E w E' w')(hwf: ∀b,E' b->b<w'.heap.size)(hT:T'.p E' v w')
   (hL: ∀m∈L',m.at E' w')(hmay: ∀m∈L,c.X0 m.b\/c.W0.heap.size<=m.b):
   RI P ops c K [] L' Φ (fun j=>if j=i then T' else Tf j) (fun _=>[]) (fun _=>[]) w'.heap.size (D.setIfInBounds i true) E' (a.put o.dst v) w':=by
 have hi':i<ops.size:=(Array.getElem?_eq_some_iff.1 hi).1;have hgs: ∀j,(D.setIfInBounds i true).getD j false=true↔j=i\/D.getD j false=true:=fun j=>Z2L (by omega);have hdst: ∀j oj d,ops[j]? =some oj->D.getD j false=true->oj.dst=some d->o.dst≠some d:=by
   intro j oj d hj hdone hdj;have hne:i≠j:=fun e=>by subst e;rw[hdone]at hd;cases hd
   intro e;exact((Zau ho hi hj hne).1 d e).1 hdj
 refine⟨by rw[Z7l];exact hI.n,by rw[Z5K];exact hI.d,hwf,?_,?_,?_,hL,fun F hF=>(hI.f F hF).ev hev,fun _ _ _=>⟨(fun _ h=>by cases h),(fun _ h=>by cases h)⟩,fun j oj d t hj hop=>absurd hop (hna j oj t hj),fun j1 _ o1 _ _ _ t1 _ _ h1 _ p1=>absurd p1 (hna j1 o1 t1 h1),?_,?_,Nat.le_refl _⟩
 · intro j hj
   rcases(hgs j).1 hj with rfl|hj
   · exact fun o' ho' e he hbe=>(hgs e.on).2 (.inr (hr o' ho' e he hbe))
   · exact fun o' ho' e he hbe=>(hgs e.on).2 (.inr (hI.cl j hj o' ho' e he hbe))
 · intro s T' hs hno
   rw[Z1r _ _ _ _ (hno i o hi ((hgs i).2 (.inl rfl)))];exact Ty.mono hev (hI.k s T' hs fun j oj hj hdone=>hno j oj hj ((hgs j).2 (.inr hdone)))
 · intro j oj d hj hdone hdj
   by_cases e:j=i
   · subst e
     rw[hi]at hj;injection hj with hj
     subst hj;rw[if_pos rfl,hdj,Z3y _ _ _ (by rw[hI.n];exact hn d hdj)];exact hT
   · have hdone:D.getD j false=true:=((hgs j).1 hdone).resolve_left e
     rw[if_neg e,Z1r _ _ _ _ (hdst j oj d hj hdone hdj)];exact Ty.mono hev (hI.t j oj d hj hdone hdj)
 · exact fun b hx=>(hev.same b (hI.wf b (hI.x b hx))).2 (hI.x b hx)
 · exact hI.keeps.step hk fun b hb=>by
     obtain⟨m,hm,rfl⟩:=List.mem_map.1 hb;exact hmay m hm
end
theorem BigOb.ofOb{P:Program}{L:List Own}{Φ:List (World->Prop)}{H:Know}{o:Oper}{T:Ty}(h:Ob P L Φ H o T):BigOb P L Φ H o (G:=Unit) (fun _=>T) (fun _=>L):=fun E w ρ hp hnd=>
 Runs.mono (h E w ρ hp) fun v w' ⟨h1,h2⟩=>⟨(),E,h1.of_noX,Ev.of_keeps h1.of_noX,fun b hb=>Nat.lt_of_lt_of_le (hp.wf b hb) h1.size,h2,fun m hm=>Own.keep0 (hp.l m hm) (Ev.of_keeps h1.of_noX) h1,hnd,fun m hm=>.inl (List.mem_map_of_mem hm)⟩
structure MachB (P:Program) (c:Ctx) (K:List (Nat×Ty)) (Φ:List (World->Prop)) (A:List Oper) {S:Type} (LS:S->List Own) (TS:S->Nat->Ty) (inv:S->Array Bool->Prop) (Bad:Prop) (ch:List PanicEntry) (s:S) (D:Array Bool) (i:Nat) (o:Oper):Prop where
 g:o.guard=none
 big:BigOb P (LS s) Φ (Kn (kAt A (TS s) K i)) o (G:={s':S // inv s' (D.setIfInBounds i true)/\ ∀j,D.getD j false=true->TS s' j=TS s j}) (fun g=>TS g.1 i) (fun g=>LS g.1)\/
   BigObP P (LS s) Φ (Kn (kAt A (TS s) K i)) o Bad ch (G:={s':S // inv s' (D.setIfInBounds i true)/\ ∀j,D.getD j false=true->TS s' j=TS s j}) (fun g=>TS g.1 i) (fun g=>LS g.1)
theorem J.regMach{id:Nat}{dr:Bool}{l:List Oper}(m:Nat){S:Type}{Bad:Prop}{ch:List PanicEntry}(LS:S->List Own)(TS:S->Nat->Ty)(inv:S->Array Bool->Prop)(bg:Nat->Bool)(s0:S)(h0L:LS s0=L)(h0:inv s0 (Array.replicate m false))
   (hpan:Bad->JX c [] [] Φ (.panic ch) Q)
   (hmx:P.follows .mixedOrders=true)(hok:(backOK l.toArray&&syncOK l.toArray m&&backOK (l.take m).toArray&&ordOK1 (l.take m).toArray&&(l.take m).all fun o=> !isAlloc o)=true)(hml:(l.take m).length=m)
   (hdn:((l.take m).toArray.all fun o=>match o.dst with|some d=>decide (d<c.n)|none=>true)=true)
   (hq: ∀s D i o,D.size=m->inv s D->(l.take m)[i]? =some o->bg i=false->D.getD i false=false->readyAt (l.take m).toArray D i->inv s (D.setIfInBounds i true)/\o.guard=none/\Ob P (LS s) Φ (Kn (kAt (l.take m) (TS s) K i)) o (TS s i))
   (hb: ∀s D i o,D.size=m->inv s D->(l.take m)[i]? =some o->bg i=true->D.getD i false=false->readyAt (l.take m).toArray D i->MachB P c K Φ (l.take m) LS TS inv Bad ch s D i o)
   (hfin: ∀s D,D.size=m->(∀i,i<m->D.getD i false=true)->inv s D->JO P c (kAt (l.take m) (TS s) K m) (LS s) Φ l.toArray (l.drop m) Q):
   J P c K L Φ (.region id l.toArray dr) Q:=by
 refine⟨?_⟩;intro E a w hsa;simp only[Bool.and_eq_true]at hok;obtain⟨⟨⟨⟨hbk,hsy⟩,hbk'⟩,hord'⟩,hqu⟩:=hok;have hld:l.toArray.toList.drop m=l.drop m:=by simp
 generalize hA:l.take m=A at*
 have hlp:l.toArray.toList.take m=A:=by rw[<-hA]
 have hquA: ∀(j:Nat) (oj:Oper),A[j]? =some oj->isAlloc oj=false:=by
   intro j oj hj;have h1:=List.all_eq_true.1 hqu oj (List.mem_of_getElem? hj)
   simpa using h1
 have hnn: ∀(i:Nat) (o:Oper) (d:Nat),A.toArray[i]? =some o->o.dst=some d->d<c.n:=by
   intro i o d hi hd;have:=Array.all_eq_true_iff_forall_mem.1 hdn o (Array.mem_of_getElem? hi);rw[hd]at this
   simpa using this
 have hnal: ∀(j:Nat) (oj:Oper) (t:TypeId),A.toArray[j]? =some oj->oj.op≠ .alloc t:=by
   intro j oj t hj e;have:=hquA j oj (by simpa using hj)
   simp[isAlloc,e]at this
 refine Z48 (Q:=Q) m hmx hbk hsy (fun D a w'=>∃(s:S) (B:Nat) (E:Nat->Prop),inv s D/\Stat0 A.toArray c [] (LS s) (fun _=>[]) (fun _=>[]) B/\RI P A.toArray c K [] (LS s) Φ (TS s) (fun _=>[]) (fun _=>[]) B D E a w') ?_ ?_ ?_
 · intro w' hw'
   rw[hlp];have hs':SA c K L Φ E a w':=by
     rcases hw' with rfl|rfl
     · exact hsa
     · exact hsa.drew
   have hno: ∀(n j:Nat),(Array.replicate n false).getD j false=false:=by
     intro n j;rw[Array.getD_eq_getD_getElem?,Array.getElem?_replicate]
     split<;>simp
   have hsz:A.toArray.size=m:=by simp[hml]
   rw[hsz];subst h0L;refine⟨s0,w.heap.size,E,h0,⟨fun _ _=>rfl,fun _ _=>List.nodup_nil,hsa.ld,fun m hm=>Z1d (hsa.l m hm).2.choose_spec.1,hsa.may,hnn,hsa.keeps.size⟩,hs'.n,hs'.d,hs'.wf,fun j hj=>absurd hj (by rw[hno];simp),fun s T' hs _=>hs'.k s T' hs,fun j o d _ hj=>absurd hj (by rw[hno];simp),hs'.l,hs'.f,fun _ _ _=>⟨(fun _ h=>by cases h),(fun _ h=>by cases h)⟩,fun j oj d t hj hop=>absurd hop (hnal j oj t hj),fun j1 _ o1 _ _ _ t1 _ _ h1 _ p1=>absurd p1 (hnal j1 o1 t1 h1),hs'.x,hs'.keeps,?_⟩;rcases hw' with rfl|rfl<;>exact Nat.le_refl _
 · rw[hlp,hld]
   rintro D a' w' i o hs ⟨s,B,E',hinv,hS,hI⟩ hi hd hr;have hi':i<A.toArray.size:=(Array.getElem?_eq_some_iff.1 hi).1;have hiA:A[i]? =some o:=by simpa using hi
   have hsm:D.size=m:=by rw[hs];simp[hml]
   have hdf:D.getD i false=false:=by
     have hlt:i<D.size:=by omega
     simp only[Array.getD_eq_getD_getElem?,Array.getElem?_eq_getElem hlt,Option.getD_some]at hd ⊢;exact hd
   have hsize: ∀j,(D.setIfInBounds i true).getD j false=true↔j=i\/D.getD j false=true:=fun j=>Z2L (by omega);have hM:MachB P c K Φ A LS TS inv Bad ch s D i o:=by
     cases hbi:bg i with
     |true=>exact hb s D i o hsm hinv hiA hbi hdf hr
     |false=>
       obtain⟨hinv',hg,hob⟩:=hq s D i o hsm hinv hiA hbi hdf hr;exact⟨hg,.inl fun E1 w1 ρ hp hnd=>Runs.mono (BigOb.ofOb hob E1 w1 ρ hp hnd) fun v w2 ⟨_,E2,h⟩=>⟨⟨s,hinv',fun _ _=>rfl⟩,E2,h⟩⟩
   obtain⟨hg,hbig⟩:=hM;have hpre:=hI.pre1 hbk' hord' hi hdf hr;have hgo: ∀(v:Value) (w'':World),(∃(g:{s':S // inv s' (D.setIfInBounds i true)/\ ∀j,D.getD j false=true->TS s' j=TS s j}) (E'':Nat->Prop),Keeps (fun b=>b∈(LS s).map (·.b)) w' w''/\Ev E' w' E'' w''/\(∀b,E'' b->b<w''.heap.size)/\(TS g.1 i).p E'' v w''/\(∀m∈LS g.1,m.at E'' w'')/\((LS g.1).map (·.b)).Nodup/\ ∀m∈LS g.1,m.b∈(LS s).map (·.b)\/w'.heap.size<=m.b)->
       ∃(s:S) (B:Nat) (E:Nat->Prop),inv s (D.setIfInBounds i true)/\Stat0 A.toArray c [] (LS s) (fun _=>[]) (fun _=>[]) B/\RI P A.toArray c K [] (LS s) Φ (TS s) (fun _=>[]) (fun _=>[]) B (D.setIfInBounds i true) E (a'.put o.dst v) w'':=by
     rintro v w'' ⟨⟨s',hinv',hTT⟩,E'',hk,hev,hwf,hT,hl,hnd,hmay⟩;refine⟨s',w''.heap.size,E'',hinv',?_,?_⟩
     · refine⟨fun _ _=>rfl,fun _ _=>List.nodup_nil,hnd,fun m hm=>Z1d (hl m hm).2.choose_spec.1,fun m hm=>?_,hnn,?_⟩
       · rcases hmay m hm with h1|h1
         · obtain⟨m',hm',e⟩:=List.mem_map.1 h1
           rw[<-e];exact hS.may m' hm'
         · have:=hI.keeps.size
           exact .inr (by omega)
       · exact Nat.le_trans hI.keeps.size hk.size
     · refine RI.retype (hI.big1 hs hord' hi hdf hr hnal (fun d hd=>hnn _ _ d hi hd) hk hev hwf hT hl hS.may) fun j oj hoj hdone=>?_
       by_cases hji:j=i
       · subst hji;simp
       · rw[if_neg hji]
         rcases(hsize j).1 hdone with e|hdone
         · exact absurd e hji
         · exact(hTT j hdone).symm
   unfold wpOp;rw[hi];simp only;rw[if_pos (by simp[Region.wanted,hg])];refine .inl ?_;unfold Oper.wp;rcases hbig with hbig|hbig
   · exact Runs.upon (hbig E' w' a'.eval hpre hS.nd) hgo
   · refine RunsP.upon (hbig E' w' a'.eval hpre hS.nd) hgo (fun w'' ⟨hb,hk⟩=>?_)
     have hsub: ∀b,b∈(LS s).map (·.b)->E' b:=fun b hb=>by obtain⟨m,hm,rfl⟩:=List.mem_map.1 hb;exact(hI.l m hm).1
     have hev:Ev E' w' E' w'':=Ev.of_keeps (hk.mono fun b _=>hsub b);refine(hpan hb).out E' a' w'' ⟨hI.n,hI.d,fun b hb=>Nat.lt_of_lt_of_le (hI.wf b hb) hk.size,(fun s T h=>by cases h),(fun _ h=>by cases h),List.nodup_nil,fun F hF=>(hI.f F hF).ev hev,hI.x,hsa.xs,hI.keeps.step hk fun b hb=>?_,(fun _ h=>by cases h)⟩;obtain⟨m,hm,rfl⟩:=List.mem_map.1 hb;exact hS.may m hm
 · rw[hlp,hld]
   rintro D a' w' hs hall ⟨s,B,E',hinv,hS,hI⟩;have hsm:D.size=m:=by rw[hs];simp[hml]
   have hal: ∀i,i<m->D.getD i false=true:=fun i hi=>hall i (by simp[hml];exact hi);refine(hfin s D hsm hal hinv).out E' a' w' ⟨hI.n,hI.d,hI.wf,?_,hI.l,hS.nd,hI.f,hI.x,hsa.xs,hI.keeps,hS.may⟩;intro sl T' hl;have hl':look (kAt A.toArray.toList (TS s) K A.toArray.size) sl=some T':=by simpa [hml] using hl
   rcases Z5x sl A.toArray.size (Nat.le_refl _) T' hl' with⟨j,oj,hj,hoj,hdj,rfl⟩|⟨hn,hk⟩
   · exact hI.t j oj sl hoj (hall j (by simpa using hj)) hdj
   · exact hI.k sl T' hk fun j oj hoj _=>hn j oj (Array.getElem?_eq_some_iff.1 hoj).1 hoj
theorem BigOb.to{P:Program}{L:List Own}{Φ:List (World->Prop)}{H:Know}{o:Oper}{G G':Type}{Tg:G->Ty}{Lg:G->List Own}{Tg':G'->Ty}{Lg':G'->List Own}(h:BigOb P L Φ H o Tg Lg)(f:G->G')(hT: ∀g,Tg' (f g)=Tg g)(hL: ∀g,(Lg g).Perm (Lg' (f g))):BigOb P L Φ H o Tg' Lg':=fun E w ρ hp hnd=>
 Runs.mono (h E w ρ hp hnd) fun v w' ⟨g,E',h1,h2,h3,h4,h5,h6,h7⟩=>⟨f g,E',h1,h2,h3,by rw[hT];exact h4,fun m hm=>h5 m ((hL g).mem_iff.2 hm),(((hL g).map _).nodup_iff).1 h6,fun m hm=>h7 m ((hL g).mem_iff.2 hm)⟩
theorem BigObP.to{P:Program}{L:List Own}{Φ:List (World->Prop)}{H:Know}{o:Oper}{Bad:Prop}{ch:List PanicEntry}{G G':Type}{Tg:G->Ty}{Lg:G->List Own}{Tg':G'->Ty}{Lg':G'->List Own}(h:BigObP P L Φ H o Bad ch Tg Lg)(f:G->G')(hT: ∀g,Tg' (f g)=Tg g)(hL: ∀g,(Lg g).Perm (Lg' (f g))):BigObP P L Φ H o Bad ch Tg' Lg':=fun E w ρ hp hnd=>
 RunsP.mono (h E w ρ hp hnd) (fun _ h=>h) fun v w' ⟨g,E',h1,h2,h3,h4,h5,h6,h7⟩=>⟨f g,E',h1,h2,h3,by rw[hT];exact h4,fun m hm=>h5 m ((hL g).mem_iff.2 hm),(((hL g).map _).nodup_iff).1 h6,fun m hm=>h7 m ((hL g).mem_iff.2 hm)⟩
theorem BigOb.ofM{P:Program}{L L':List Own}{Φ:List (World->Prop)}{H:Know}{o:Oper}{T:Ty}(h:ObM P L Φ H L o T L')(hm:L'.map (·.b)=L.map (·.b)):BigOb P L Φ H o (G:=Unit) (fun _=>T) (fun _=>L'):=fun E w ρ hp hnd=>
 Runs.mono (h E w ρ hp hp.l hnd) fun v w' ⟨h1,h2,h3⟩=>by
  have hsub: ∀b,b∈L.map (·.b)->E b:=fun b hb=>by obtain⟨m,hm,rfl⟩:=List.mem_map.1 hb;exact(hp.l m hm).1
  exact⟨(),E,h1,Ev.of_keeps (h1.mono fun b _=>hsub b),fun b hb=>Nat.lt_of_lt_of_le (hp.wf b hb) h1.size,h2,h3,by rw[hm];exact hnd,fun m hm'=>.inl (by rw[<-hm];exact List.mem_map_of_mem hm')⟩
abbrev SEs:=List (ByteArray×Value×Nat)
def sEnt(e:ByteArray×Value×Nat):MapEntry:={key:=.string e.1,val:=e.2.1,born:=e.2.2}
abbrev sObj(l:SEs)(cl:Nat):Obj:=.map (l.map sEnt).toArray cl
theorem ZkD{l:SEs}{cl:Nat}: ∀cs t fr,sObj l cl≠ .cells cs t fr:=fun _ _ _ h=>by cases h
def sFind(n:ByteArray):SEs->Nat->Option (Nat×Value)
 |[],_=>none
 |e::l,i=>if n=e.1 then some (i,e.2.1)else sFind n l (i+1)
theorem Z5O(n:ByteArray): ∀(l:SEs) (i:Nat),Instr.findNow .string (.string n) (l.map sEnt) i=some (sFind n l i)
 |[],_=>rfl
 |e::l,i=>by
   rw[List.map_cons,Instr.findNow,sFind]
   by_cases h:n=e.1
   · have hb:(n==e.1)=true:=(MapKept.bytes_beq _ _).2 h
     simp only[sEnt,Instr.sameNow,hb,if_pos h]
   · have hb:(n==e.1)=false:=by
       cases hq:(n==e.1)with
       |false=>rfl
       |true=>exact absurd ((MapKept.bytes_beq _ _).1 hq) h
     simp only[sEnt,Instr.sameNow,hb,if_neg h];exact Z5O n l (i+1)
def sGet(n:ByteArray):SEs->Option Value
 |[]=>none
 |e::l=>if n=e.1 then some e.2.1 else sGet n l
theorem Z7X(n:ByteArray): ∀(l:SEs) (i:Nat),(sFind n l i).map (·.2)=sGet n l
 |[],_=>rfl
 |e::l,i=>by
   rw[sFind,sGet]
   by_cases h:n=e.1
   · simp[h]
   · simp[h,Z7X n l (i+1)]
theorem ZhA(l:SEs)(e:ByteArray×Value×Nat):(l.map sEnt).toArray.push (sEnt e)=((l++[e]).map sEnt).toArray:=by simp
theorem Zic{n:ByteArray}{l:SEs}(h: ∀e∈l,e.1≠n):sGet n l=none:=by
 induction l with
 |nil=>rfl
 |cons e l ih=>rw[sGet,if_neg (fun he=>h e List.mem_cons_self he.symm)];exact ih fun x hx=>h x (List.mem_cons_of_mem _ hx)
theorem Zka{n:ByteArray}{v:Value}{l:SEs}(h: ∀e∈l,e.1=n->e.2.1=v)(hm: ∃e∈l,e.1=n):sGet n l=some v:=by
 induction l with
 |nil=>obtain⟨e,he,_⟩:=hm;cases he
 |cons e l ih=>
   rw[sGet]
   by_cases hn:n=e.1
   · rw[if_pos hn,h e List.mem_cons_self hn.symm]
   · rw[if_neg hn]
     refine ih (fun x hx=>h x (List.mem_cons_of_mem _ hx)) ?_;obtain⟨x,hx,hxn⟩:=hm;rcases List.mem_cons.1 hx with rfl|hx
     · exact absurd hxn.symm hn
     · exact⟨x,hx,hxn⟩
section
variable{after:Array Edge}
theorem Z4W{kt:TypeId}{n:ByteArray}(hk':P.underlying kt=some .string)(w:World)(b:Bool):(Instr.checkKey b 10000 kt (.string n)).run P w= .ok () w:=MapKept.run_checkKey (k:=.string n) hk' (by simp[MapKept.IsKey]) b 9999
theorem Z2z{mt kt et:TypeId}{m k v:Operand}{M M':List Own}{b:Nat}{e:TypeId}{l:SEs}{cl:Nat}{n:ByteArray}{V:Value}(hm':P.underlying mt=some (.map kt et))(hk':P.underlying kt=some .string)(hm:H m (.is (.map (some b))))(hk:H k (.is (.string n)))(hv:H v (.is V))(hnew:sGet n l=none)
   (hu:Upd M ⟨b,e,.ob (sObj l cl)⟩ ⟨b,e,.ob (sObj (l++[(n,V,cl)]) (cl+1))⟩ M'):ObM P L Φ H M ⟨none,.insert mt m k v,ty,pos,after,g⟩ .any M':=
 Zmj (v:=undef) hu ZkD (fun _ _=>trivial) fun E w ρ hp hb=>by
   have e1:ρ m= .map (some b):=hp.x m _ (by simp[Op.operands]) hm;have e2:ρ k= .string n:=hp.x k _ (by simp[Op.operands]) hk;have e3:ρ v=V:=hp.x v _ (by simp[Op.operands]) hv;have hf:=MapKept.run_findKey (P:=P) (w:=w) hk' (Z5O n l 0);have hnone:sFind n l 0=none:=by
     have:=Z7X n l 0;rw[hnew]at this
     simpa using this
   rw[hnone]at hf;refine⟨.skip,?_,.inr ⟨rfl,rfl⟩⟩;rw[sObj,<-ZhA]
   simp[execOp,e1,e2,e3,Instr.mapUpdate,run_underlying hm',MapKept.run_getObj_map hb,Z4W hk',hf,Result.andThen,MapKept.run_setObj_map _ hb,sEnt]
theorem Zgi{mt kt et:TypeId}{m k:Operand}{b:Nat}{e:TypeId}{l:SEs}{cl:Nat}{n:ByteArray}{V z:Value}(hm':P.underlying mt=some (.map kt et))(hk':P.underlying kt=some .string)(hz:zeroOf P et=some z)(hm:H m (.is (.map (some b))))(hk:H k (.is (.string n)))
   (ho:⟨b,e,.ob (sObj l cl)⟩∈L)(hV:(sGet n l).getD z=V):Ob P L Φ H ⟨dst,.lookup mt m k false,ty,pos,after,g⟩ (.is V):=
 Z25 fun E w ρ hp=>by
   have e1:ρ m= .map (some b):=hp.x m _ (by simp[Op.operands]) hm;have e2:ρ k= .string n:=hp.x k _ (by simp[Op.operands]) hk;have hb:=Zfi (hp.l _ ho);have hf:=MapKept.run_findKey (P:=P) (w:=w) hk' (Z5O n l 0);have hfg:=Z7X n l 0;have hzv:(zeroValue et).run P w= .ok z w:=by
     unfold zeroOf at hz;cases hi:P.info? et with
     |none=>rw[hi]at hz;cases hz
     |some i=>rw[hi,Option.bind_some]at hz;simp[zeroValue,typeInfo,hi,hz]
   cases hq:sFind n l 0 with
   |none=>
     rw[hq]at hf hfg;rw[<-hfg]at hV;simp only[Option.map_none,Option.getD_none]at hV
     simp[execOp,e1,e2,Instr.lookup,run_underlying hm',MapKept.run_getObj_map hb,Z4W hk',hf,Result.andThen,hzv,hV]
   |some p=>
     obtain⟨j,v⟩:=p;rw[hq]at hf hfg;rw[<-hfg]at hV;simp only[Option.map_some,Option.getD_some]at hV;subst hV
     simp[execOp,e1,e2,Instr.lookup,run_underlying hm',MapKept.run_getObj_map hb,Z4W hk',hf,Result.andThen]
theorem Zj5{mt kt et:TypeId}{m k:Operand}{b:Nat}{e:TypeId}{l:SEs}{cl:Nat}{n:ByteArray}{V z:Value}{B:Bool}(hm':P.underlying mt=some (.map kt et))(hk':P.underlying kt=some .string)(hz:zeroOf P et=some z)(hm:H m (.is (.map (some b))))(hk:H k (.is (.string n)))
   (ho:⟨b,e,.ob (sObj l cl)⟩∈L)(hV:(sGet n l).getD z=V)(hB:(sGet n l).isSome=B):Ob P L Φ H ⟨dst,.lookup mt m k true,ty,pos,after,g⟩ (.is (.tuple #[V,.bool B])):=
 Z25 fun E w ρ hp=>by
   have e1:ρ m= .map (some b):=hp.x m _ (by simp[Op.operands]) hm;have e2:ρ k= .string n:=hp.x k _ (by simp[Op.operands]) hk;have hb:=Zfi (hp.l _ ho);have hf:=MapKept.run_findKey (P:=P) (w:=w) hk' (Z5O n l 0);have hfg:=Z7X n l 0;have hzv:(zeroValue et).run P w= .ok z w:=by
     unfold zeroOf at hz;cases hi:P.info? et with
     |none=>rw[hi]at hz;cases hz
     |some i=>rw[hi,Option.bind_some]at hz;simp[zeroValue,typeInfo,hi,hz]
   cases hq:sFind n l 0 with
   |none=>
     rw[hq]at hf hfg;rw[<-hfg]at hV hB;simp only[Option.map_none,Option.getD_none,Option.isSome_none]at hV hB;subst hB
     simp[execOp,e1,e2,Instr.lookup,run_underlying hm',MapKept.run_getObj_map hb,Z4W hk',hf,Result.andThen,hzv,hV]
   |some p=>
     obtain⟨j,v⟩:=p;rw[hq]at hf hfg;rw[<-hfg]at hV hB;simp only[Option.map_some,Option.getD_some,Option.isSome_some]at hV hB;subst hV hB
     simp[execOp,e1,e2,Instr.lookup,run_underlying hm',MapKept.run_getObj_map hb,Z4W hk',hf,Result.andThen]
end
theorem ZhZ{α:Type}{l:List α}(h:l.Nodup){i j:Nat}{x:α}(hi:l[i]? =some x)(hj:l[j]? =some x):i=j:=by
 obtain⟨l1,g1⟩:=List.getElem?_eq_some_iff.1 hi;obtain⟨l2,g2⟩:=List.getElem?_eq_some_iff.1 hj;rcases Nat.lt_trichotomy i j with hl|hl|hl
 · exact absurd (g1.trans g2.symm) (List.pairwise_iff_getElem.1 h i j l1 l2 hl)
 · exact hl
 · exact absurd (g2.trans g1.symm) (List.pairwise_iff_getElem.1 h j i l2 l1 hl)
structure MapS where
 mp:Option Nat
 es:SEs
 n:Nat
def mOwn(m:MapS):List Own:=match m.mp with|none=>[]|some r=>[⟨r,0,.ob (sObj m.es m.n)⟩]
structure MInv (kvs:List (ByteArray×Value)) (m:MapS) (d:Nat->Bool):Prop where
 a:d 0=m.mp.isSome
 b: ∀j,j<kvs.length->d (j+1)=true->d 0=true
 c: ∀e∈m.es,∃j kv,kvs[j]? =some kv/\d (j+1)=true/\e.1=kv.1/\e.2.1=kv.2
 e: ∀j kv,kvs[j]? =some kv->d (j+1)=true->∃e∈m.es,e.1=kv.1
section
variable{kvs:List (ByteArray×Value)}{m:MapS}{d d':Nat->Bool}
theorem MInv.start(h: ∀j,d j=false):MInv kvs ⟨none,[],0⟩ d:=⟨by rw[h];rfl,fun j _ hj=>by rw[h]at hj;(cases hj),(fun e he=>by cases he),(fun j kv _ hj=>by rw[h]at hj;cases hj)⟩
theorem MInv.make(h:MInv kvs m d)(h0:d 0=false)(hd: ∀j,d' j=true↔j=0\/d j=true)(r:Nat):MInv kvs ⟨some r,[],0⟩ d':=by
 have hf: ∀j,j<kvs.length->d (j+1)=true->False:=fun j hj h1=>by have:=h.b j hj h1;rw[h0]at this;cases this
 refine⟨by rw[(hd 0).2 (.inl rfl)];rfl,fun j _ _=>(hd 0).2 (.inl rfl),(fun e he=>by cases he),fun j kv hj h1=>?_⟩;rcases(hd _).1 h1 with e|h1
 · omega
 · exact(hf j (List.getElem?_eq_some_iff.1 hj).1 h1).elim
theorem MInv.other(h:MInv kvs m d){i:Nat}(hi:kvs.length<i)(hd: ∀j,d' j=true↔j=i\/d j=true):MInv kvs m d':=by
 have hs: ∀j,j<=kvs.length->d' j=d j:=fun j hj=>by
   cases hq:d j with
   |true=>exact(hd j).2 (.inr hq)
   |false=>
     cases hq':d' j with
     |false=>rfl
     | true => rcases(hd j).1 hq' with e|e
               · omega
               · rw[hq]at e;cases e
 refine⟨by rw[hs 0 (by omega)];exact h.a,fun j hj h1=>by rw[hs _ (by omega)]at h1 ⊢;exact h.b j hj h1,fun e he=>?_,fun j kv hj h1=>?_⟩
 · obtain⟨j,kv,h1,h2,h3⟩:=h.c e he
   exact⟨j,kv,h1,(hd _).2 (.inr h2),h3⟩
 · rw[hs _ (by have:=(List.getElem?_eq_some_iff.1 hj).1;omega)]at h1
   exact h.e j kv hj h1
theorem MInv.fresh(h:MInv kvs m d)(hnd:(kvs.map (·.1)).Nodup){j:Nat}{kv:ByteArray×Value}(hj:kvs[j]? =some kv)(h0:d (j+1)=false):sGet kv.1 m.es=none:=Zic fun e he hk=>by
 obtain⟨j',kv',h1,h2,h3,_⟩:=h.c e he;have hne:j≠j':=fun e=>by subst e;rw[h0]at h2;cases h2
 have e1:(kvs.map (·.1))[j]? =some kv.1:=by rw[List.getElem?_map,hj];rfl
 have e2:(kvs.map (·.1))[j']? =some kv.1:=by rw[List.getElem?_map,h1,<-hk,h3];rfl
 exact hne (ZhZ hnd e1 e2)
theorem MInv.ins(h:MInv kvs m d){j:Nat}{kv:ByteArray×Value}(hj:kvs[j]? =some kv)(h1:d 0=true)(hd: ∀k,d' k=true↔k=j+1\/d k=true):MInv kvs ⟨m.mp,m.es++[(kv.1,kv.2,m.n)],m.n+1⟩ d':=by
 have hd0:d' 0=true:=(hd 0).2 (.inr h1);refine⟨by rw[hd0,<-h1];exact h.a,fun _ _ _=>hd0,fun e he=>?_,fun k kv' hk h2=>?_⟩
 · rcases List.mem_append.1 he with he|he
   · obtain⟨j',kv',g1,g2,g3⟩:=h.c e he
     exact⟨j',kv',g1,(hd _).2 (.inr g2),g3⟩
   · rw[List.mem_singleton.1 he]
     exact⟨j,kv,hj,(hd _).2 (.inl rfl),rfl,rfl⟩
 · by_cases e:k=j
   · subst e
     rw[hk]at hj;injection hj with hj;subst hj
     exact⟨_,List.mem_append_right _ List.mem_cons_self,rfl⟩
   · rcases(hd _).1 h2 with e'|h2
     · omega
     · obtain⟨x,hx,he⟩:=h.e k kv' hk h2
       exact⟨x,List.mem_append_left _ hx,he⟩
theorem MInv.get(h:MInv kvs m d)(hnd:(kvs.map (·.1)).Nodup){j:Nat}{kv:ByteArray×Value}(hj:kvs[j]? =some kv)(hd:d (j+1)=true):sGet kv.1 m.es=some kv.2:=by
 refine Zka (fun e he hk=>?_) (h.e j kv hj hd);obtain⟨j',kv',h1,h2,h3,h4⟩:=h.c e he;have e1:(kvs.map (·.1))[j]? =some kv.1:=by rw[List.getElem?_map,hj];rfl
 have e2:(kvs.map (·.1))[j']? =some kv.1:=by rw[List.getElem?_map,h1,<-hk,h3];rfl
 have:j=j':=ZhZ hnd e1 e2;subst this;rw[hj]at h1;injection h1 with h1
 rw[h4,h1]
theorem MInv.some_(h:MInv kvs m d)(h0:d 0=true): ∃r,m.mp=some r:=by
 have:=h.a;rw[h0]at this;exact Option.isSome_iff_exists.1 this.symm
end
theorem fill1{sz:Nat}{z cs:List Value}{v:Value}(hz:z.length=sz)(hv:v.cells=cs.toArray)(hl:cs.length=sz)(hp:0<sz):fillOK (fun i=>some (i*sz,sz)) (1*sz) [(0,v)]=true/\fillV (fun i=>some (i*sz,sz)) (zeros z (1*sz)) [(0,v)]=cs:=by
 have hs:v.cells.size=sz:=by rw[hv];simpa using hl
 refine⟨?_,?_⟩
 · simp[fillOK,hs]
 · simp only[fillV,Nat.zero_mul]
   have hzl:(zeros z (1*sz)).length=sz:=by simp[zeros]
   have hzl':(zeros z sz).length=sz:=by simp[zeros]
   rw[hv];refine List.ext_getElem? fun j=>?_;rw[Z9k _ _ _ _ (by simp[hzl',hl])]
   by_cases hj:j<sz
   · rw[if_pos ⟨by omega,by simpa [hl] using hj⟩];simp
   · rw[if_neg (by simp[hl];omega),List.getElem?_eq_none (by omega),List.getElem?_eq_none (by omega)]
def Enc.flat{α:Type}(E:Enc α):Prop:=∀p:Cel E,(E.v p.cs).cells=p.cs.toArray
section
variable{α:Type}{E:Enc α}{after:Array Edge}
theorem JO.buildE{ops:Array Oper}{rest:List Oper}{d:Nat}{t e:TypeId}{x:Operand}{z:List Value}{p:Cel E}(hE:E.flat)(hsh:SlShape P t e E.sz z)(hzl:z.length=E.sz)(h16:E.sz<=16777216)(hx:opTy K x=some (.is (E.v p.cs)))(hd:Nat.blt d c.n=true)
  (hj: ∀b,JO P c ((d,.is (sliceO (some (b,p.cs)) [p].length 1))::K) (ownO (some (b,p.cs)) e L) Φ ops rest Q):JO P c K L Φ ops (⟨some d,.buildSlice t 1 #[(0,x)],ty,pos,after,none⟩::rest) Q:=by
 obtain⟨h1,h2⟩:=fill1 hzl (hE p) p.h E.pos;exact JO.buildOwn (n:=1) (xs:=[(0,x)]) (vs:=[(0,E.v p.cs)]) hsh (by omega) (by omega) (.cons hx .nil) hzl h1 h2 hd hj
theorem Z2d{t e:TypeId}{x:Operand}{z:List Value}{p:Cel E}(hE:E.flat)(hsh:SlShape P t e E.sz z)(hzl:z.length=E.sz)(h16:E.sz<=16777216)(hx:H x (.is (E.v p.cs))):Ob P L Φ H ⟨dst,.buildSlice t 1 #[(0,x)],ty,pos,after,g⟩ (.newSl (.cells p.cs.toArray e (0,0)) 1 1):=by
 obtain⟨h1,h2⟩:=fill1 hzl (hE p) p.h E.pos;exact Zx (n:=1) (xs:=[(0,x)]) (vs:=[(0,E.v p.cs)]) hsh (by omega) (by omega) (.cons hx .nil) hzl h1 h2
theorem srcE{tx e e':TypeId}(p:Cel E)(hk:P.underlying tx=some (.slice e'))(L:List Own):SrcOf P L Φ E.sz tx (.newSl (.cells p.cs.toArray e (0,0)) 1 1) [p].length ([p].flatMap Cel.cs):=by
 have h:=Z1M (P:=P) (L:=L) (Φ:=Φ) (e:=e) (cap:=1) hk (cs:=p.cs) (sz:=E.sz) (n:=1) (by rw[p.h];omega) (List.all_eq_true.2 p.o)
 simpa using h
theorem growE{b:Nat}(p:Cel E):Grows Cel.cs E.sz [p] (some (b,p.cs)) 1:=⟨by rw[p.h];omega,Nat.le_refl _,by simp[<-p.h]⟩
end
section
variable{α:Type}{en:α->List Value}{sz:Nat}
theorem J.freezeOMW{xs:List α}{cap N:Nat}{x:Code}{st:Option (Nat×List Value)}{e:TypeId}(hN:N<=c.W0.heap.size)(hen: ∀x,(en x).length=sz)(hG:Grows en sz xs st cap)(hTl:Tl e L st L')(h0: ∀q,c.X0 q->∃o∈L',o.b=q)(hK:K.all (fun p=>p.2.out)=true)(hL:L'.all (fun o=>o.T.out)=true)
   (h:J P c K L' (FreshW N e (adO st) xs.length (capO st cap) sz::RowG en sz xs (adO st) xs.length::Φ) x Q):J P c K L Φ x Q:=by
 refine J.subL (L':=ownO st e L') (fun o ho=>(hTl.perm.mem_iff).1 ho) (fun hn=>((hTl.perm.map _).nodup_iff).2 hn) ?_;cases st with
 |none=>
   have hG:xs=[]:=hG;subst hG;exact J.fact (RowG en sz [] (adO none) ([]:List α).length) (fun E w _ _=>fun w' _=>⟨rfl,fun h=>absurd rfl h⟩) (J.fact (FreshW N e (adO none) ([]:List α).length (capO none cap) sz) (fun E w _ _=>fun w' _ h=>absurd rfl h) h)
 |some p=>
   obtain⟨b,cs⟩:=p;obtain⟨h1,h2,h3⟩:=hG;refine⟨fun E a w hs=>?_⟩;have hld:=hs.ld;rw[show ownO (some (b,cs)) e L'=⟨b,e,.is (.agg cs.toArray)⟩::L' from rfl,List.map_cons,List.nodup_cons]at hld;have hbW:c.W0.heap.size<=b:=(hs.may _ List.mem_cons_self).resolve_left (fun h=>by
     obtain⟨o,ho,e⟩:=h0 b h;exact hld.1 (List.mem_map.2 ⟨o,ho,e⟩))
   refine(J.freezeM (P:=P) (Q:=Q) (x:=x) (b:=b) (e:=e) (cs:=cs) h0 hK hL ?_).out E a w hs;refine J.fact (RowG en sz xs (adO (some (b,cs))) xs.length) (fun E w hF _=>fun w' hk=>?_) (J.fact (FreshW N e (adO (some (b,cs))) xs.length (capO (some (b,cs)) cap) sz) (fun E w hF _=>fun w' hk _=>?_) (J.subΦ (fun F hF=>?_) h))
   · have hh:=hF _ List.mem_cons_self w' hk
     obtain⟨a,len,cap',e1,hr⟩:=Z52 hen rfl h3 hh cap;injection e1 with e1 e2 e3
     subst e1 e2;exact hr
   · have hh:w'.heap[b]? =some (.cells cs.toArray e (0,0)):=hF _ (List.mem_cons_of_mem _ List.mem_cons_self) w' hk
     exact⟨b,cs.toArray,rfl,Nat.le_trans hN hbW,hh,by simp only[List.size_toArray];exact h1⟩
   · rcases List.mem_cons.1 hF with rfl|hF
     · exact List.mem_cons_self
     · rcases List.mem_cons.1 hF with rfl|hF
       · exact List.mem_cons_of_mem _ List.mem_cons_self
       · exact List.mem_cons_of_mem _ (List.mem_cons_of_mem _ (List.mem_cons_of_mem _ hF))
theorem Zc9{st:Option (Nat×List Value)}{e:TypeId}{o:Own}{L:List Own}:(ownO st e (o::L)).Perm (o::ownO st e L):=by
 cases st with
 |none=>exact .refl _
 |some p=>exact .swap _ _ _
theorem Z4Q{st:Option (Nat×List Value)}{e:TypeId}{L:List Own}:(ownO st e L).Perm (L++ownO st e []):=by
 cases st with
 |none=>exact .of_eq (List.append_nil L).symm
 |some p=>exact List.perm_append_comm (l₁:=[_]) (l₂:=L)
end
theorem Z6g{P:Program}{L:List Own}{Φ:List (World->Prop)}{H:Know}{dst:Option Nat}{ty:TypeId}{pos:String}{after:Array Edge}{g:Option (Nat×Bool)}{α:Type}{en:α->List Value}{sz:Nat}{xs:List α}{st:Option (Nat×List Value)}{cap:Nat}{t e:TypeId}{x:Operand}(hG:Grows en sz xs st cap)(hu:P.underlying t=some (.slice e))(hx:H x (.is (sliceO st xs.length cap))):
  Ob P L Φ H ⟨dst,.call {callee:=.builtin .len,args:= #[x],argTypes:= #[t]},ty,pos,after,g⟩ (.is (.int .i64 (xs.length:Nat))):=by
 rw[hG.sl.1]at hx;exact ZE hu hx
def TC{α:Type}{E:Enc α}(p:Cel E):Ty:=.rep (fun v w=>v=E.v p.cs/\CelR p w)
theorem TC.is{α:Type}{E:Enc α}{p:Cel E}: ∀X v w,(TC p).p X v w->(Ty.is (E.v p.cs)).p X v w:=fun X v w h=>(h w (.refl _ _)).1
theorem SlE.ofGr{α:Type}{E:Enc α}{N:Nat}{e:TypeId}{ps:List (Cel E)}{st:Option (Nat×List Value)}{cap:Nat}{w:World}(hG:Grows Cel.cs E.sz ps st cap)(hR:RowG Cel.cs E.sz ps (adO st) ps.length w)(hF:CelF E ps w)(hW:FreshW N e (adO st) ps.length (capO st cap) E.sz w):SlE E (FrS N e E.sz) (ps.map Cel.x) (sliceO st ps.length cap) w:=by
 obtain⟨h1,h2⟩:=hG.sl;rw[h1];exact⟨ps,_,_,_,rfl,rfl,h2,hR,hF,hW⟩
theorem SlE.ofGr0{α:Type}{E:Enc α}{ps:List (Cel E)}{st:Option (Nat×List Value)}{cap:Nat}{w:World}(hG:Grows Cel.cs E.sz ps st cap)(hR:RowG Cel.cs E.sz ps (adO st) ps.length w)(hF:CelF E ps w):SlE E noS (ps.map Cel.x) (sliceO st ps.length cap) w:=by
 obtain⟨h1,h2⟩:=hG.sl;rw[h1];exact⟨ps,_,_,_,rfl,rfl,h2,hR,hF,trivial⟩
section
variable{R':Z->Ty}
end
theorem Zga{P:Program}{L:List Own}{Φ:List (World->Prop)}{H:Know}{dst:Option Nat}{ty t1 t2:TypeId}{pos:String}{after:Array Edge}{g:Option (Nat×Bool)}{x y:Operand}{a b cc:Int}(hx:H x (.is (.int .i64 a)))(hy:H y (.is (.int .i64 b)))(hc:(if b>a then b else a)=cc):
 Ob P L Φ H ⟨dst,.call {callee:=.builtin .max,args:= #[x,y],argTypes:= #[t1,t2]},ty,pos,after,g⟩ (.is (.int .i64 cc)):=hc ▸ Zls hx hy
theorem ZbY{o:Oper}{a:Act}{next next':Act->World->Prop}{Q Q':Exit->Act->World->Prop}{r:Result Next}(hn: ∀a w,next a w->next' a w)(hq: ∀e a w,Q e a w->Q' e a w)(h:o.upon P a next Q r):o.upon P a next' Q' r:=by
 unfold Oper.upon at h ⊢
 split at h
 · exact hn _ _ h
 · exact hn _ _ h
 · exact hn _ _ h
 · refine Calls.mono h ?_
   intro e w' he;cases e with
   |returned v=>exact hn _ _ he
   |panicked ch=>exact hq _ _ _ he
   |outgrown=>obtain⟨a0,w0,h0⟩:=he;exact⟨a0,w0,hq _ _ _ h0⟩
 · exact Rows.mono h fun v w' hv=>hn _ _ hv
 · exact hq _ _ _ h
 · exact h.elim
theorem Z7w{Q Q':Exit->Act->World->Prop}(hq: ∀e a w,Q e a w->Q' e a w): ∀(l:List Oper) (a:Act) (w:World),wpList P ops Q l a w->wpList P ops Q' l a w
 |[],a,w,h=>hq _ _ _ h
 |o::rest,a,w,h=>by
   unfold wpList at h ⊢
   split
   · rename_i hw
     rw[if_pos hw]at h;rcases h with h|⟨h1,a0,w0,h2⟩
     · exact .inl (ZbY (fun a w h=>Z7w hq rest a w h) hq h)
     · exact .inr ⟨h1,a0,w0,hq _ _ _ h2⟩
   · rename_i hw
     rw[if_neg hw]at h;exact Z7w hq rest _ _ h
theorem ZiO{c:Code}{Q Q':Exit->Act->World->Prop}(hq: ∀e a w,Q e a w->Q' e a w){a:Act}{w:World}(h:c.wp P Q a w):c.wp P Q' a w:=fun b k cs=>by
 obtain⟨e,a',w',h1,h2⟩:=h b k cs;exact⟨e,a',w',hq _ _ _ h1,h2⟩
theorem Z8c{Q:Exit->Act->List Frame->World->Prop}{cs:List Frame}(hQ: ¬LetsOut (fun e a w=>Q e a cs w)): ∀(l:List Nat) (a:Act) (w:World),wpOps P ops (fun e a w=>Q e a cs w) l a w->wpOpsS P ops Q l a cs w
 |[],a,w,h=>h
 |i::rest,a,w,h=>by
   simp only[wpOps]at h;simp only[wpOpsS];cases ho:ops[i]? with
   |none=>rw[ho]at h;exact Z8c hQ rest a w h
   |some o=>
     rw[ho]at h;simp only at h ⊢
     split
     · rename_i hw
       rw[if_pos hw]at h;have h:=h.resolve_right (fun h=>hQ h.2);unfold Oper.wp at h
       generalize (execOp a.eval o).run P w=r at h ⊢
       split
       · exact h.elim
       · exact ZbY (fun a w h=>Z8c hQ rest a w h) (fun _ _ _ h=>h) h
     · rename_i hw
       rw[if_neg hw]at h;exact Z8c hQ rest _ w h
structure CallRec (P:Program) (f:FuncId) (L0:List Own) (As:List Ty) (u u':FrameMode) (L1:List Own):Prop where
 enter: ∀args w,(callFunc f args).run P w= .ok (.enter f args) w
 calls: ∀(E:Nat->Prop) (w:World) (vs:List Value),(∀b,E b->b<w.heap.size)->(∀o∈L0,o.at E w)->(L0.map (·.b)).Nodup->TyAll E w As vs->
   CallsD P f vs.toArray u w fun e v w'=>e= .returned (.tuple #[])/\v=u'/\ ∃E',EndL (Z:=Unit) L0 (fun _=>True) (fun _=>L1) (fun _=>.is (.tuple #[])) E w () E' (.tuple #[]) w'
theorem SA.after{E E':Nat->Prop}{a:Act}{w w':World}{z:Z}{v:Value}(hs:SA c K L Φ E a w)(hL:L.Perm (L0++Lr))(he:EndL L0 Zp L1 R E w z E' v w'):SA c K (L1 z++Lr) Φ E' a w':=by
 have hnd:((L0++Lr).map (·.b)).Nodup:=((hL.map _).nodup_iff).1 hs.ld;rw[List.map_append,List.nodup_append]at hnd;have hin: ∀o∈L0,o∈L:=fun o ho=>hL.mem_iff.2 (List.mem_append_left _ ho);have hir: ∀o∈Lr,o∈L:=fun o ho=>hL.mem_iff.2 (List.mem_append_right _ ho);have hsub: ∀b,b∈L0.map (·.b)->E b:=fun b hb=>by obtain⟨m,hm,rfl⟩:=List.mem_map.1 hb;exact(hs.l m (hin m hm)).1
 have hmay: ∀b,b∈L0.map (·.b)->c.X0 b\/c.W0.heap.size<=b:=fun b hb=>by obtain⟨m,hm,rfl⟩:=List.mem_map.1 hb;exact hs.may m (hin m hm)
 have hev:Ev E w E' w':=⟨he.k.mono (fun b _=>hsub b),he.same⟩;refine hs.put (dst:=none) hev he.wf he.r (fun d h=>by cases h) ?_ ?_ (hs.keeps.step he.k hmay) ?_
 · intro o ho
   rcases List.mem_append.1 ho with ho|ho
   · exact he.l o ho
   · have h1:=hs.l o (hir o ho)
     exact Own.keep h1 hev (he.k.blk _ (hs.wf _ h1.1) fun hm=>hnd.2.2 _ hm _ (List.mem_map_of_mem ho) rfl)
 · rw[List.map_append,List.nodup_append]
   refine⟨he.nd,hnd.2.1,fun b hb b' hb' e=>?_⟩;subst e;obtain⟨m,hm,rfl⟩:=List.mem_map.1 hb;obtain⟨m',hm',e'⟩:=List.mem_map.1 hb';rcases he.inn m hm with h1|h1
   · exact hnd.2.2 _ h1 _ hb' rfl
   · have:=hs.wf m'.b (hs.l m' (hir m' hm')).1
     have e2:m'.b=m.b:=e'
     omega
 · intro o ho
   rcases List.mem_append.1 ho with ho|ho
   · rcases he.inn o ho with h1|h1
     · exact hmay _ h1
     · exact .inr (Nat.le_trans hs.keeps.size h1)
   · exact hs.may o (hir o ho)
theorem JO.defer{n:Nat}{X X0:Nat->Prop}{W:World}{D:List Deferred}{ops:Array Oper}{rest:List Oper}{x:Operand}{fv:Fn}{cap:Array Value}{ats:Array TypeId}{ty:TypeId}{pos:String}{after:Array Edge}(hx:opTy K x=some (.is (.func fv #[] cap)))
   (h:JO P ⟨n,X,X0,W,⟨.fn fv cap,#[]⟩::D⟩ K L Φ ops rest Q):JO P ⟨n,X,X0,W,D⟩ K L Φ ops (⟨none,.defer {callee:=.value x,args:= #[],argTypes:=ats},ty,pos,after,none⟩::rest) Q:=by
 refine⟨?_⟩;intro E a w hs;refine wpList_plain rfl fun K' hK=>?_;unfold Oper.wp;have h1:a.eval x= .func fv #[] cap:=Z2c hs hx;have h2:(execOp a.eval ⟨none,.defer {callee:=.value x,args:= #[],argTypes:=ats},ty,pos,after,none⟩).run P w= .ok (.defer ⟨.fn fv cap,#[]⟩) w:=by
   simp[execOp,resolve,h1,Deferred.ofValue]
 rw[h2,Oper.upon_defer];refine hK _ _ (h.out E _ _ ?_);exact⟨hs.n,by show(⟨.fn fv cap,#[]⟩::a.defers:List Deferred)=_;rw[hs.d],hs.wf,hs.k,hs.l,hs.ld,hs.f,hs.x,hs.xs,hs.keeps,hs.may⟩
section
variable{L1:List Own}{X0:Nat->Prop}{cap:List Value}{u u':FrameMode}{R:Ending->World->Prop}
theorem leaveD(hrec:CallRec P f L0 (cap.map Ty.is) u u' L1)(hu:u≠ .run)(hse:settle u'= .returning)(hL:L.Perm (L0++Lr))(hnext:JX ⟨n,X,X0,W,[]⟩ K (L1++Lr) Φ .ret (bodyPost P fn R)){E:Nat->Prop}{a:Act}{w:World}
   (hs:SA ⟨n,X,X0,W,[⟨.fn (.func f) cap.toArray,#[]⟩]⟩ K L Φ E a w):Leaves P fn a.tmps R a.defers u w:=by
 rw[hs.d];have hcp: ∀cp:List Value,TyAll E w (cp.map Ty.is) cp:=fun cp=>by
   induction cp with
   |nil=>trivial
   |cons v cp ih=>exact⟨rfl,ih⟩
 have hnd:((L0++Lr).map (·.b)).Nodup:=((hL.map _).nodup_iff).1 hs.ld;rw[List.map_append,List.nodup_append]at hnd;refine leaves_cons (args:=cap.toArray) hu (by simp[invoke,hrec.enter]) (CallsD.mono (hrec.calls E w cap hs.wf (fun o ho=>hs.l o (hL.mem_iff.2 (List.mem_append_left _ ho))) hnd.1 (hcp cap)) ?_);rintro e v w' ⟨rfl,rfl,E',he⟩;show Leaves P fn a.tmps R [] (settle v) w';rw[hse];have h1:=hs.after hL he;obtain⟨_,r,h2,h3⟩:=hnext.out E' {a with defers:=[]} w' ⟨h1.n,rfl,h1.wf,h1.k,h1.l,h1.ld,h1.f,h1.x,h1.xs,h1.keeps,h1.may⟩;exact⟨r,h2,h3⟩
theorem JX.retD(hrec:CallRec P f L0 (cap.map Ty.is) .returning .returning L1)(hL:L.Perm (L0++Lr))(hnext:JX ⟨n,X,X0,W,[]⟩ K (L1++Lr) Φ .ret (bodyPost P fn R)):JX ⟨n,X,X0,W,[⟨.fn (.func f) cap.toArray,#[]⟩]⟩ K L Φ .ret (bodyPostD P fn R):=
 ⟨fun _ _ _ hs=>leaveD hrec (by simp) rfl hL hnext hs⟩
end
section
variable{N:Nat}
theorem CallL.ofD{x:Code}(hN:NH N∈Φ0)(hf:P.funcs[f]? =some fn)(hb:fn.body=some x)(hn:fn.ntmps=n)(hl:Nat.ble As.length n=true)(he: ∀args w,(callFunc f args).run P w= .ok (.enter f args) w)
   (h: ∀(E:Nat->Prop) (W:World),N<=W.heap.size->(∀b,b∈L0.map (·.b)->E b)->J P ⟨n,E,fun q=>q∈L0.map (·.b),W,[]⟩ (params 0 As) L0 Φ0 x (bodyPostD P fn (PostL E W L0 Zp L1 R))):CallL P f L0 Φ0 As Zp L1 R:=
 ⟨he,fun E w vs hw hM hnd hΦ ht=>by
   refine calls_of_wp_defers hf hb ?_;rw[hn];refine(h E w (hΦ _ hN).now (fun b hb=>by obtain⟨m,hm,rfl⟩:=List.mem_map.1 hb;exact(hM m hm).1)).out E _ w ?_;have hs:=Z4h (n:=n) hw ht (Nat.le_of_ble_eq_true hl);exact⟨hs.n,hs.d,hw,hs.k,hM,hnd,hΦ,fun _ h=>h,hw,.refl _ _,fun o ho=>.inl (List.mem_map_of_mem ho)⟩⟩
inductive Rec:FrameMode->Value->FrameMode->Prop
 |none:Rec .returning .nilIface .returning
 |some {v:Value} {older:List PanicEntry}:Rec (.panicking ({v:=v,recovered:=false,goexit:=false}::older)) v (.panicking ({v:=v,recovered:=true}::older))
theorem ZfK{u u':FrameMode}{v:Value}(h:Rec u v u'){c₀:Frame}(hc:c₀.mode=u)(cs:List Frame):(recoverD (c₀::cs)= .some (v,{c₀ with mode:=u'}::cs))\/(recoverD (c₀::cs)= .none/\v= .nilIface/\{c₀ with mode:=u'}=c₀):=by
 cases h with
 |none=>exact .inr ⟨by simp[recoverD,hc],rfl,by rw[<-hc]⟩
 |some=>exact .inl (by simp[recoverD,hc])
theorem CallRec.of{L1:List Own}{x:Code}{id d:Nat}{ty:TypeId}{pos:String}{after:Array Edge}{ats:Array TypeId}{l:List Oper}{u u':FrameMode}{v:Value}(hr:Rec u v u')(hf:P.funcs[f]? =some fn)
   (hb:fn.body=some (.seq (.region id (⟨some d,.call {callee:=.builtin .recover,args:= #[],argTypes:=ats},ty,pos,after,none⟩::l).toArray false) x))(hn:fn.ntmps=n)(hl:Nat.ble As.length n=true)(hd:Nat.blt d n=true)(he: ∀args w,(callFunc f args).run P w= .ok (.enter f args) w)
   (h: ∀(E:Nat->Prop) (W:World),(∀b,b∈L0.map (·.b)->E b)->JO P ⟨n,E,fun q=>q∈L0.map (·.b),W,[]⟩ ((d,.is v)::params 0 As) L0 [] (⟨some d,.call {callee:=.builtin .recover,args:= #[],argTypes:=ats},ty,pos,after,none⟩::l).toArray l
     (Exit.then (x.wp P (bodyPost P fn (PostL E W L0 (fun _:Unit=>True) (fun _=>L1) (fun _=>.is (.tuple #[]))))) (bodyPost P fn (PostL E W L0 (fun _:Unit=>True) (fun _=>L1) (fun _=>.is (.tuple #[])))))):CallRec P f L0 As u u' L1:=
 ⟨he,fun E w vs hw hM hnd ht=>by
   refine callsD_of_wpS hf hb fun c₀ cs hc=>wpS_seq (wpS_region ?_);rw[hn];have hs0:=Z4h (n:=n) hw ht (Nat.le_of_ble_eq_true hl);have hL0: ∀b,b∈L0.map (·.b)->E b:=fun b hb=>by obtain⟨m,hm,rfl⟩:=List.mem_map.1 hb;exact(hM m hm).1
   have hs:SA ⟨n,E,fun q=>q∈L0.map (·.b),w,[]⟩ (params 0 As) L0 [] E _ w:=⟨hs0.n,hs0.d,hw,hs0.k,hM,hnd,hs0.f,fun _ h=>h,hw,.refl _ _,fun o ho=>.inl (List.mem_map_of_mem ho)⟩;have hs2:=hs.put (dst:=some d) (v:=v) (T:=.is v) (Ev.of_keeps (.refl _ _)) hw rfl (fun d' e=>by injection e with e;subst e;exact Nat.blt_eq.mp hd) hM hnd (.refl _ _) (fun o ho=>.inl (List.mem_map_of_mem ho));have hout:=(h E w hL0).out E _ w hs2;have hpost: ∀e a w',bodyPost P fn (PostL E w L0 (fun _:Unit=>True) (fun _=>L1) (fun _=>.is (.tuple #[]))) e a w'->bodyPostS P fn c₀ cs (fun e v w'=>e= .returned (.tuple #[])/\v=u'/\ ∃E',EndL (Z:=Unit) L0 (fun _=>True) (fun _=>L1) (fun _=>.is (.tuple #[])) E w () E' (.tuple #[]) w') e a ({c₀ with mode:=u'}::cs) w':=by
     intro e a w' hq;cases e with
     |normal=>
       obtain⟨h1,r,h2,v',z,E',h3,h4⟩:=hq;injection h3 with h3
       subst h3;have e4:r= .tuple #[]:=h4.r;subst e4;exact⟨h1,u',rfl,_,h2,rfl,rfl,E',h4⟩
     |ret=>
       obtain⟨h1,r,h2,v',z,E',h3,h4⟩:=hq;injection h3 with h3
       subst h3;have e4:r= .tuple #[]:=h4.r;subst e4;exact⟨h1,u',rfl,_,h2,rfl,rfl,E',h4⟩
     |panic ch=>obtain⟨_,v',z,E',h3,_⟩:=hq;cases h3
     |exit id=>exact hq.elim
     |goto l=>exact hq.elim
     |outgrown=>obtain⟨v',z,E',h3,_⟩:=hq;cases h3
   have hmono:=Z7w (Q':=fun e a w'=>Exit.thenS (x.wpS P (bodyPostS P fn c₀ cs fun e v w'=>e= .returned (.tuple #[])/\v=u'/\ ∃E',EndL (Z:=Unit) L0 (fun _=>True) (fun _=>L1) (fun _=>.is (.tuple #[])) E w () E' (.tuple #[]) w')) (bodyPostS P fn c₀ cs fun e v w'=>e= .returned (.tuple #[])/\v=u'/\ ∃E',EndL (Z:=Unit) L0 (fun _=>True) (fun _=>L1) (fun _=>.is (.tuple #[])) E w () E' (.tuple #[]) w') e a ({c₀ with mode:=u'}::cs) w')
     (fun e a w' hq=>by
       cases e with
       |normal=>exact wpS_of_wp (ZiO hpost hq)
       |ret=>exact hpost (.ret) a w' hq
       |panic ch=>exact hpost (.panic ch) a w' hq
       |exit id=>exact hpost (.exit id) a w' hq
       |goto l=>exact hpost (.goto l) a w' hq
       |outgrown=>exact hpost (.outgrown) a w' hq) l _ w hout
   have hops: ∀j,l[j]? =(⟨some d,.call {callee:=.builtin .recover,args:= #[],argTypes:=ats},ty,pos,after,none⟩::l).toArray[1+j]? :=fun j=>by rw[Nat.add_comm 1 j,List.getElem?_toArray,List.getElem?_cons_succ]
   have hstep:=Z8c (Q:=Exit.thenS (x.wpS P (bodyPostS P fn c₀ cs fun e v w'=>e= .returned (.tuple #[])/\v=u'/\ ∃E',EndL (Z:=Unit) L0 (fun _=>True) (fun _=>L1) (fun _=>.is (.tuple #[])) E w () E' (.tuple #[]) w')) (bodyPostS P fn c₀ cs fun e v w'=>e= .returned (.tuple #[])/\v=u'/\ ∃E',EndL (Z:=Unit) L0 (fun _=>True) (fun _=>L1) (fun _=>.is (.tuple #[])) E w () E' (.tuple #[]) w')) (cs:={c₀ with mode:=u'}::cs)
     (fun⟨a0,w0,h0⟩=>by obtain⟨_,h1,_⟩:=h0;cases h1) (List.range' 1 l.length) _ w (by rw[wpOps_eq_wpList l 1 hops];exact hmono)
   have hrange:List.range (⟨some d,.call {callee:=.builtin .recover,args:= #[],argTypes:=ats},ty,pos,after,none⟩::l).toArray.size=0::List.range' 1 l.length:=by
     simp[List.range_eq_range',List.range'_succ]
   rw[hrange];simp only[wpOpsS];have h0:(⟨some d,.call {callee:=.builtin .recover,args:= #[],argTypes:=ats},ty,pos,after,none⟩::l).toArray[0]? =some (⟨some d,.call {callee:=.builtin .recover,args:= #[],argTypes:=ats},ty,pos,after,none⟩:Oper):=by simp
   rw[h0];simp only[Region.wanted,if_true];have hx: ∀ρ,(execOp ρ (⟨some d,.call {callee:=.builtin .recover,args:= #[],argTypes:=ats},ty,pos,after,none⟩:Oper)).run P w= .ok .recover w:=fun ρ=>by simp[execOp,resolve,invoke,builtin]
   rw[hx];simp only;rcases ZfK hr hc cs with h1|⟨h1,h2,h3⟩
   · rw[h1];exact hstep
   · rw[h1]
     subst h2;rw[h3]at hstep;exact hstep⟩
theorem Zmt{L:List Own}{Φ:List (World->Prop)}{H:Know}{dst:Option Nat}{ty:TypeId}{pos:String}{after:Array Edge}{g:Option (Nat×Bool)}{xt t:TypeId}{x:Operand}{v:Value}{d:TypeDesc}(hu:P.underlying t=some d)(hd:(match d with| .interface _=>false|_=>true)=true)(hx:H x (.is (.iface t v))):Ob P L Φ H ⟨dst,.typeAssert x xt t true,ty,pos,after,g⟩ (.tup2 (.is v) (.is (.bool true))):=
 Ob.im (T:=.is (.tuple #[v,.bool true])) (hS:=fun E v w _ e=>⟨_,_,e,rfl,rfl⟩)<|Z25 fun E w ρ hp=>by
  have h1:ρ x= .iface t v:=hp.x x _ (by simp[Op.operands]) hx;cases d<;>first|(cases hd;done)|simp[execOp,h1,Instr.typeAssert,run_underlying hu]
theorem ZfB{L:List Own}{Φ:List (World->Prop)}{H:Know}{dst:Option Nat}{ty:TypeId}{pos:String}{after:Array Edge}{g:Option (Nat×Bool)}{xt t:TypeId}{x:Operand}{v:Value}{d:TypeDesc}(hu:P.underlying t=some d)(hd:(match d with| .interface _=>false|_=>true)=true)(hz: ∀w,(zeroValue t).run P w= .ok v w)(hx:H x (.is .nilIface)):Ob P L Φ H ⟨dst,.typeAssert x xt t true,ty,pos,after,g⟩ (.tup2 (.is v) (.is (.bool false))):=
 Ob.im (T:=.is (.tuple #[v,.bool false])) (hS:=fun E v w _ e=>⟨_,_,e,rfl,rfl⟩)<|Z25 fun E w ρ hp=>by
  have h1:ρ x= .nilIface:=hp.x x _ (by simp[Op.operands]) hx;cases d<;>first|(cases hd;done)|simp[execOp,h1,Instr.typeAssert,run_underlying hu,hz]
end
theorem JX.retLCC{s s' b b' m:Nat}{t t' ety ety':TypeId}{T A:Ty}{B:Value}(hres:fn.results= #[.cell s t,.cell s' t'])(z:Z)(hz:Zp z)(hL:L.Perm (L1 z++Lr))(hol:(L1 z).all (fun o=>o.T.out)=true)(hL0: ∀b,b∈L0.map (·.b)->X b)(h:look K s=some (.is (.pointer (some ⟨b,0,none⟩))))(h':look K s'=some (.is (.pointer (some ⟨b',0,none⟩))))(hs':szOf P t=some (some m))(hs1:szOf P t'=some none)(hm:⟨b,ety,T⟩∈L)(hm':⟨b',ety',.is B⟩∈L)(hT: ∀E v w,T.p E v w->∃cs,v= .agg cs/\cs.size=m)(hB:B.cells[0]? =some B)(hA:A.out=true)(hR:Sub L Φ T A)(hz':R z= .tup2 A (.is B)):
   JX ⟨n,X,fun q=>q∈L0.map (·.b),W,[]⟩ K L Φ .ret (bodyPost P fn (PostL X W L0 Zp L1 R)):=
 JX.retLOf z hz hL hol (by rw[hz'];simp[Ty.out,hA]) hL0 fun a w E hs=>by
   obtain⟨v,h1,h2⟩:=Z4L (P:=P) hs' (hs.l _ hm) hT;have h3:(loadVar t' ⟨b',0,none⟩).run P w= .ok B w:=Z6y hs1 ((Z1I (Z4u (hs.l _ hm') rfl)).trans hB);have e:a.tmps.getD s undef= .pointer (some ⟨b,0,none⟩):=hs.k s _ h;have e':a.tmps.getD s' undef= .pointer (some ⟨b',0,none⟩):=hs.k s' _ h';rw[Array.getD_eq_getD_getElem?]at e e';refine⟨.tuple #[v,B],by simp[results,hres,Array.getD_eq_getD_getElem?,e,e',asAddr,h1,h3],?_⟩;rw[hz'];exact⟨v,B,rfl,hR E v w ⟨hs.l,hs.f⟩ h2,rfl⟩
structure CEq (P:Program) (t ts ti tb:TypeId):Prop where
 ht:P.underlying t=some (.struct (P.fieldsOf t))
 hp:P.stoodInHeld t=false
 hg:P.eqGuardType P.depth t=false
 hf:(P.fieldsOf t).toList.map (fun f=>(f.name== "_",f.type,f.offset))=[(false,ts,0),(false,ti,1),(false,tb,2),(false,tb,3)]
 h1:P.underlying ts=some .string
 h2:P.underlying ti=some (.int .i64)
 h3:P.underlying tb=some .bool
section
variable{after:Array Edge}{yt:TypeId}{x y:Operand}
end
theorem CallL.toF{P:Program}{f:FuncId}{Z:Type}{Φ0:List (World->Prop)}{As:List Ty}{Zp:Z->Prop}{R:Ty}(h:CallL P f [] Φ0 As Zp (fun _=>[]) (fun _=>R))(ho:R.out=true):CallF P f Φ0 As R:=
 ⟨h.enter,fun E w vs hw hΦ ht=>Calls.mono (h.calls E w vs hw (fun _ h=>by cases h) List.nodup_nil hΦ ht) fun e w' ⟨v,z,E',he,hE⟩=>
  ⟨v,he,hE.k.mono (fun b _ hb=>absurd hb (by simp)),Ty.weak (fun b _ hb=>(hE.same b (hw b hb)).2 hb) ho hE.r⟩⟩
end Go.Vc
