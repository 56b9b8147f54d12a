/- The program logic, part 9. No condition. -/
import Derived.Test.YtbedigkncjbggaaGreatDoorXG7
namespace Go.Vc
open Go
variable{P:Program}{c:Ctx}{K K' K0:List (Nat×Ty)}{L L' L0 Lr Lq Lm Lk:List Own}{Φ Φ0:List (World->Prop)}{Q:Exit->Act->World->Prop}{H:Know}{dst:Option Nat}{ty:TypeId}{pos:String}{after:Array Edge}{g:Option (Nat×Bool)}{ops:Array Oper}{rest:List Oper}{fn:Func}{n:Nat}{X:Nat->Prop}{W:World}{op:Op}{f:FuncId}{As:List Ty}{T:Ty}{Z:Type}{Zp:Z->Prop}{L1:Z->List Own}{R:Z->Ty}{Bad:Prop}{ch:List PanicEntry}
theorem Z6w{f:FuncId}{cal:Operand}{xs:List Operand}{ats:Array TypeId}{Fs:List (World->Prop)}{As:List Ty}{R:Ty}(hf:H cal (.is (.func (.func f) #[] #[])))(hc:CallF P f Fs As R)(hΦ: ∀F∈Fs,F∈Φ)(ha:Args L Φ H xs As):
   Ob P L Φ H ⟨dst,.call {callee:=.value cal,args:=xs.toArray,argTypes:=ats},ty,pos,after,g⟩ R:=fun E w ρ hp=>by
 have h1:ρ cal= .func (.func f) #[] #[]:=hp.x _ _ (by simp[Op.operands,Call.operands]) hf;have hall:=ha.all (ρ:=ρ) (Z2B hp) fun x T hx=>hp.x x T (by simp[Op.operands,Call.operands,hx]);have h2:Runs P ((callFunc f (xs.map ρ).toArray).run P w) fun v w'=>Keeps noX w w'/\R.p E v w':=by
   rw[hc.enter];refine Calls.mono (hc.calls E w _ hp.wf (fun F hF=>hp.f F (hΦ F hF)) hall) ?_;rintro e w' ⟨v,rfl,h⟩;exact h
 simp only[execOp,resolve,h1,Deferred.ofValue,invoke,Sem.run_bind,Sem.run_pure,Result.andThen_ok,List.map_toArray]
 simpa using h2
theorem BigOb.pick{α:Type}{E:Enc α}{o:Oper}{G:Type}{f:G->α}{Lg:G->List Own}(h:BigOb P L Φ H o (fun g=>.rep (E.T (f g))) Lg):BigOb P L Φ H o (G:={q:G×Cel E // q.2.x=f q.1}) (fun q=>TC q.1.2) (fun q=>Lg q.1.1):=fun X w ρ hp hnd=>
 Runs.mono (h X w ρ hp hnd) fun v w' ⟨g,E',h1,h2,h3,h4,h5,h6,h7⟩=>by
  have h4':Pers E' w' (E.T (f g) v):=h4;obtain⟨cs,hv,hR⟩:=h4'.now;refine⟨⟨(g,⟨f g,cs,E.len hR,E.one hR⟩),rfl⟩,E',h1,h2,h3,fun w'' hk=>?_,h5,h6,h7⟩;obtain⟨cs',hv',hR'⟩:=h4' w'' hk;refine⟨hv,?_⟩;rw[hv]at hv';show E.R (f g) cs w'';rw[E.inj (E.len hR) (E.len hR') hv'];exact hR'
theorem JO.tcF{α:Type}{E:Enc α}{ops:Array Oper}{l:List Oper}{s:Nat}{p:Cel E}(h:look K s=some (TC p))(hj:JO P c K L (CelR p::Φ) ops l Q):JO P c K L Φ ops l Q:=by
 refine⟨fun X a w hs=>?_⟩;have hp:Pers X w (fun w'=>(a.tmps.getD s undef)=E.v p.cs/\CelR p w'):=hs.k s _ h;exact hj.out X a w ⟨hs.n,hs.d,hs.wf,hs.k,hs.l,hs.ld,fun F hF=>by
   rcases List.mem_cons.1 hF with rfl|hF
   · exact fun w' hk=>(hp w' hk).2
   · exact hs.f F hF,hs.x,hs.xs,hs.keeps,hs.may⟩
theorem Z8X{s t:ByteArray}:seq s t=true↔s=t:=by
 unfold seq;rw[beq_iff_eq];refine⟨fun h=>?_,fun h=>by rw[h]⟩;rw[ByteArray.toList_eq,ByteArray.toList_eq]at h;cases s;cases t
 simpa using h
section
variable{yt:TypeId}{x y:Operand}
end
noncomputable def eqD{α:Type}(a b:α):Bool:=@decide (a=b) (Classical.propDecidable _)
section
variable{d:Nat}
theorem JO.callKG{π:Prop}{xs:List Operand}{ats:Array TypeId}(hπ:π)(hc:CallL P f L0 Φ0 As Zp L1 R)(hd:Nat.blt d c.n=true)(hL:L.Perm (L0++Lr))(hΦ: ∀F∈Φ0,F∈Φ)(ha:Args L Φ (KnG π K) xs As)
   (hn: ∀z,Zp z->JO P c ((d,R z)::K) (L1 z++Lr) Φ ops rest Q):JO P c K L Φ ops (⟨some d,.call {callee:=.value (.func f),args:=xs.toArray,argTypes:=ats},ty,pos,after,none⟩::rest) Q:=by
 refine JO.stepL rfl (fun d' e=>by injection e with e;subst e;exact Nat.blt_eq.mp hd) hL (fun E w ρ hp hnd=>?_) hn;have h1:ρ (.func f)= .func (.func f) #[] #[]:=hp.x (.func f) (.is (.func (.func f) #[] #[])) (by simp[Op.operands,Call.operands]) rfl;have hall:=ha.all (ρ:=ρ) (Z2B hp) fun x T hx hk=>by
   rcases hk with hk|⟨π',hk,hi⟩
   · exact hp.x x T (by simp[Op.operands,Call.operands,hx]) hk
   · exact(hp.x x (.opt π' T) (by simp[Op.operands,Call.operands,hx]) hk).1 (hi hπ)
 have h3:=Zar hc hΦ hp.wf hp.f hall (fun m hm=>hp.l m (hL.mem_iff.2 (List.mem_append_left _ hm))) hnd;simp only[execOp,resolve,h1,Deferred.ofValue,invoke,Sem.run_bind,Sem.run_pure,Result.andThen_ok,List.map_toArray]
 simpa using h3
theorem JO.kweak{T T':Ty}(hT: ∀E v w,T.p E v w->T'.p E v w)(h:JO P c ((d,T')::K) L Φ ops rest Q):JO P c ((d,T)::K) L Φ ops rest Q:=by
 refine⟨fun E a w hs=>h.out E a w ⟨hs.n,hs.d,hs.wf,fun s' T1 hl=>?_,hs.l,hs.ld,hs.f,hs.x,hs.xs,hs.keeps,hs.may⟩⟩;simp only[look]at hl;cases hq:Nat.beq d s' with
 |true=>
   rw[hq,cond_true]at hl;injection hl with hl
   subst hl;rw[<-Nat.eq_of_beq_eq_true hq];exact hT _ _ _ (hs.k d T (by simp only[look];rw[Nat.beq_refl,cond_true]))
 |false=>
   rw[hq,cond_false]at hl;exact hs.k s' T1 (by simp only[look];rw[hq,cond_false];exact hl)
theorem JO.gcall{g s:Nat}{b cc:Bool}{T:Ty}{L2:List Own}(hgi:(ops[g]?).bind (·.dst)=some s)(hns:Nat.blt s c.n=true)(hk:look K s=some (.is (.bool cc)))(hd:Nat.blt d c.n=true)
   (hno:cc≠b->L=L2)(hyes:cc=b->JO P c ((d,T)::K) L2 Φ ops rest Q->JO P c K L Φ ops (⟨some d,op,ty,pos,after,none⟩::rest) Q)
   (hj:JO P c ((d,.opt (cc=b) T)::K) L2 Φ ops rest Q):JO P c K L Φ ops (⟨some d,op,ty,pos,after,some (g,b)⟩::rest) Q:=by
 by_cases e:cc=b
 · have hk':look K s=some (.is (.bool b)):=by rw[<-e];exact hk
   exact JO.gDo (i:=g) rfl hgi hns hk' (hyes e (JO.kweak (T':=.opt (cc=b) T) (fun E v w h=>show(_->_)/\(_->_)from⟨fun _=>h,fun hn=>absurd e hn⟩) hj))
 · have hk':look K s=some (.is (.bool !b)):=by rw[show(!b)=cc by cases b<;>cases cc<;>simp_all];exact hk
   refine JO.gSkip (i:=g) hgi hns hk' hd ?_;rw[hno e];exact JO.kweak (T':=.opt (cc=b) T) (fun E v w h=>show(_->_)/\(_->_)from⟨fun h1=>absurd h1 e,fun _=>h⟩) hj
end
theorem J.cutZF{Z:Type}(Kf:Z->List (Nat×Ty))(Lf:Z->List Own)(Ff:Z->World->Prop)(inv:Z->Prop){x y:Code}(h:J P c K L Φ x (Exit.then (fun a w=>∃z,inv z/\ ∃E,SA c (Kf z) (Lf z) (Ff z::Φ) E a w) Q))(hy: ∀z,inv z->J P c (Kf z) (Lf z) (Ff z::Φ) y Q):J P c K L Φ x (Exit.then (y.wp P Q) Q):=
 ⟨fun E a w hs=>wp_mono (h.out E a w hs) fun e a w hq=>by
   cases e with
   |normal=>
     obtain⟨z,hz,E,hs⟩:=hq;exact(hy z hz).out E a w hs
   |_=>exact hq⟩
theorem JX.midF{Z:Type}{Kf:Z->List (Nat×Ty)}{Lf:Z->List Own}{Ff:Z->World->Prop}{inv:Z->Prop}{Φ':List (World->Prop)}(z:Z)(hi:inv z)(ss:List Nat)(hK:Sel K ss (Kf z))(hL:Has L (Lf z))(hΦ: ∀G∈Φ',G∈Φ)(hF: ∀E w,(∀G∈Φ,Pers E w G)->Pers E w (Ff z)):
   JX c K L Φ .normal (Exit.then (fun a w=>∃z,inv z/\ ∃E,SA c (Kf z) (Lf z) (Ff z::Φ') E a w) Q):=
 ⟨fun E a w hs=>⟨z,hi,E,by
   have h1:=hs.sub hK.look hL.mem (hL.nodup hs.ld) hΦ;exact⟨h1.n,h1.d,h1.wf,h1.k,h1.l,h1.ld,fun G hG=>by
     rcases List.mem_cons.1 hG with rfl|hG
     · exact hF E w hs.f
     · exact h1.f G hG,h1.x,h1.xs,h1.keeps,h1.may⟩⟩⟩
theorem JX.retLC1s{s u b m:Nat}{t ety:TypeId}{T A:Ty}{B:Value}(hres:fn.results= #[.cell s t,.tmp u])(z:Z)(hz:Zp z)(hL:L.Perm (L1 z++Lr))(hol:(L1 z).all (fun o=>o.T.out)=true)(hL0: ∀b,b∈L0.map (·.b)->X b)(h:look K s=some (.is (.pointer (some ⟨b,0,none⟩))))(h':look K u=some (.is B))(hs':szOf P t=some (some m))(hm:⟨b,ety,T⟩∈L)(hT: ∀E v w,T.p E v w->∃cs,v= .agg cs/\cs.size=m)(hA:A.out=true)(hR:Sub L Φ T A)(hz':R z= .tup2 A (.is B)):
   JX ⟨n,X,fun q=>q∈L0.map (·.b),W,[]⟩ K L Φ .ret (bodyPost P fn (PostL X W L0 Zp L1 R)):=
 JX.retLOf z hz hL hol (by rw[hz'];simp[Ty.out,hA]) hL0 fun a w E hs=>by
   obtain⟨v,h1,h2⟩:=Z4L (P:=P) hs' (hs.l _ hm) hT;have e:a.tmps.getD s undef= .pointer (some ⟨b,0,none⟩):=hs.k s _ h;have e':a.tmps.getD u undef=B:=hs.k u _ h';rw[Array.getD_eq_getD_getElem?]at e;refine⟨.tuple #[v,a.tmps.getD u undef],by simp[results,hres,Array.getD_eq_getD_getElem?,e,asAddr,h1],?_⟩;rw[hz'];exact⟨v,_,rfl,hR E v w ⟨hs.l,hs.f⟩ h2,e'⟩
end Go.Vc
