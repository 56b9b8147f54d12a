/- The program logic, part 7. No condition. -/
import Derived.Test.YtbedigkncjbggaaDoorXG5
namespace Go.Vc
open Go
variable{P:Program}{c:Ctx}{K K' K0:List (Nat×Ty)}{L L' L0 Lr Lq Lm Lk:List Own}{Φ Φ0:List (World->Prop)}{Q:Exit->Act->World->Prop}{H:Know}{dst:Option Nat}{ty:TypeId}{pos:String}{after:Array Edge}{g:Option (Nat×Bool)}{ops:Array Oper}{rest:List Oper}{fn:Func}{n:Nat}{X:Nat->Prop}{W:World}{op:Op}{f:FuncId}{As:List Ty}{T:Ty}{Z:Type}{Zp:Z->Prop}{L1:Z->List Own}{R:Z->Ty}{Bad:Prop}{ch:List PanicEntry}
structure AlikeO (f:Nat) (o' o:Oper):Prop where
 dst:o'.dst=o.dst
 op:o'.op=o.op
 ty:o'.type=o.type
 pos:o'.pos=o.pos
 guard:o'.guard=o.guard
 after: ∀e∈o'.after,Region.binds .any e=true->e∈o.after\/e.on=f
section
variable{V:Value}
end
section
variable{d:Nat}{t:TypeId}
end
section
variable{t:TypeId}
theorem ZdT(ρ:Operand->Value)(w:World):(execOp ρ ⟨dst,.makeMap t none,ty,pos,after,g⟩).run P w= .ok (.value (.map (some w.heap.size))) (w.alloc (.map #[] 0)):=by
 simp[execOp,Instr.makeMap]
theorem Z8w:BigOb P L Φ H ⟨dst,.makeMap t none,ty,pos,after,none⟩ (G:=Nat) (fun r=>.is (.map (some r))) (fun r=>⟨r,0,.ob (mObj [] 0)⟩::L):=fun E w ρ hp hnd=>by
 rw[ZdT];have hk:=Keeps.alloc w (.map #[] 0);have hev:Ev E w (fun b=>E b\/b=w.heap.size) (w.alloc (.map #[] 0)):=⟨hk.of_noX,fun b hb=>⟨fun h=>h.elim id (fun e=>absurd hb (by omega)),.inl⟩⟩;refine⟨w.heap.size,fun b=>E b\/b=w.heap.size,hk.of_noX,hev,?_,rfl,?_,?_,?_⟩
 · rintro b (hb|rfl)
   · rw[Z1c];have:=hp.wf b hb;omega
   · rw[Z1c];omega
 · intro m hm
   rcases List.mem_cons.1 hm with rfl|hm
   · exact ZaL (Z15 w _) (.inr rfl)
   · exact Own.keep0 (hp.l m hm) hev hk
 · rw[List.map_cons,List.nodup_cons]
   refine⟨fun h=>?_,hnd⟩;obtain⟨m,hm,e⟩:=List.mem_map.1 h;have h1:=hp.wf m.b (hp.l m hm).1;have e':m.b=w.heap.size:=e
   omega
 · intro m hm
   rcases List.mem_cons.1 hm with rfl|hm
   · exact .inr (Nat.le_refl _)
   · exact .inl (List.mem_map_of_mem hm)
end
theorem RI.retype{P:Program}{ops:Array Oper}{c:Ctx}{K:List (Nat×Ty)}{Lm Lk:List Own}{Φ:List (World->Prop)}{T T':Nat->Ty}{Mf:Nat->List Own}{Sf:Nat->Sd}{B1:Nat}{D:Array Bool}{E:Nat->Prop}{a:Act}{w:World}
  (h:RI P ops c K Lm Lk Φ T Mf Sf B1 D E a w)(hT: ∀(j:Nat) (oj:Oper),ops[j]? =some oj->D.getD j false=true->T j=T' j):RI P ops c K Lm Lk Φ T' Mf Sf B1 D E a w:=
 {h with t:=fun j o d hj hd hdd=>by rw[<-hT j o hj hd];exact h.t j o d hj hd hdd}
theorem Z3l{α:Type}{en:α->List Value}{sz:Nat}{xs:List α}{st:Option (Nat×List Value)}{cap:Nat}(h:Grows en sz xs st cap)(hne:0<xs.length): ∃b cs,st=some (b,cs):=by
 cases st with
 |none=>rw[show xs=[]from h]at hne;exact absurd hne (by simp)
 |some p=>exact⟨p.1,p.2,rfl⟩
section
variable{V:Value}
end
theorem JX.retLC{s b m:Nat}{t ety:TypeId}{cs:Array Value}(hres:fn.results= #[.cell s t])(z:Z)(hz:Zp z)(hL:L.Perm (L1 z++Lr))(hol:(L1 z).all (fun o=>o.T.out)=true)(hL0: ∀b,b∈L0.map (·.b)->X b)(h:look K s=some (.is (.pointer (some ⟨b,0,none⟩))))(hs':szOf P t=some (some m))(hm:⟨b,ety,.is (.agg cs)⟩∈L)(hn:cs.size=m)(hR:R z= .is (.agg cs)):
   JX ⟨n,X,fun q=>q∈L0.map (·.b),W,[]⟩ K L Φ .ret (bodyPost P fn (PostL X W L0 Zp L1 R)):=
 JX.retLOf z hz hL hol (by rw[hR];rfl) hL0 fun a w E hs=>by
   obtain⟨v,h1,h2⟩:=Z3H (P:=P) hs' (hs.l _ hm) (Z11 hn);have e:a.tmps.getD s undef= .pointer (some ⟨b,0,none⟩):=hs.k s _ h;rw[Array.getD_eq_getD_getElem?]at e;rw[hR];exact⟨v,by simp[results,hres,Array.getD_eq_getD_getElem?,e,asAddr,h1],h2⟩
theorem Z8A{α:Type}{en:α->List Value}{sz:Nat}(hen: ∀x,(en x).length=sz): ∀(xs:List α) (i:Nat) (v:α),i<xs.length->(xs.set i v).flatMap en=splice (xs.flatMap en) (i*sz) (en v)
 |[],_,_,h=>absurd h (Nat.not_lt_zero _)
 |x::xs,0,v,_=>by
   rw[List.set_cons_zero,List.flatMap_cons,List.flatMap_cons,splice,Nat.zero_mul,List.take_zero,List.nil_append,Nat.zero_add,hen,List.drop_append_of_le_length (by rw[hen];omega),List.drop_eq_nil_of_le (by rw[hen];omega),List.nil_append]
 |x::xs,i+1,v,h=>by
   have ih:=Z8A hen xs i v (by simpa using h);have e1:(i+1)*sz=(en x).length+i*sz:=by rw[hen,Nat.succ_mul];omega
   rw[List.set_cons_succ,List.flatMap_cons,List.flatMap_cons,ih,splice,splice,e1,List.take_append,Nat.add_sub_cancel_left,List.take_of_length_le (l:=en x) (by omega),show(en x).length+i*sz+(en v).length=(en x).length+(i*sz+(en v).length) by omega,List.drop_append,Nat.add_sub_cancel_left,List.drop_eq_nil_of_le (as:=en x) (by omega),List.nil_append]
   simp[List.append_assoc]
theorem Zae{cs ys:List Value}{off n:Nat}(h:off+ys.length<=n)(hn:n<=cs.length):(splice cs off ys).take n=splice (cs.take n) off ys:=by
 unfold splice;rw[List.take_append,List.take_append,List.length_append,List.length_take,List.take_take,List.drop_take];have e1:min off cs.length=off:=by omega
 have e2:min n off=min off n:=Nat.min_comm _ _;rw[e1,e2,List.take_of_length_le (l:=ys) (by omega),List.take_take]
theorem Zbg{α:Type}{en:α->List Value}{sz:Nat}(hen: ∀x,(en x).length=sz){xs:List α}{b cap:Nat}{cs:List Value}(h:Grows en sz xs (some (b,cs)) cap){i:Nat}(hi:i<xs.length)(v:α):Grows en sz (xs.set i v) (some (b,splice cs (i*sz) (en v))) cap:=by
 obtain⟨h1,h2,h3⟩:=h;have h4:(i+1)*sz<=xs.length*sz:=Nat.mul_le_mul_right sz hi;have h5:xs.length*sz<=cap*sz:=Nat.mul_le_mul_right sz h2;rw[Nat.succ_mul]at h4;refine⟨?_,by rw[List.length_set];exact h2,?_⟩
 · rw[ZaW (by rw[hen];omega)];exact h1
 · rw[List.length_set,Z8A hen xs i v hi,<-h3,Zae (by rw[hen];omega) (by omega)]
theorem Za9{α:Type}{en:α->List Value}{sz:Nat}(hen: ∀x,(en x).length=sz)(hone: ∀x,(en x).all (·.oneCell')=true){xs:List α}{M M':List Own}{t:TypeId}{p x:Operand}{b off i cap:Nat}{e:TypeId}{cs:List Value}{v:α}(hs:(P.info? t).map (·.size)=some sz)(hp':H p (.is (.pointer (some ⟨b,off,none⟩))))(hx:H x (.is (.agg (en v).toArray)))(hG:Grows en sz xs (some (b,cs)) cap)(hi:i<xs.length)(ho:off=i*sz)
  (hu:Upd M ⟨b,e,.is (.agg cs.toArray)⟩ ⟨b,e,.is (.agg (splice cs (i*sz) (en v)).toArray)⟩ M'):ObM P L Φ H M ⟨none,.store t p x,ty,pos,after,g⟩ .any M':=by
 subst ho;obtain⟨h1,h2,h3⟩:=hG;have h4:(i+1)*sz<=cap*sz:=Nat.mul_le_mul_right sz (by omega);rw[Nat.succ_mul]at h4;exact Zc (n:=sz) hp' hx hu (by simp[Value.cells]) (by simp[Value.cells,hen]) (by simpa [Value.cells] using hone v) (Nat.ble_eq_true_of_le (by omega)) hs
section
variable{α:Type}{en:α->List Value}{sz:Nat}
theorem JO.apSL{L':List Own}{d:Nat}{ops:Array Oper}{rest:List Oper}{ty t tx e:TypeId}{pos:String}{after:Array Edge}{s x:Operand}{bytes cap:Nat}{xs:List α}(ys:List α){p:Nat×List Value}{TX:Ty}{C:Option (Nat×List Value)->List Own}
   (hT:ApTy P t e sz bytes)(hC:Cx e L (some p) C L')(hG:Grows en sz xs (some p) cap)(h0:opTy K s=some (.is (sliceO (some p) xs.length cap)))(hx:opTy K x=some TX)(hS:SrcOf P (⟨p.1,e,.is (.agg p.2.toArray)⟩::L') Φ sz tx TX ys.length (ys.flatMap en))(hfit:(xs.length+ys.length)*bytes<=140737488355328)(h63:xs.length+ys.length<=9223372036854775807)(hd:Nat.blt d c.n=true)
   (hn: ∀(p':Nat×List Value) (cap':Nat),Grows en sz (xs++ys) (some p') cap'->JO P c ((d,.is (sliceO (some p') (xs++ys).length cap'))::K) (C (some p')) Φ ops rest Q):
   JO P c K L Φ ops (⟨some d,.call {callee:=.builtin .append,args:= #[s,x],argTypes:= #[t,tx]},ty,pos,after,none⟩::rest) Q:=by
 refine JO.subL hC.tl.perm ?_;obtain⟨b,cs⟩:=p;obtain⟨h1,h2,h3⟩:=hG;refine JO.ap hT h0 hx hS h1 h2 hfit h63 hd fun b' cap' cs' k1 k2 k3=>?_;have:=hn (b',cs') cap' ⟨k1,by rw[List.length_append];exact k2,by rw[List.length_append,k3,h3,List.flatMap_append]⟩;have h4:=JO.subL (hC.back (some (b',cs'))) this
 simpa [sliceO,ownO] using h4
theorem JO.apN{d:Nat}{ops:Array Oper}{rest:List Oper}{ty t tx e:TypeId}{pos:String}{after:Array Edge}{s x:Operand}{bytes:Nat}(ys:List α){TX:Ty}
   (hT:ApTy P t e sz bytes)(h0:opTy K s=some (.is (.slice none 0 0)))(hx:opTy K x=some TX)(hS:SrcOf P L Φ sz tx TX ys.length (ys.flatMap en))(hfit:ys.length*bytes<=140737488355328)(h63:ys.length<=9223372036854775807)(hd:Nat.blt d c.n=true)
   (hn: ∀(st:Option (Nat×List Value)) (cap:Nat),Grows en sz ys st cap->JO P c ((d,.is (sliceO st ys.length cap))::K) (ownO st e L) Φ ops rest Q):
   JO P c K L Φ ops (⟨some d,.call {callee:=.builtin .append,args:= #[s,x],argTypes:= #[t,tx]},ty,pos,after,none⟩::rest) Q:=by
 by_cases hy:ys=[]
 · subst hy
   refine⟨?_⟩;intro E a w hs;refine wpList_plain rfl fun K' hK=>?_;have e1:a.eval s= .slice none 0 0:=Z12 hs h0;have e2:=hS E w (a.eval x) hs.l hs.f (Z12 hs hx);unfold Oper.wp;obtain⟨i,z,hi,hz,hzs,rfl,rfl⟩:=hT.get;have hr:=Z40 (P:=P) (ty:=ty) (a:=none) hT.ht hi e2;have hrun:(execOp a.eval ⟨some d,.call {callee:=.builtin .append,args:= #[s,x],argTypes:= #[t,tx]},ty,pos,after,none⟩).run P w= .ok (.value (.slice none 0 0)) w:=by
     simp[execOp,resolve,invoke,builtin,e1,hr]
   rw[hrun];have hs':SA c ((d,.is (.slice none 0 0))::K) L Φ E (a.put (some d) (.slice none 0 0)) w:=hs.put (dst:=some d) (T:=.is (.slice none 0 0)) (Ev.of_keeps (.refl _ _)) hs.wf rfl (fun d' e=>by injection e with e;subst e;exact Nat.le_of_ble_eq_true hd) hs.l hs.ld hs.keeps hs.may;exact hK _ _ ((hn none 0 rfl).out E _ _ hs')
 · refine JO.ap0 hT h0 (fun E v w h=>⟨none,h⟩) hx hS hfit h63 hd (fun h=>absurd (List.length_eq_zero_iff.1 h) hy) (fun _ b' cap' cs' h1 h2 h3=>?_)
   exact hn (some (b',cs')) cap' ⟨h1,h2,h3⟩
end
theorem JO.gd{ops:Array Oper}{o:Oper}{rest:List Oper}{g s:Nat}{b:Bool}(hg:o.guard=some (g,b))(hs:((ops[g]?).bind (·.dst))=some s)(hk:look K s=some (.is (.bool b)))(h:JO P c K L Φ ops ({o with guard:=none}::rest) Q):JO P c K L Φ ops (o::rest) Q:=by
 refine⟨fun E a w ha=>?_⟩;have h1:=h.out E a w ha;have h2:slotOf a s= .bool b:=ha.k s _ hk;have h3:=Z3U hg hs h2;unfold wpList at h1 ⊢;rw[h3];have h4:Region.wanted ({o with guard:=none}:Oper) (yielded ops a.tmps)=true:=rfl;rw[h4]at h1;simp only[beq_self_eq_true,if_true]at h1 ⊢;exact h1
theorem JO.gn{ops:Array Oper}{o:Oper}{rest:List Oper}{g s d:Nat}{b:Bool}(hg:o.guard=some (g,b))(hs:((ops[g]?).bind (·.dst))=some s)(hk:look K s=some (.is (.bool (!b))))(hd0:o.dst=some d)(hd:Nat.blt d c.n=true)(h:JO P c ((d,.is undef)::K) L Φ ops rest Q):JO P c K L Φ ops (o::rest) Q:=by
 refine⟨fun E a w ha=>?_⟩;have h2:slotOf a s= .bool (!b):=ha.k s _ hk;have h3:=Z3U hg hs h2;unfold wpList;rw[h3,if_neg (by cases b<;>simp)];refine h.out E _ _ ?_;rw[hd0];exact ha.put (dst:=some d) (T:=.is undef) (Ev.refl _ _) ha.wf rfl (fun d' e=>by injection e with e;subst e;exact Nat.blt_eq.mp hd) ha.l ha.ld ha.keeps ha.may
section
variable{Φ1:List (World->Prop)}{Z':Type}{Zp':Z'->Prop}{L1':Z'->List Own}{R':Z'->Ty}
theorem CallTy.toL{T:Ty}(h:CallTy P f As T)(z0:Z)(hz:Zp z0)(hL:L1 z0=L0)(hR: ∀E v w,T.p E v w->(R z0).p E v w):CallL P f L0 Φ0 As Zp L1 R:=
 ⟨h.enter,fun E w vs hw hM hnd hΦ ht=>Calls.mono (h.calls E w vs hw ht) (by
  rintro e w' ⟨v,rfl,hk,hT⟩;have hev:Ev E w E w':=Ev.of_keeps hk.of_noX;refine⟨v,z0,E,rfl,hz,hk.of_noX,fun _ _=>Iff.rfl,fun b hb=>Nat.lt_of_lt_of_le (hw b hb) hk.size,?_,?_,?_,hR _ _ _ hT⟩
  · rw[hL];exact fun o ho=>Own.keep0 (hM o ho) hev hk
  · rw[hL];exact hnd
  · rw[hL];exact fun o ho=>.inl (List.mem_map_of_mem ho))⟩
end
theorem JO.callK{ops:Array Oper}{rest:List Oper}{d:Nat}{ty:TypeId}{pos:String}{after:Array Edge}{xs:List Operand}{ats:Array TypeId}(hc:CallL P f L0 Φ0 As Zp L1 R)(hd:Nat.blt d c.n=true)(hL:L.Perm (L0++Lr))(hΦ: ∀F∈Φ0,F∈Φ)(ha:Args L Φ (Kn K) xs As)
  (hn: ∀z,Zp z->JO P c ((d,R z)::K) (L1 z++Lr) Φ ops rest Q):JO P c K L Φ ops (⟨some d,.call {callee:=.value (.func f),args:=xs.toArray,argTypes:=ats},ty,pos,after,none⟩::rest) Q:=
 JO.callL hc (fun d' e=>by injection e with e;subst e;exact Nat.blt_eq.mp hd) hL hΦ ha hn
theorem Z13: ∀F∈([]:List (World->Prop)),F∈Φ:=fun _ h=>by cases h
theorem Z4y{F:World->Prop}(h:F∈Φ): ∀G∈[F],G∈Φ:=fun G hG=>by rw[List.mem_singleton.1 hG];exact h
theorem Z1b(L:List Own):L.Perm ([]++L):=.of_eq (List.nil_append L).symm
section
variable{L0' F:List Own}{L1':Z->List Own}
end
theorem J.loopH{α:Type}{body:Code}(Kf:α->List (Nat×Ty))(Lf:α->List Own)(Ff:α->World->Prop)(inv:α->Prop)(μ:α->Nat)(x0:α)(ss:List Nat)(h0:Sel K ss (Kf x0))(hL:Lf x0=L)(hF: ∀E w,(∀G∈Φ,Pers E w G)->Pers E w (Ff x0))(hi:inv x0)
  (h: ∀x,inv x->J P c (Kf x) (Lf x) (Ff x::Φ) body (Exit.then (fun a w=>∃x',inv x'/\μ x'<μ x/\ ∃E,SA c (Kf x') (Lf x') (Ff x'::Φ) E a w) Q)):J P c K L Φ (.loop body) Q:=
 J.sel ss h0 (J.fact (Ff x0) (fun E w hG _=>hF E w hG) (J.loop Kf Lf (fun x=>Ff x::Φ) inv μ x0 ⟨rfl,hL,rfl⟩ hi h))
theorem J.cutZN{Z:Type}(Kf:Z->List (Nat×Ty))(Lf:Z->List Own)(inv:Z->Prop){x y:Code}(h:J P c K L Φ x (Exit.then (fun a w=>∃z,inv z/\ ∃E,SA c (Kf z) (Lf z) Φ E a w) Q))(hy: ∀z,inv z->J P c (Kf z) (Lf z) Φ y Q):J P c K L Φ x (Exit.then (y.wp P Q) Q):=
 ⟨fun E a w hs=>wp_mono (h.out E a w hs) fun e a w hq=>by
   cases e with
   |normal=>
     obtain⟨z,hz,E,hs⟩:=hq;exact(hy z hz).out E a w hs
   |_=>exact hq⟩
theorem JX.midZ{Z:Type}{Kf:Z->List (Nat×Ty)}{Lf:Z->List Own}{inv:Z->Prop}{Φ':List (World->Prop)}(z:Z)(hi:inv z)(ss:List Nat)(hK:Sel K ss (Kf z))(hL:Has L (Lf z))(hΦ: ∀G∈Φ',G∈Φ):
  JX c K L Φ .normal (Exit.then (fun a w=>∃z,inv z/\ ∃E,SA c (Kf z) (Lf z) Φ' E a w) Q):=
 ⟨fun E a w hs=>⟨z,hi,E,hs.sub hK.look hL.mem (hL.nodup hs.ld) hΦ⟩⟩
section
variable{Z':Type}{Zp':Z'->Prop}{L1':Z'->List Own}{R':Z'->Ty}
end
def PostP{Z:Type}(X:Nat->Prop)(W:World)(L0:List Own)(Bad:Prop)(ch:List PanicEntry)(Zp:Z->Prop)(L1:Z->List Own)(R:Z->Ty):Ending->World->Prop:=
 fun e w'=>PostL X W L0 Zp L1 R e w'\/(e= .panicked ch/\Bad/\Keeps (fun q=>q∈L0.map (·.b)) W w')
structure CallP (P:Program) (f:FuncId) {Z:Type} (L0:List Own) (Φ0:List (World->Prop)) (As:List Ty) (Bad:Prop) (ch:List PanicEntry) (Zp:Z->Prop) (L1:Z->List Own) (R:Z->Ty):Prop where
 enter: ∀args w,(callFunc f args).run P w= .ok (.enter f args) w
 calls: ∀(E:Nat->Prop) (w:World) (vs:List Value),(∀b,E b->b<w.heap.size)->(∀o∈L0,o.at E w)->(L0.map (·.b)).Nodup->(∀F∈Φ0,Pers E w F)->TyAll E w As vs->
   Calls P f vs.toArray w (PostP E w L0 Bad ch Zp L1 R)
def RunsP(P:Program)(r:Result Next)(Bad:World->Prop)(ch:List PanicEntry)(R:Value->World->Prop):Prop:=
 match r with
 | .ok (.enter f args) w'=>Calls P f args w' fun
     | .returned v,w''=>R v w''
     | .panicked chain,w''=>chain=ch/\Bad w''
     | .outgrown,_=>False
 |_=>False
theorem JO.stepP{ops:Array Oper}{o:Oper}{rest:List Oper}(hg:o.guard=none)(hd: ∀d,o.dst=some d->d<c.n)(hL:L.Perm (L0++Lr))
   (h: ∀E w ρ,Pre L Φ (Kn K) o E w ρ->(L0.map (·.b)).Nodup->RunsP P ((execOp ρ o).run P w) (fun w'=>Bad/\Keeps (fun q=>q∈L0.map (·.b)) w w') ch fun v w'=>∃z E',EndL L0 Zp L1 R E w z E' v w')
   (hp:Bad->JX c K Lr Φ (.panic ch) Q)
   (hn: ∀z,Zp z->JO P c (putK o.dst (R z) K) (L1 z++Lr) Φ ops rest Q):JO P c K L Φ ops (o::rest) Q:=by
 refine⟨?_⟩;intro E a w hs;refine wpList_plain hg fun K' hK=>?_;unfold Oper.wp;have hnd:((L0++Lr).map (·.b)).Nodup:=((hL.map _).nodup_iff).1 hs.ld;rw[List.map_append,List.nodup_append]at hnd;have h0:=h E w a.eval ⟨hs.wf,hs.l,hs.f,fun x T' _ hx=>Z12 hs hx⟩ hnd.1;have hin: ∀o∈L0,o∈L:=fun o ho=>hL.mem_iff.2 (List.mem_append_left _ ho);have hir: ∀o∈Lr,o∈L:=fun o ho=>hL.mem_iff.2 (List.mem_append_right _ ho);have hsub: ∀b,b∈L0.map (·.b)->E b:=fun b hb=>by obtain⟨m,hm,rfl⟩:=List.mem_map.1 hb;exact(hs.l m (hin m hm)).1
 have hmay: ∀b,b∈L0.map (·.b)->c.X0 b\/c.W0.heap.size<=b:=fun b hb=>by obtain⟨m,hm,rfl⟩:=List.mem_map.1 hb;exact hs.may m (hin m hm)
 generalize (execOp a.eval o).run P w=r at h0 ⊢
 unfold RunsP at h0
 split at h0
 · rename_i f' args w1
   rw[Oper.upon_enter];refine Calls.mono h0 ?_;intro e w' he;cases e with
   |returned v=>
     obtain⟨z,E',he⟩:=he;refine hK _ _ ((hn z he.zp).out E' _ _ ?_);have hev:Ev E w E' w':=⟨he.k.mono (fun b _=>hsub b),he.same⟩;refine hs.put hev he.wf he.r hd ?_ ?_ (hs.keeps.step he.k hmay) ?_
     · intro o ho
       rcases List.mem_append.1 ho with ho|ho
       · exact he.l o ho
       · have h1:=hs.l o (hir o ho)
         exact Own.keep h1 hev (he.k.blk _ (hs.wf _ h1.1) fun hm=>hnd.2.2 _ hm _ (List.mem_map_of_mem ho) rfl)
     · rw[List.map_append,List.nodup_append]
       refine⟨he.nd,hnd.2.1,fun b hb b' hb' e=>?_⟩;subst e;obtain⟨m,hm,rfl⟩:=List.mem_map.1 hb;obtain⟨m',hm',e'⟩:=List.mem_map.1 hb';rcases he.inn m hm with h1|h1
       · exact hnd.2.2 _ h1 _ hb' rfl
       · have:=hs.wf m'.b (hs.l m' (hir m' hm')).1
         have e2:m'.b=m.b:=e'
         omega
     · intro o ho
       rcases List.mem_append.1 ho with ho|ho
       · rcases he.inn o ho with h1|h1
         · exact hmay _ h1
         · exact .inr (Nat.le_trans hs.keeps.size h1)
       · exact hs.may o (hir o ho)
   |panicked chain=>
     obtain⟨rfl,hb,hk⟩:=he;have hev:Ev E w E w':=Ev.of_keeps (hk.mono fun b _=>hsub b);refine(hp hb).out E a w' ⟨hs.n,hs.d,fun b hb=>Nat.lt_of_lt_of_le (hs.wf b hb) hk.size,fun s T hl=>Ty.mono hev (hs.k s T hl),fun o ho=>?_,hnd.2.1,fun F hF=>(hs.f F hF).ev hev,hs.x,hs.xs,hs.keeps.step hk hmay,fun o ho=>hs.may o (hir o ho)⟩;have h1:=hs.l o (hir o ho);exact Own.keep h1 hev (hk.blk _ (hs.wf _ h1.1) fun hm=>hnd.2.2 _ hm _ (List.mem_map_of_mem ho) rfl)
   |outgrown=>exact he.elim
 · exact h0.elim
theorem Z6T(hc:CallP P f L0 Φ0 As Bad ch Zp L1 R)(hΦ: ∀F∈Φ0,F∈Φ){E:Nat->Prop}{w:World}{vs:List Value}(hw: ∀b,E b->b<w.heap.size)(hf: ∀F∈Φ,Pers E w F)(ht:TyAll E w As vs)(hM: ∀m∈L0,m.at E w)(hnd:(L0.map (·.b)).Nodup):
  RunsP P ((callFunc f vs.toArray).run P w) (fun w'=>Bad/\Keeps (fun q=>q∈L0.map (·.b)) w w') ch fun v w'=>∃z E',EndL L0 Zp L1 R E w z E' v w':=by
 rw[hc.enter];refine Calls.mono (hc.calls E w vs hw hM hnd (fun F hF=>hf F (hΦ F hF)) ht) ?_;rintro e w' (⟨v,z,E',rfl,h⟩|⟨rfl,h⟩)
 · exact⟨z,E',h⟩
 · exact⟨rfl,h⟩
theorem JO.callP{ops:Array Oper}{rest:List Oper}{dst:Option Nat}{ty:TypeId}{pos:String}{after:Array Edge}{xs:List Operand}{ats:Array TypeId}(hc:CallP P f L0 Φ0 As Bad ch Zp L1 R)(hd: ∀d,dst=some d->d<c.n)(hL:L.Perm (L0++Lr))(hΦ: ∀F∈Φ0,F∈Φ)(ha:Args L Φ (Kn K) xs As)
   (hp:Bad->JX c K Lr Φ (.panic ch) Q)
   (hn: ∀z,Zp z->JO P c (putK dst (R z) K) (L1 z++Lr) Φ ops rest Q):JO P c K L Φ ops (⟨dst,.call {callee:=.value (.func f),args:=xs.toArray,argTypes:=ats},ty,pos,after,none⟩::rest) Q:=by
 refine JO.stepP rfl hd hL (fun E w ρ hp hnd=>?_) hp hn;have h1:ρ (.func f)= .func (.func f) #[] #[]:=hp.x (.func f) (.is (.func (.func f) #[] #[])) (by simp[Op.operands,Call.operands]) rfl;have hall:=ha.all (ρ:=ρ) (Z1P hp) fun x T hx=>hp.x x T (by simp[Op.operands,Call.operands,hx]);have h3:=Z6T hc hΦ hp.wf hp.f hall (fun m hm=>hp.l m (hL.mem_iff.2 (List.mem_append_left _ hm))) hnd;simp only[execOp,resolve,h1,Deferred.ofValue,invoke,Sem.run_bind,Sem.run_pure,Result.andThen_ok,List.map_toArray]
 simpa using h3
theorem JO.callPv{ops:Array Oper}{rest:List Oper}{dst:Option Nat}{ty:TypeId}{pos:String}{after:Array Edge}{cal:Operand}{xs:List Operand}{ats:Array TypeId}{cp:List Value}(hf:opTy K cal=some (.is (.func (.func f) #[] cp.toArray)))(hc:CallP P f L0 Φ0 (As++cp.map Ty.is) Bad ch Zp L1 R)(hd: ∀d,dst=some d->d<c.n)(hL:L.Perm (L0++Lr))(hΦ: ∀F∈Φ0,F∈Φ)(ha:Args L Φ (Kn K) xs As)
   (hp:Bad->JX c K Lr Φ (.panic ch) Q)
   (hn: ∀z,Zp z->JO P c (putK dst (R z) K) (L1 z++Lr) Φ ops rest Q):JO P c K L Φ ops (⟨dst,.call {callee:=.value cal,args:=xs.toArray,argTypes:=ats},ty,pos,after,none⟩::rest) Q:=by
 refine JO.stepP rfl hd hL (fun E w ρ hp hnd=>?_) hp hn;have h1:ρ cal= .func (.func f) #[] cp.toArray:=hp.x cal _ (by simp[Op.operands,Call.operands]) hf;have hall:=ha.all (ρ:=ρ) (Z1P hp) fun x T hx=>hp.x x T (by simp[Op.operands,Call.operands,hx]);have hcp:TyAll E w (cp.map Ty.is) cp:=by
   clear hf hc h1
   induction cp with
   |nil=>trivial
   |cons v cp ih=>exact⟨rfl,ih⟩
 have h3:=Z6T hc hΦ hp.wf hp.f (hall.append hcp) (fun m hm=>hp.l m (hL.mem_iff.2 (List.mem_append_left _ hm))) hnd;simp only[execOp,resolve,h1,Deferred.ofValue,invoke,Sem.run_bind,Sem.run_pure,Result.andThen_ok,List.map_toArray]
 simpa using h3
theorem JO.callPK{ops:Array Oper}{rest:List Oper}{d:Nat}{ty:TypeId}{pos:String}{after:Array Edge}{xs:List Operand}{ats:Array TypeId}(hc:CallP P f L0 Φ0 As Bad ch Zp L1 R)(hd:Nat.blt d c.n=true)(hL:L.Perm (L0++Lr))(hΦ: ∀F∈Φ0,F∈Φ)(ha:Args L Φ (Kn K) xs As)
  (hp:Bad->JX c K Lr Φ (.panic ch) Q)
  (hn: ∀z,Zp z->JO P c ((d,R z)::K) (L1 z++Lr) Φ ops rest Q):JO P c K L Φ ops (⟨some d,.call {callee:=.value (.func f),args:=xs.toArray,argTypes:=ats},ty,pos,after,none⟩::rest) Q:=
 JO.callP hc (fun d' e=>by injection e with e;subst e;exact Nat.blt_eq.mp hd) hL hΦ ha hp hn
theorem JO.pan{ops:Array Oper}{rest:List Oper}{x:Operand}{ty t:TypeId}{v:Value}{dst:Option Nat}{pos:String}{after:Array Edge}(hx:opTy K x=some (.is (.iface t v)))(h:JX c K L Φ (.panic [{v:=.iface t v,recovered:=false}]) Q):JO P c K L Φ ops (⟨dst,.panic x,ty,pos,after,none⟩::rest) Q:=by
 refine⟨?_⟩;intro E a w hs;refine wpList_plain rfl fun K' hK=>?_;unfold Oper.wp;have h1:a.eval x= .iface t v:=Z12 hs hx;have h2:(execOp a.eval ⟨dst,.panic x,ty,pos,after,none⟩).run P w= .halt (.panic (.iface t v)) w:=by
   simp only[execOp,h1]
   rfl
 rw[h2,Oper.upon_panic];exact h.out E a w hs
theorem JX.pan_pass{N:Act->World->Prop}(h:JX c K L Φ (.panic ch) Q):JX c K L Φ (.panic ch) (Exit.then N Q):=⟨h.out⟩
theorem JX.pan_block{id:Nat}(h:JX c K L Φ (.panic ch) Q):JX c K L Φ (.panic ch) (Exit.inBlock id Q):=⟨h.out⟩
theorem JX.pan(hb:Bad):JX ⟨n,X,fun q=>q∈L0.map (·.b),W,[]⟩ K L Φ (.panic ch) (bodyPost P fn (PostP X W L0 Bad ch Zp L1 R)):=
 ⟨fun _ _ _ hs=>⟨hs.d,.inr ⟨rfl,hb,hs.keeps⟩⟩⟩
theorem JX.toP(h:JX c K L Φ .ret (bodyPost P fn (PostL X W L0 Zp L1 R))):JX c K L Φ .ret (bodyPost P fn (PostP X W L0 Bad ch Zp L1 R)):=
 ⟨fun E a w hs=>by obtain⟨h1,v,h2,h3⟩:=h.out E a w hs;exact⟨h1,v,h2,.inl h3⟩⟩
theorem JX.retLCs{s b m:Nat}{t ety:TypeId}{T:Ty}(hres:fn.results= #[.cell s t])(z:Z)(hz:Zp z)(hL:L.Perm (L1 z++Lr))(hol:(L1 z).all (fun o=>o.T.out)=true)(hor:(R z).out=true)(hL0: ∀b,b∈L0.map (·.b)->X b)(h:look K s=some (.is (.pointer (some ⟨b,0,none⟩))))(hs':szOf P t=some (some m))(hm:⟨b,ety,T⟩∈L)(hT: ∀E v w,T.p E v w->∃cs,v= .agg cs/\cs.size=m)(hR:Sub L Φ T (R z)):
   JX ⟨n,X,fun q=>q∈L0.map (·.b),W,[]⟩ K L Φ .ret (bodyPost P fn (PostL X W L0 Zp L1 R)):=
 JX.retLOf z hz hL hol hor hL0 fun a w E hs=>by
   obtain⟨v,h1,h2⟩:=Z3H (P:=P) hs' (hs.l _ hm) hT;have e:a.tmps.getD s undef= .pointer (some ⟨b,0,none⟩):=hs.k s _ h;rw[Array.getD_eq_getD_getElem?]at e;exact⟨v,by simp[results,hres,Array.getD_eq_getD_getElem?,e,asAddr,h1],hR E _ w ⟨hs.l,hs.f⟩ h2⟩
theorem CallP.of{x:Code}(hf:P.funcs[f]? =some fn)(hb:fn.body=some x)(hn:fn.ntmps=n)(hl:Nat.ble As.length n=true)(he: ∀args w,(callFunc f args).run P w= .ok (.enter f args) w)
   (h: ∀(E:Nat->Prop) (W:World),(∀b,b∈L0.map (·.b)->E b)->J P ⟨n,E,fun q=>q∈L0.map (·.b),W,[]⟩ (params 0 As) L0 Φ0 x (bodyPost P fn (PostP E W L0 Bad ch Zp L1 R))):CallP P f L0 Φ0 As Bad ch Zp L1 R:=
 ⟨he,fun E w vs hw hM hnd hΦ ht=>by
   refine calls_of_wp hf hb ?_;rw[hn];refine(h E w (fun b hb=>by obtain⟨m,hm,rfl⟩:=List.mem_map.1 hb;exact(hM m hm).1)).out E _ w ?_;have hs:=Z2m (n:=n) hw ht (Nat.le_of_ble_eq_true hl);exact⟨hs.n,hs.d,hw,hs.k,hM,hnd,hΦ,fun _ h=>h,hw,.refl _ _,fun o ho=>.inl (List.mem_map_of_mem ho)⟩⟩
section
variable{Φ1:List (World->Prop)}{Z':Type}{Zp':Z'->Prop}{L1':Z'->List Own}{R':Z'->Ty}{Bad':Prop}
theorem CallP.map(h:CallP P f L0 Φ0 As Bad ch Zp L1 R)(hb:Bad->Bad')(g:Z->Z')(hz: ∀z,Zp z->Zp' (g z))(hL: ∀z,Zp z->L1 z=L1' (g z))(hR: ∀z,Zp z->R z=R' (g z)):CallP P f L0 Φ0 As Bad' ch Zp' L1' R':=
 ⟨h.enter,fun E w vs hw hM hnd hΦ ht=>Calls.mono (h.calls E w vs hw hM hnd hΦ ht) (by
   rintro e w' (⟨v,z,E',rfl,he⟩|⟨rfl,h1,h2⟩)
   · refine .inl ⟨v,g z,E',rfl,hz z he.zp,he.k,he.same,he.wf,?_,?_,?_,?_⟩
     · rw[<-hL z he.zp];exact he.l
     · rw[<-hL z he.zp];exact he.nd
     · rw[<-hL z he.zp];exact he.inn
     · rw[<-hR z he.zp];exact he.r
   · exact .inr ⟨rfl,hb h1,h2⟩)⟩
theorem CallP.weak(h:CallP P f L0 Φ0 As Bad ch Zp L1 R)(hs: ∀F∈Φ0,F∈Φ1):CallP P f L0 Φ1 As Bad ch Zp L1 R:=
 ⟨h.enter,fun E w vs hw hM hnd hΦ ht=>h.calls E w vs hw hM hnd (fun F hF=>hΦ F (hs F hF)) ht⟩
end
def fldSc(P:Program)(t:TypeId)(i:Nat):Option Nat:=
 match P.underlying t with
 |some (.struct fs)=>
   match fs[i]? with
   |some f=>
     match P.underlying f.type with
     |some .string=>some f.offset
     |some .bool=>some f.offset
     |some (.int _)=>some f.offset
     |_=>none
   |none=>none
 |_=>none
theorem Z54{P:Program}{L:List Own}{Φ:List (World->Prop)}{H:Know}{dst:Option Nat}{ty:TypeId}{pos:String}{after:Array Edge}{g:Option (Nat×Bool)}{xt:TypeId}{x:Operand}{cs:Array Value}{i off:Nat}{v:Value}(hs:fldSc P xt i=some off)(hx:H x (.is (.agg cs)))(hv:cs[off]? =some v):Ob P L Φ H ⟨dst,.field xt x i,ty,pos,after,g⟩ (.is v):=
 Z1i fun E w ρ hp=>by
   have h1:ρ x= .agg cs:=hp.x x _ (by simp[Op.operands]) hx;unfold fldSc at hs
   split at hs
   · rename_i fs hu
     split at hs
     · rename_i f hf
       split at hs
       · rename_i he
         injection hs with hs
         subst hs;have hag:(isAgg f.type).run P w= .ok false w:=by simp[isAgg,run_underlying he]
         simp[execOp,h1,Instr.field,run_underlying hu,hf,asAgg,part,hag,hv]
       · rename_i he
         injection hs with hs
         subst hs;have hag:(isAgg f.type).run P w= .ok false w:=by simp[isAgg,run_underlying he]
         simp[execOp,h1,Instr.field,run_underlying hu,hf,asAgg,part,hag,hv]
       · rename_i k he
         injection hs with hs
         subst hs;have hag:(isAgg f.type).run P w= .ok false w:=by simp[isAgg,run_underlying he]
         simp[execOp,h1,Instr.field,run_underlying hu,hf,asAgg,part,hag,hv]
       · cases hs
     · cases hs
   · cases hs
class PanQ (c:Ctx) (ch:List PanicEntry) (Bad:outParam Prop) (Q:Exit->Act->World->Prop):Prop where
 out:Bad->∀K L Φ,JX c K L Φ (.panic ch) Q
instance panQ_post {P:Program} {fn:Func} {n:Nat} {X:Nat->Prop} {W:World} {L0:List Own} {Bad:Prop} {ch:List PanicEntry} {Z:Type} {Zp:Z->Prop} {L1:Z->List Own} {R:Z->Ty}:PanQ ⟨n,X,fun q=>q∈L0.map (·.b),W,[]⟩ ch Bad (bodyPost P fn (PostP X W L0 Bad ch Zp L1 R)):=⟨fun h _ _ _=>JX.pan h⟩
instance panQ_then {c:Ctx} {ch:List PanicEntry} {Bad:Prop} {Q:Exit->Act->World->Prop} {N:Act->World->Prop} [h:PanQ c ch Bad Q]:PanQ c ch Bad (Exit.then N Q):=⟨fun hb K L Φ=>JX.pan_pass (h.out hb K L Φ)⟩
instance panQ_block {c:Ctx} {ch:List PanicEntry} {Bad:Prop} {Q:Exit->Act->World->Prop} {id:Nat} [h:PanQ c ch Bad Q]:PanQ c ch Bad (Exit.inBlock id Q):=⟨fun hb K L Φ=>JX.pan_block (h.out hb K L Φ)⟩
theorem JX.pnI{c:Ctx}{K:List (Nat×Ty)}{L:List Own}{Φ:List (World->Prop)}{ch:List PanicEntry}{Bad:Prop}{Q:Exit->Act->World->Prop}[h:PanQ c ch Bad Q](hb:Bad):JX c K L Φ (.panic ch) Q:=h.out hb K L Φ
end Go.Vc
