/- The program logic, part 5. No condition. -/
import Derived.Test.YtbedigkncjbggaaDoorXG3
import Derived.Laws.MakeOwn
import Derived.Lib.Replace
import Derived.Lib.CountLaws
namespace Go.Vc
open Go
variable{P:Program}{c:Ctx}{K K' K0:List (Nat×Ty)}{L L' L0 Lr Lq Lm Lk:List Own}{Φ Φ0:List (World->Prop)}{Q:Exit->Act->World->Prop}{H:Know}{dst:Option Nat}{ty:TypeId}{pos:String}{after:Array Edge}{g:Option (Nat×Bool)}{ops:Array Oper}{rest:List Oper}{fn:Func}{n:Nat}{X:Nat->Prop}{W:World}{op:Op}{f:FuncId}{As:List Ty}{T:Ty}{Z:Type}{Zp:Z->Prop}{L1:Z->List Own}{R:Z->Ty}{Bad:Prop}{ch:List PanicEntry}
section
variable{d i s:Nat}{b:Bool}
end
section
variable{xt yt:TypeId}{x y:Operand}{k:IntKind}{a b:Int}{v:Bool}
end
theorem SA.newS{E:Nat->Prop}{a:Act}{w:World}{d:Nat}{t:TypeId}{u:Value}{n:Nat}(hs:SA c K L Φ E a w)(hd:d<c.n):
   ∃E',SA c ((d,.is (.slice (some ⟨w.heap.size,0,none⟩) n n))::K) (⟨w.heap.size,t,.is u⟩::L) Φ E' (a.put (some d) (.slice (some ⟨w.heap.size,0,none⟩) n n)) (w.alloc (.cells u.cells t)):=by
 have hk:=Keeps.alloc w (.cells u.cells t);have hev:Ev E w (fun b=>E b\/b=w.heap.size) (w.alloc (.cells u.cells t)):=⟨hk.of_noX,fun b hb=>⟨fun h=>h.elim id (fun e=>absurd hb (by omega)),.inl⟩⟩;refine⟨fun b=>E b\/b=w.heap.size,hs.put (dst:=some d) (T:=.is (.slice (some ⟨w.heap.size,0,none⟩) n n)) hev ?_ rfl (fun d' e=>by injection e with e;omega) ?_ ?_ (hs.keeps.step hk fun _=>False.elim) ?_⟩
 · rintro b (hb|rfl)
   · rw[Z1c];have:=hs.wf b hb;omega
   · rw[Z1c];omega
 · intro o ho
   rcases List.mem_cons.1 ho with rfl|ho
   · exact⟨.inr rfl,u,Z15 w _,rfl⟩
   · exact Own.keep0 (hs.l o ho) hev hk
 · rw[List.map_cons,List.nodup_cons]
   refine⟨fun h=>?_,hs.ld⟩;obtain⟨m,hm,e⟩:=List.mem_map.1 h;have:=hs.wf _ (hs.l m hm).1;rw[e]at this;exact absurd this (Nat.lt_irrefl _)
 · intro o ho
   rcases List.mem_cons.1 ho with rfl|ho
   · exact .inr hs.keeps.size
   · exact hs.may o ho
theorem Z19{xt yt:TypeId}{x y:Operand}{s t u:ByteArray}(hx:H x (.is (.string s)))(hy:H y (.is (.string t)))(h:s.size+t.size<=9223372036854775807)(hu:s++t=u):
 Ob P L Φ H ⟨dst,.binOp .add xt x y yt,ty,pos,after,g⟩ (.is (.string u)):=hu ▸ Z5s hx hy h
end Go.Vc
set_option maxRecDepth 20000
namespace Go.Vc
open Go
variable{P:Program}{c:Ctx}{K K' K0:List (Nat×Ty)}{L L' L0 Lr Lq Lm Lk:List Own}{Φ Φ0:List (World->Prop)}{Q:Exit->Act->World->Prop}{H:Know}{dst:Option Nat}{ty:TypeId}{pos:String}{after:Array Edge}{g:Option (Nat×Bool)}{ops:Array Oper}{rest:List Oper}{fn:Func}{n:Nat}{X:Nat->Prop}{W:World}{op:Op}{f:FuncId}{As:List Ty}{T:Ty}{Z:Type}{Zp:Z->Prop}{L1:Z->List Own}{R:Z->Ty}{Bad:Prop}{ch:List PanicEntry}
theorem ZaT{s t:TypeId}{x:Operand}{k ku:IntKind}{a cc:Int}(hu0: ∃d,P.underlying s=some d)(hu:P.underlying t=some (.int k))(hx:H x (.is (.int ku a)))(hc:k.wrap a=cc):
 Ob P L Φ H ⟨dst,.convert s t x,ty,pos,after,g⟩ (.is (.int k cc)):=hc ▸ Z8y hu0 hu hx
end Go.Vc
set_option maxRecDepth 20000
namespace Go.Vc
open Go
variable{P:Program}{c:Ctx}{K K' K0:List (Nat×Ty)}{L L' L0 Lr Lq Lm Lk:List Own}{Φ Φ0:List (World->Prop)}{Q:Exit->Act->World->Prop}{H:Know}{dst:Option Nat}{ty:TypeId}{pos:String}{after:Array Edge}{g:Option (Nat×Bool)}{ops:Array Oper}{rest:List Oper}{fn:Func}{n:Nat}{X:Nat->Prop}{W:World}{op:Op}{f:FuncId}{As:List Ty}{T:Ty}{Z:Type}{Zp:Z->Prop}{L1:Z->List Own}{R:Z->Ty}{Bad:Prop}{ch:List PanicEntry}
def SlC{α:Type}(enc:α->List Value)(sz:Nat)(xs:List α)(v:Value)(w:World):Prop:=∃a len cap,v= .slice a len cap/\len<=cap/\RowG enc sz xs a len w
section
variable{α:Type}{enc:α->List Value}{sz:Nat}
theorem Sub.slNilC:Sub L Φ (.is (.slice none 0 0)) (.rep (SlC enc sz [])):=fun E v w hf e=>by
 rw[show v=_ from e];exact fun w' _=>⟨none,0,0,rfl,Nat.le_refl _,rfl,fun h=>absurd rfl h⟩
theorem Sub.slFactC{xs:List α}{a:Option Addr}{len cap:Nat}(h:RowG enc sz xs a len∈Φ)(hc:len<=cap):Sub L Φ (.is (.slice a len cap)) (.rep (SlC enc sz xs)):=fun E v w hf e=>by
 rw[show v=_ from e];exact fun w' hk=>⟨a,len,cap,rfl,hc,hf.2 _ h w' hk⟩
theorem ZaZ{xs:List α}{st:Option (Nat×List Value)}{cap:Nat}(h:Grows enc sz xs st cap): ∃cap',xs.length<=cap'/\sliceO st xs.length cap= .slice (adO st) xs.length cap':=by
 cases st with
 |none=>
   have:xs=[]:=h;subst this;exact⟨0,Nat.le_refl _,rfl⟩
 |some p=>exact⟨cap,h.2.1,rfl⟩
theorem Sub.slOC{xs:List α}{cap:Nat}{st:Option (Nat×List Value)}(hG:Grows enc sz xs st cap)(h:RowG enc sz xs (adO st) xs.length∈Φ):Sub L Φ (.is (sliceO st xs.length cap)) (.rep (SlC enc sz xs)):=by
 obtain⟨cap',hc,e⟩:=ZaZ hG;rw[e];exact Sub.slFactC h hc
theorem J.openSlC{x:Code}{s:Nat}{xs:List α}(h:look K s=some (.rep (SlC enc sz xs)))
   (hj: ∀a len cap b o,xs.length=len->(len≠0->a=some ⟨b,o,none⟩)->len<=cap->J P c ((s,.is (.slice a len cap))::K) L (RowG enc sz xs a len::Φ) x Q):J P c K L Φ x Q:=by
 refine J.open_ h ?_;rintro v ⟨w,a,len,cap,rfl,hc,hl,hk⟩;obtain⟨b,o,hbo⟩: ∃b o,len≠0->a=some ⟨b,o,none⟩:=by
   by_cases hn:len=0
   · exact⟨0,0,fun h=>absurd hn h⟩
   · obtain⟨b,o,e,_⟩:=hk hn;exact⟨b,o,fun _=>e⟩
 refine J.fact (RowG enc sz xs a len) (fun E w hG _=>?_) (J.subΦ (Φ':=RowG enc sz xs a len::Φ) (fun F hF=>?_) (hj a len cap b o hl hbo hc))
 · intro w' hk'
   obtain⟨a',len',cap',e,_,hK⟩:=hG _ List.mem_cons_self w' hk';injection e with e1 e2 e3
   subst e1 e2;exact hK
 · rcases List.mem_cons.1 hF with rfl|hF
   · exact List.mem_cons_self
   · exact List.mem_cons_of_mem _ (List.mem_cons_of_mem _ hF)
end
theorem JO.buildOwn{d:Nat}{t e ty:TypeId}{pos:String}{after:Array Edge}{n sz:Nat}{xs:List (Nat×Operand)}{vs:List (Nat×Value)}{z cs:List Value}(hsh:SlShape P t e sz z)(hn:0<n)(hsm:n*sz<=16777216)(hp:PartsIs (Kn K) xs vs)(hzl:z.length=sz)
   (hok:fillOK (fun i=>some (i*sz,sz)) (n*sz) vs=true)(hc:fillV (fun i=>some (i*sz,sz)) (zeros z (n*sz)) vs=cs)(hd:Nat.blt d c.n=true)
   (hj: ∀b,JO P c ((d,.is (sliceO (some (b,cs)) n n))::K) (ownO (some (b,cs)) e L) Φ ops rest Q):JO P c K L Φ ops (⟨some d,.buildSlice t n xs.toArray,ty,pos,after,none⟩::rest) Q:=by
 refine⟨?_⟩;intro E a w hs;refine wpList_plain rfl fun K' hK=>?_;have hm:=hp.map (ρ:=a.eval) (w:=w) (E:=E) fun x T _ hT=>Z12 hs hT;have hb:=Z2C n w hsh hn hsm hzl hok hc;obtain⟨E',h⟩:=hs.newS (t:=e) (u:=.agg cs.toArray) (n:=n) (Nat.le_of_ble_eq_true hd);unfold Oper.wp;have hrun:(execOp a.eval ⟨some d,.buildSlice t n xs.toArray,ty,pos,after,none⟩).run P w= .ok (.value (.slice (some ⟨w.heap.size,0,none⟩) n n)) (w.alloc (.cells cs.toArray e)):=by
   simp only[execOp];rw[show(xs.toArray.map fun(i,x)=>(i,a.eval x))=vs.toArray by rw[List.map_toArray];exact congrArg List.toArray hm]
   simp[hb]
 rw[hrun];exact hK _ _ ((hj _).out E' _ _ h)
theorem Zax{α:Type}{enc:α->List Value}{sz:Nat}{P:Program}{L:List Own}{Φ:List (World->Prop)}{tx e':TypeId}{xs:List α}{a:Option Addr}{len cap:Nat}(hsz: ∀x,(enc x).length=sz)(hp:0<sz)(h1: ∀x,∀u∈enc x,u.oneCell'=true)(hk:P.underlying tx=some (.slice e'))(hF:RowG enc sz xs a len∈Φ):SrcOf P L Φ sz tx (.is (.slice a len cap)) xs.length (xs.flatMap enc):=fun E w v hL hΦ h=>
 ZdU hsz hp h1 hk E w v hL hΦ (by rw[show v=_ from h];exact fun w' hk=>⟨a,len,cap,rfl,hΦ _ hF w' hk⟩)
abbrev adS(a:Option Addr)(l m sz:Nat):Option Addr:=if m=l then a else a.map (·.add (l*sz))
theorem Zdo{t e:TypeId}{sz:Nat}{w:World}(hu:P.underlying t=some (.slice e))(hs:elSize P t=some sz):P.underlying t=some (.slice (P.elem t))/\(sizeOf (P.elem t)).run P w= .ok sz w:=by
 have hel:P.elem t=e:=by unfold Program.elem;rw[hu]
 refine⟨by rw[hel];exact hu,?_⟩;unfold elSize at hs;rw[hu]at hs;rw[hel];simp only at hs;cases hi':P.info? e with
 |none=>rw[hi']at hs;cases hs
 |some i=>rw[hi',Option.map_some,Option.some.injEq]at hs;simp[Go.sizeOf,typeInfo,hi',hs]
theorem Z4a{t e:TypeId}{x lo:Operand}{a:Option Addr}{len cap sz:Nat}{k:IntKind}{n:Int}(hu:P.underlying t=some (.slice e))(hs:elSize P t=some sz)(hx:H x (.is (.slice a len cap)))(hl:H lo (.is (.int k n)))(h0:0<=n)(h1:n<=len):
   Ob P L Φ H ⟨dst,.slice t x (some lo) none none,ty,pos,after,g⟩ (.is (.slice (adS a n.toNat cap sz) (len-n.toNat) (cap-n.toNat))):=
 Z1i fun E w ρ hp=>by
   have e1:ρ x= .slice a len cap:=hp.x x _ (by simp[Op.operands]) hx;have e2:ρ lo= .int k n:=hp.x lo _ (by simp[Op.operands]) hl;obtain⟨hu',hsz⟩:=Zdo (w:=w) hu hs;simp only[execOp,e1,e2,Option.map_some,Option.map_none];have h:=run_slice_l (P:=P) w t a len cap hu' k n h0 h1;have hsl:(Instr.sliceAt t (.slice a len cap) (some (.int k n)) none none).run P w= .ok (.slice (adS a n.toNat cap sz) (len-n.toNat) (cap-n.toNat)) w:=by
     rw[run_sliceAt_slice (P:=P) w t _ _ _ _ hu',h,hsz,Result.andThen_ok]
     rfl
   simp[hsl]
section
variable{xt yt:TypeId}{x y:Operand}{k k':IntKind}{a b v:Int}
end
structure CallMT (P:Program) (f:FuncId) (ety:TypeId) (T0:Ty) (Φ0:List (World->Prop)) (As:List Ty) (T1 R:Ty):Prop where
 enter: ∀args w,(callFunc f args).run P w= .ok (.enter f args) w
 calls: ∀(E:Nat->Prop) (w:World) (b:Nat) (vs:List Value),(∀b,E b->b<w.heap.size)->(⟨b,ety,T0⟩:Own).at E w->(∀F∈Φ0,Pers E w F)->TyAll E w As vs->
   Calls P f (.pointer (some ⟨b,0,none⟩)::vs).toArray w fun e w'=>∃v,e= .returned v/\Keeps (fun q=>q=b) w w'/\(⟨b,ety,T1⟩:Own).at E w'/\R.p E v w'
section
variable{R T1:Ty}
end
section
variable{α:Type}{en:α->List Value}{sz:Nat}
end
def FreshW(N:Nat)(e:TypeId)(a:Option Addr)(len cap sz:Nat)(w:World):Prop:=len≠0->∃b cs,a=some ⟨b,0,none⟩/\N<=b/\w.heap[b]? =some (.cells cs e (0,0))/\cs.size=cap*sz
def capO(st:Option (Nat×List Value))(cap:Nat):Nat:=match st with|none=>0|some _=>cap
section
variable{α:Type}{en:α->List Value}{sz:Nat}
theorem Grows.sl{xs:List α}{st:Option (Nat×List Value)}{cap:Nat}(h:Grows en sz xs st cap):sliceO st xs.length cap= .slice (adO st) xs.length (capO st cap)/\xs.length<=capO st cap:=by
 cases st with
 |none=>
   have:xs=[]:=h;subst this;exact⟨rfl,Nat.le_refl _⟩
 |some p=>exact⟨rfl,h.2.1⟩
end
structure EndL {Z:Type} (L0:List Own) (Zp:Z->Prop) (L1:Z->List Own) (R:Z->Ty) (E:Nat->Prop) (w:World) (z:Z) (E':Nat->Prop) (v:Value) (w':World):Prop where
 zp:Zp z
 k:Keeps (fun q=>q∈L0.map (·.b)) w w'
 same: ∀b,b<w.heap.size->(E' b↔E b)
 wf: ∀b,E' b->b<w'.heap.size
 l: ∀o∈L1 z,o.at E' w'
 nd:((L1 z).map (·.b)).Nodup
 inn: ∀o∈L1 z,o.b∈L0.map (·.b)\/w.heap.size<=o.b
 r:(R z).p E' v w'
structure CallL (P:Program) (f:FuncId) {Z:Type} (L0:List Own) (Φ0:List (World->Prop)) (As:List Ty) (Zp:Z->Prop) (L1:Z->List Own) (R:Z->Ty):Prop where
 enter: ∀args w,(callFunc f args).run P w= .ok (.enter f args) w
 calls: ∀(E:Nat->Prop) (w:World) (vs:List Value),(∀b,E b->b<w.heap.size)->(∀o∈L0,o.at E w)->(L0.map (·.b)).Nodup->(∀F∈Φ0,Pers E w F)->TyAll E w As vs->
   Calls P f vs.toArray w fun e w'=>∃v z E',e= .returned v/\EndL L0 Zp L1 R E w z E' v w'
theorem Zb8(hc:CallL P f L0 Φ0 As Zp L1 R)(hΦ: ∀F∈Φ0,F∈Φ){E:Nat->Prop}{w:World}{vs:List Value}(hw: ∀b,E b->b<w.heap.size)(hf: ∀F∈Φ,Pers E w F)(ht:TyAll E w As vs)(hM: ∀m∈L0,m.at E w)(hnd:(L0.map (·.b)).Nodup):
  Runs P ((callFunc f vs.toArray).run P w) fun v w'=>∃z E',EndL L0 Zp L1 R E w z E' v w':=by
 rw[hc.enter];refine Calls.mono (hc.calls E w vs hw hM hnd (fun F hF=>hf F (hΦ F hF)) ht) ?_;rintro e w' ⟨v,z,E',rfl,h⟩;exact⟨z,E',h⟩
theorem JO.stepL{ops:Array Oper}{o:Oper}{rest:List Oper}(hg:o.guard=none)(hd: ∀d,o.dst=some d->d<c.n)(hL:L.Perm (L0++Lr))
   (h: ∀E w ρ,Pre L Φ (Kn K) o E w ρ->(L0.map (·.b)).Nodup->Runs P ((execOp ρ o).run P w) fun v w'=>∃z E',EndL L0 Zp L1 R E w z E' v w')
   (hn: ∀z,Zp z->JO P c (putK o.dst (R z) K) (L1 z++Lr) Φ ops rest Q):JO P c K L Φ ops (o::rest) Q:=by
 refine⟨?_⟩;intro E a w hs;refine wpList_plain hg fun K' hK=>?_;unfold Oper.wp;have hnd:((L0++Lr).map (·.b)).Nodup:=((hL.map _).nodup_iff).1 hs.ld;rw[List.map_append,List.nodup_append]at hnd;refine Runs.upon (h E w a.eval ⟨hs.wf,hs.l,hs.f,fun x T' _ hx=>Z12 hs hx⟩ hnd.1) fun v w' ⟨z,E',he⟩=>hK _ _ ((hn z he.zp).out E' _ _ ?_);have hin: ∀o∈L0,o∈L:=fun o ho=>hL.mem_iff.2 (List.mem_append_left _ ho);have hir: ∀o∈Lr,o∈L:=fun o ho=>hL.mem_iff.2 (List.mem_append_right _ ho);have hsub: ∀b,b∈L0.map (·.b)->E b:=fun b hb=>by obtain⟨m,hm,rfl⟩:=List.mem_map.1 hb;exact(hs.l m (hin m hm)).1
 have hmay: ∀b,b∈L0.map (·.b)->c.X0 b\/c.W0.heap.size<=b:=fun b hb=>by obtain⟨m,hm,rfl⟩:=List.mem_map.1 hb;exact hs.may m (hin m hm)
 have hev:Ev E w E' w':=⟨he.k.mono (fun b _=>hsub b),he.same⟩;refine hs.put hev he.wf he.r hd ?_ ?_ (hs.keeps.step he.k hmay) ?_
 · intro o ho
   rcases List.mem_append.1 ho with ho|ho
   · exact he.l o ho
   · have h1:=hs.l o (hir o ho)
     exact Own.keep h1 hev (he.k.blk _ (hs.wf _ h1.1) fun hm=>hnd.2.2 _ hm _ (List.mem_map_of_mem ho) rfl)
 · rw[List.map_append,List.nodup_append]
   refine⟨he.nd,hnd.2.1,fun b hb b' hb' e=>?_⟩;subst e;obtain⟨m,hm,rfl⟩:=List.mem_map.1 hb;obtain⟨m',hm',e'⟩:=List.mem_map.1 hb';rcases he.inn m hm with h1|h1
   · exact hnd.2.2 _ h1 _ hb' rfl
   · have:=hs.wf m'.b (hs.l m' (hir m' hm')).1
     have e2:m'.b=m.b:=e'
     omega
 · intro o ho
   rcases List.mem_append.1 ho with ho|ho
   · rcases he.inn o ho with h1|h1
     · exact hmay _ h1
     · exact .inr (Nat.le_trans hs.keeps.size h1)
   · exact hs.may o (hir o ho)
theorem JO.callL{ops:Array Oper}{rest:List Oper}{dst:Option Nat}{ty:TypeId}{pos:String}{after:Array Edge}{xs:List Operand}{ats:Array TypeId}(hc:CallL P f L0 Φ0 As Zp L1 R)(hd: ∀d,dst=some d->d<c.n)(hL:L.Perm (L0++Lr))(hΦ: ∀F∈Φ0,F∈Φ)(ha:Args L Φ (Kn K) xs As)
  (hn: ∀z,Zp z->JO P c (putK dst (R z) K) (L1 z++Lr) Φ ops rest Q):JO P c K L Φ ops (⟨dst,.call {callee:=.value (.func f),args:=xs.toArray,argTypes:=ats},ty,pos,after,none⟩::rest) Q:=by
 refine JO.stepL rfl hd hL (fun E w ρ hp hnd=>?_) hn;have h1:ρ (.func f)= .func (.func f) #[] #[]:=hp.x (.func f) (.is (.func (.func f) #[] #[])) (by simp[Op.operands,Call.operands]) rfl;have hall:=ha.all (ρ:=ρ) (Z1P hp) fun x T hx=>hp.x x T (by simp[Op.operands,Call.operands,hx]);have h3:=Zb8 hc hΦ hp.wf hp.f hall (fun m hm=>hp.l m (hL.mem_iff.2 (List.mem_append_left _ hm))) hnd;simp only[execOp,resolve,h1,Deferred.ofValue,invoke,Sem.run_bind,Sem.run_pure,Result.andThen_ok,List.map_toArray]
 simpa using h3
def PostL(X:Nat->Prop)(W:World)(L0:List Own)(Zp:Z->Prop)(L1:Z->List Own)(R:Z->Ty):Ending->World->Prop:=fun e w'=>∃v z E',e= .returned v/\EndL L0 Zp L1 R X W z E' v w'
theorem JX.retLOf(z:Z)(hz:Zp z)(hL:L.Perm (L1 z++Lr))(hol:(L1 z).all (fun o=>o.T.out)=true)(hor:(R z).out=true)(hL0: ∀b,b∈L0.map (·.b)->X b)
   (hr: ∀a w E,SA ⟨n,X,fun q=>q∈L0.map (·.b),W,[]⟩ K L Φ E a w->∃v,(results fn a.tmps).run P w= .ok v w/\(R z).p E v w):JX ⟨n,X,fun q=>q∈L0.map (·.b),W,[]⟩ K L Φ .ret (bodyPost P fn (PostL X W L0 Zp L1 R)):=by
 refine⟨?_⟩;intro E a w hs;obtain⟨v,h1,h2⟩:=hr a w E hs;have hin: ∀o∈L1 z,o∈L:=fun o ho=>hL.mem_iff.2 (List.mem_append_left _ ho);have hnd:((L1 z++Lr).map (·.b)).Nodup:=((hL.map _).nodup_iff).1 hs.ld;rw[List.map_append,List.nodup_append]at hnd;have hsub: ∀b,b<w.heap.size->(X b\/b∈(L1 z).map (·.b))->E b:=fun b _ hb=>by
   rcases hb with hb|hb
   · exact hs.x b hb
   · obtain⟨m,hm,rfl⟩:=List.mem_map.1 hb
     exact(hs.l m (hin m hm)).1
 refine⟨hs.d,v,h1,v,z,fun b=>X b\/b∈(L1 z).map (·.b),rfl,hz,hs.keeps,fun b hb=>⟨fun h=>?_,.inl⟩,fun b hb=>?_,fun o ho=>?_,hnd.1,fun o ho=>hs.may o (hin o ho),Ty.weak hsub hor h2⟩
 · rcases h with h|h
   · exact h
   · obtain⟨m,hm,rfl⟩:=List.mem_map.1 h
     rcases hs.may m (hin m hm)with h3|h3
     · exact hL0 _ h3
     · exact absurd hb (Nat.not_lt.2 h3)
 · rcases hb with hb|hb
   · exact hs.wf b (hs.x b hb)
   · obtain⟨m,hm,rfl⟩:=List.mem_map.1 hb
     exact hs.wf _ (hs.l m (hin m hm)).1
 · obtain⟨h3,V,h4,h5⟩:=hs.l o (hin o ho)
   exact⟨.inr (List.mem_map_of_mem ho),V,h4,Ty.weak hsub (List.all_eq_true.1 hol o ho) h5⟩
theorem JX.retL0(hres:fn.results= #[])(z:Z)(hz:Zp z)(hL:L.Perm (L1 z++Lr))(hol:(L1 z).all (fun o=>o.T.out)=true)(hL0: ∀b,b∈L0.map (·.b)->X b)(hR:R z= .is (.tuple #[])):JX ⟨n,X,fun q=>q∈L0.map (·.b),W,[]⟩ K L Φ .ret (bodyPost P fn (PostL X W L0 Zp L1 R)):=
 JX.retLOf z hz hL hol (by rw[hR];rfl) hL0 fun a w E hs=>⟨_,results_none hres _ _ _,by rw[hR];rfl⟩
theorem JX.retL1{t:Nat}{T:Ty}(hres:fn.results= #[.tmp t])(z:Z)(hz:Zp z)(hL:L.Perm (L1 z++Lr))(hol:(L1 z).all (fun o=>o.T.out)=true)(hor:(R z).out=true)(hL0: ∀b,b∈L0.map (·.b)->X b)(h:look K t=some T)(hR:Sub L Φ T (R z)):JX ⟨n,X,fun q=>q∈L0.map (·.b),W,[]⟩ K L Φ .ret (bodyPost P fn (PostL X W L0 Zp L1 R)):=
 JX.retLOf z hz hL hol hor hL0 fun a w E hs=>⟨_,results_tmp hres _ _ _,hR E _ w ⟨hs.l,hs.f⟩ (hs.k t _ h)⟩
theorem CallL.of{x:Code}(hf:P.funcs[f]? =some fn)(hb:fn.body=some x)(hn:fn.ntmps=n)(hl:Nat.ble As.length n=true)(he: ∀args w,(callFunc f args).run P w= .ok (.enter f args) w)
   (h: ∀(E:Nat->Prop) (W:World),(∀b,b∈L0.map (·.b)->E b)->J P ⟨n,E,fun q=>q∈L0.map (·.b),W,[]⟩ (params 0 As) L0 Φ0 x (bodyPost P fn (PostL E W L0 Zp L1 R))):CallL P f L0 Φ0 As Zp L1 R:=
 ⟨he,fun E w vs hw hM hnd hΦ ht=>by
   refine calls_of_wp hf hb ?_;rw[hn];refine(h E w (fun b hb=>by obtain⟨m,hm,rfl⟩:=List.mem_map.1 hb;exact(hM m hm).1)).out E _ w ?_;have hs:=Z2m (n:=n) hw ht (Nat.le_of_ble_eq_true hl);exact⟨hs.n,hs.d,hw,hs.k,hM,hnd,hΦ,fun _ h=>h,hw,.refl _ _,fun o ho=>.inl (List.mem_map_of_mem ho)⟩⟩
end Go.Vc
