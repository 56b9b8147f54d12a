/- The program logic, part 1. No condition. -/
import Derived.Orders
import Derived.WalkKit
import Derived.Deep.LoopGhost
import Derived.Great.BuildSlice
namespace Go.Vc
open Go
structure Keeps (X:Nat->Prop) (w w':World):Prop where
 os:w'.os=w.os
 tape:w'.tape=w.tape
 output:w'.output=w.output
 size:w.heap.size<=w'.heap.size
 blk: ∀b,b<w.heap.size->¬X b->w'.heap[b]? =w.heap[b]?
 shp: ∀(b:Nat) (cs:Array Value) (t:TypeId) (fr:Nat×Nat),w.heap[b]? =some (Obj.cells cs t fr)->∃cs':Array Value,w'.heap[b]? =some (Obj.cells cs' t fr)/\cs'.size=cs.size
abbrev noX:Nat->Prop:=fun _=>False
theorem Z1d{w:World}{b:Nat}{o:Obj}(h:w.heap[b]? =some o):b<w.heap.size:=by
 rcases Nat.lt_or_ge b w.heap.size with hlt|hge
 · exact hlt
 · rw[Array.getElem?_eq_none hge]at h;cases h
theorem Keeps.refl(X:Nat->Prop)(w:World):Keeps X w w:=⟨rfl,rfl,rfl,Nat.le_refl _,fun _ _ _=>rfl,fun _ cs _ _ h=>⟨cs,h,rfl⟩⟩
theorem Keeps.trans{X:Nat->Prop}{w1 w2 w3:World}(h:Keeps X w1 w2)(k:Keeps X w2 w3):Keeps X w1 w3:=
 ⟨k.os.trans h.os,k.tape.trans h.tape,k.output.trans h.output,Nat.le_trans h.size k.size,
  fun b hb hx=>(k.blk b (Nat.lt_of_lt_of_le hb h.size) hx).trans (h.blk b hb hx),
  fun b cs t fr hb=>by
   obtain⟨cs1,h1,e1⟩:=h.shp b cs t fr hb;obtain⟨cs2,h2,e2⟩:=k.shp b cs1 t fr h1;exact⟨cs2,h2,e2.trans e1⟩⟩
theorem Keeps.mono{X Y:Nat->Prop}{w w':World}(h:Keeps X w w')(hxy: ∀b,b<w.heap.size->X b->Y b):Keeps Y w w':=
 ⟨h.os,h.tape,h.output,h.size,fun b hb hy=>h.blk b hb (fun hx=>hy (hxy b hb hx)),h.shp⟩
theorem Keeps.of_noX{X:Nat->Prop}{w w':World}(h:Keeps noX w w'):Keeps X w w':=h.mono fun _ _=>False.elim
theorem Keeps.get{X:Nat->Prop}{w w':World}(h:Keeps X w w'){b:Nat}{o:Obj}(hb:w.heap[b]? =some o)(hx: ¬X b):w'.heap[b]? =some o:=
 (h.blk b (Z1d hb) hx).trans hb
theorem Z9X(w:World)(o:Obj){b:Nat}(h:b<w.heap.size):(w.alloc o).heap[b]? =w.heap[b]? :=by
 simp only[World.alloc,Array.getElem?_push];rw[if_neg (by omega)]
theorem Z2i(w:World)(o:Obj):(w.alloc o).heap[w.heap.size]? =some o:=by show(w.heap.push o)[w.heap.size]? =some o;simp
theorem Z2t(w:World)(o:Obj):(w.alloc o).heap.size=w.heap.size+1:=by show(w.heap.push o).size=_;simp
theorem Keeps.alloc(w:World)(o:Obj):Keeps noX w (w.alloc o):=
 ⟨rfl,rfl,rfl,by rw[Z2t];omega,fun b hb _=>Z9X w o hb,fun b cs t fr h=>⟨cs,(Z9X w o (Z1d h)).trans h,rfl⟩⟩
theorem Keeps.drew(w:World):Keeps noX w w.drew:=⟨rfl,rfl,rfl,Nat.le_refl _,fun _ _ _=>rfl,fun _ cs _ _ h=>⟨cs,h,rfl⟩⟩
def Pers(X:Nat->Prop)(w:World)(F:World->Prop):Prop:=∀w',Keeps X w w'->F w'
theorem Pers.now{X:Nat->Prop}{w:World}{F:World->Prop}(h:Pers X w F):F w:=h w (.refl _ _)
theorem Pers.keep{X:Nat->Prop}{w w':World}{F:World->Prop}(h:Pers X w F)(k:Keeps X w w'):Pers X w' F:=fun _ k'=>h _ (k.trans k')
theorem Pers.weak{X Y:Nat->Prop}{w:World}{F:World->Prop}(h:Pers X w F)(hyx: ∀b,b<w.heap.size->Y b->X b):Pers Y w F:=
 fun _ k=>h _ (k.mono hyx)
structure Ev (E:Nat->Prop) (w:World) (E':Nat->Prop) (w':World):Prop where
 keeps:Keeps E w w'
 same: ∀b,b<w.heap.size->(E' b↔E b)
theorem Ev.refl(E:Nat->Prop)(w:World):Ev E w E w:=⟨.refl _ _,fun _ _=>Iff.rfl⟩
theorem Ev.trans{E1 E2 E3:Nat->Prop}{w1 w2 w3:World}(h:Ev E1 w1 E2 w2)(k:Ev E2 w2 E3 w3):Ev E1 w1 E3 w3:=
 ⟨⟨k.keeps.os.trans h.keeps.os,k.keeps.tape.trans h.keeps.tape,k.keeps.output.trans h.keeps.output,Nat.le_trans h.keeps.size k.keeps.size,
   fun b hb hx=>(k.keeps.blk b (Nat.lt_of_lt_of_le hb h.keeps.size) (fun hx'=>hx ((h.same b hb).1 hx'))).trans (h.keeps.blk b hb hx),
   fun b cs t fr hb=>by
     obtain⟨cs1,h1,e1⟩:=h.keeps.shp b cs t fr hb;obtain⟨cs2,h2,e2⟩:=k.keeps.shp b cs1 t fr h1;exact⟨cs2,h2,e2.trans e1⟩⟩,
  fun b hb=>(k.same b (Nat.lt_of_lt_of_le hb h.keeps.size)).trans (h.same b hb)⟩
theorem Ev.of_keeps{E:Nat->Prop}{w w':World}(h:Keeps E w w'):Ev E w E w':=⟨h,fun _ _=>Iff.rfl⟩
theorem Pers.ev{E E':Nat->Prop}{w w':World}{F:World->Prop}(h:Pers E w F)(k:Ev E w E' w'):Pers E' w' F:=
 fun _ k'=>h _ ((k.trans (Ev.of_keeps k')).keeps)
inductive Ty where
 |is (v:Value)
 |rep (R:Value->World->Prop)
 |tup2 (A B:Ty)
 |tup3 (A B C:Ty)
 |newPtr (o:Obj) (off:Nat)
 |newSl (o:Obj) (len cap:Nat)
 |own (ety:TypeId) (n:Nat)
 |opt (π:Prop) (T:Ty)
 |any
 |ob (o:Obj)
def Ty.p:Ty->(Nat->Prop)->Value->World->Prop
 | .is V,_,v,_=>v=V
 | .rep R,E,v,w=>Pers E w (R v)
 | .tup2 A B,E,v,w=>∃x y,v= .tuple #[x,y]/\A.p E x w/\B.p E y w
 | .tup3 A B C,E,v,w=>∃x y z,v= .tuple #[x,y,z]/\A.p E x w/\B.p E y w/\C.p E z w
 | .newPtr o off,E,v,w=>∃b,v= .pointer (some ⟨b,off,none⟩)/\ ¬E b/\w.heap[b]? =some o
 | .newSl o len cap,E,v,w=>∃b,v= .slice (some ⟨b,0,none⟩) len cap/\ ¬E b/\w.heap[b]? =some o
 | .own ety n,E,v,w=>∃b,v= .pointer (some ⟨b,0,none⟩)/\E b/\ ∃cs,w.heap[b]? =some (.cells cs ety (0,0))/\cs.size=n
 | .opt π T,E,v,w=>(π->T.p E v w)/\(¬π->v=undef)
 | .any,_,_,_=>True
 | .ob _,_,_,_=>True
theorem Ty.mono{T:Ty}{E E':Nat->Prop}{w w':World}(k:Ev E w E' w'): ∀{v:Value},T.p E v w->T.p E' v w':=by
 induction T with
 |is V=>exact id
 |rep R=>exact fun h=>Pers.ev h k
 |tup2 A B ha hb=>rintro _ ⟨x,y,rfl,h1,h2⟩;exact⟨x,y,rfl,ha h1,hb h2⟩
 |tup3 A B C ha hb hc=>rintro _ ⟨x,y,z,rfl,h1,h2,h3⟩;exact⟨x,y,z,rfl,ha h1,hb h2,hc h3⟩
 |newPtr o off=>rintro _ ⟨b,rfl,hn,hb⟩;exact⟨b,rfl,fun h=>hn ((k.same b (Z1d hb)).1 h),k.keeps.get hb hn⟩
 |newSl o len cap=>rintro _ ⟨b,rfl,hn,hb⟩;exact⟨b,rfl,fun h=>hn ((k.same b (Z1d hb)).1 h),k.keeps.get hb hn⟩
 |own ety n=>
   rintro _ ⟨b,rfl,he,cs,hb,hn⟩;obtain⟨cs',hb',hs⟩:=k.keeps.shp b cs ety (0,0) hb;exact⟨b,rfl,(k.same b (Z1d hb)).2 he,cs',hb',hs.trans hn⟩
 |opt π T ih=>exact fun h=>⟨fun hp=>ih (h.1 hp),h.2⟩
 |any=>exact id
 |ob o=>exact id
def Ty.out:Ty->Bool
 | .own _ _=>false
 | .tup2 A B=>A.out&&B.out
 | .tup3 A B C=>A.out&&B.out&&C.out
 | .opt _ T=>T.out
 |_=>true
theorem Ty.weak{T:Ty}{E X:Nat->Prop}{w:World}(hx: ∀b,b<w.heap.size->X b->E b): ∀{v:Value},T.out=true->T.p E v w->T.p X v w:=by
 induction T with
 |is V=>exact fun _=>id
 |rep R=>exact fun _ h=>Pers.weak h hx
 |tup2 A B ha hb=>
   rintro _ ho ⟨x,y,rfl,h1,h2⟩;simp only[Ty.out,Bool.and_eq_true]at ho;exact⟨x,y,rfl,ha ho.1 h1,hb ho.2 h2⟩
 |tup3 A B C ha hb hc=>
   rintro _ ho ⟨x,y,z,rfl,h1,h2,h3⟩;simp only[Ty.out,Bool.and_eq_true]at ho;exact⟨x,y,z,rfl,ha ho.1.1 h1,hb ho.1.2 h2,hc ho.2 h3⟩
 |newPtr o off=>rintro _ _ ⟨b,rfl,hn,hb⟩;exact⟨b,rfl,fun h=>hn (hx b (Z1d hb) h),hb⟩
 |newSl o len cap=>rintro _ _ ⟨b,rfl,hn,hb⟩;exact⟨b,rfl,fun h=>hn (hx b (Z1d hb) h),hb⟩
 |own ety n=>intro _ h;cases h
 |opt π T ih=>exact fun ho h=>⟨fun hp=>ih ho (h.1 hp),h.2⟩
 |any=>exact fun _=>id
 |ob o=>exact fun _=>id
structure Own where
 b:Nat
 ety:TypeId
 T:Ty
abbrev Ty.obj(T:Ty)(e:TypeId)(v:Value):Obj:=match T with| .ob o=>o|_=>.cells v.cells e (0,0)
def Ty.isOb:Ty->Bool
 | .ob _=>true
 |_=>false
theorem Ty.obj_cells{T:Ty}(h:T.isOb=false)(e:TypeId)(v:Value):T.obj e v= .cells v.cells e (0,0):=by cases T<;>first|rfl|cases h
theorem Ty.noOb{T:Ty}{n:Nat}(hT: ∀(E:Nat->Prop) (v:Value) (w:World),T.p E v w->∃cs:Array Value,v= .agg cs/\cs.size=n):T.isOb=false:=by
 cases T<;>first|rfl|skip
 obtain⟨cs,h,_⟩:=hT (fun _=>False) (.bool true) default trivial;cases h
def Own.at(o:Own)(E:Nat->Prop)(w:World):Prop:=E o.b/\ ∃v:Value,w.heap[o.b]? =some (o.T.obj o.ety v)/\o.T.p E v w
def look:List (Nat×Ty)->Nat->Option Ty
 |[],_=>none
 |(s,T)::l,t=>bif Nat.beq s t then some T else look l t
structure Ctx where
 n:Nat
 X:Nat->Prop
 X0:Nat->Prop
 W0:World
 D:List Deferred
structure SA (c:Ctx) (K:List (Nat×Ty)) (L:List Own) (Φ:List (World->Prop)) (E:Nat->Prop) (a:Act) (w:World):Prop where
 n:a.tmps.size=c.n
 d:a.defers=c.D
 wf: ∀b,E b->b<w.heap.size
 k: ∀s T,look K s=some T->T.p E (a.tmps.getD s undef) w
 l: ∀o∈L,o.at E w
 ld:(L.map (·.b)).Nodup
 f: ∀F∈Φ,Pers E w F
 x: ∀b,c.X b->E b
 xs: ∀b,c.X b->b<c.W0.heap.size
 keeps:Keeps c.X0 c.W0 w
 may: ∀o∈L,c.X0 o.b\/c.W0.heap.size<=o.b
structure J (P:Program) (c:Ctx) (K:List (Nat×Ty)) (L:List Own) (Φ:List (World->Prop)) (x:Code) (Q:Exit->Act->World->Prop):Prop where
 out: ∀E a w,SA c K L Φ E a w->x.wp P Q a w
end Go.Vc

namespace Go.Vc
open Go
section
variable{P:Program}{ops:Array Oper}{Q:Exit->Act->World->Prop}
def backOK(ops:Array Oper):Bool:=(List.range ops.size).all fun i=>match ops[i]? with|some o=>o.after.all fun e=> !Region.binds .any e||decide (e.on<i)|none=>true
def readyAt(ops:Array Oper)(D:Array Bool)(i:Nat):Prop:=∀o,ops[i]? =some o->∀e∈o.after,Region.binds .any e=true->D.getD e.on false=true
theorem Zap{D:Array Bool}{i:Nat}:i∈Region.ready .any ops D↔i<ops.size/\D.getD i true=false/\readyAt ops D i:=by
 unfold Region.ready readyAt;rw[List.mem_filter,List.mem_range]
 constructor
 · rintro⟨hi,h⟩
   simp only[Bool.and_eq_true,Bool.not_eq_true']at h;refine⟨hi,h.1,fun o ho e he hb=>?_⟩;have h2:=h.2;rw[ho]at h2;simp only[Option.map_some,Option.getD_some,Array.all_eq_true_iff_forall_mem,Bool.or_eq_true,Bool.not_eq_true']at h2;rcases h2 e he with h3|h3
   · rw[hb]at h3;cases h3
   · exact h3
 · rintro⟨hi,h1,h2⟩
   refine⟨hi,?_⟩;have ho:ops[i]? =some ops[i]:=Array.getElem?_eq_getElem hi;simp only[Bool.and_eq_true,Bool.not_eq_true',h1,ho,Option.map_some,Option.getD_some,Array.all_eq_true_iff_forall_mem,Bool.or_eq_true,true_and];intro e he;cases hb:Region.binds .any e with
   |false=>exact .inl rfl
   |true=>exact .inr (h2 _ ho e he hb)
theorem Zia(hb:backOK ops=true){D:Array Bool}(hs:D.size=ops.size)(h:Region.ready .any ops D=[]): ∀i,i<ops.size->D.getD i false=true:=by
 intro i
 induction i using Nat.strongRecOn with
 |_ i ih=>
   intro hi;cases hd:D.getD i false with
   |true=>rfl
   |false=>
     exfalso
     have ht:D.getD i true=false:=by
       have hi':i<D.size:=by omega
       simp only[Array.getD_eq_getD_getElem?,Array.getElem?_eq_getElem hi',Option.getD_some]at hd ⊢;exact hd
     have hm:i∈Region.ready .any ops D:=by
       refine Zap.2 ⟨hi,ht,fun o ho e he hbe=>?_⟩;have hk:=List.all_eq_true.1 hb i (List.mem_range.2 hi);rw[ho]at hk;have:=(Array.all_eq_true_iff_forall_mem.1 hk) e he;rw[hbe]at this
       simp at this
       exact ih e.on this (by omega)
     rw[h]at hm;cases hm
def cnt(D:Array Bool):Nat:=D.toList.count true
theorem Zkj{D:Array Bool}{i:Nat}(hi:i<D.size)(h:D.getD i true=false):cnt (D.setIfInBounds i true)=cnt D+1:=by
 unfold cnt;rw[Array.toList_setIfInBounds];have hi':i<D.toList.length:=by simpa using hi
 have hv:D.toList[i]=false:=by
   simp only[Array.getD_eq_getD_getElem?,Array.getElem?_eq_getElem hi,Option.getD_some]at h
   simpa using h
 rw[List.count_set (h:=hi')]
 simp[hv]
theorem ZgK{D:Array Bool}(h:D.size<=cnt D): ∀i,i<D.size->D.getD i false=true:=by
 intro i hi;unfold cnt at h;have h1:D.toList.count true=D.toList.length:=Nat.le_antisymm List.count_le_length (by simpa using h);have h2:=List.count_eq_length.1 h1;have hm:D[i]∈D.toList:=by simp
 simp only[Array.getD_eq_getD_getElem?,Array.getElem?_eq_getElem hi,Option.getD_some];exact(h2 _ hm).symm
theorem ZeT(hb:backOK ops=true)(I:Array Bool->Act->World->Prop)
   (hstep: ∀D a w i o,D.size=ops.size->I D a w->ops[i]? =some o->D.getD i true=false->readyAt ops D i->wpOp P ops Q i (I (D.setIfInBounds i true)) a w)
   (hend: ∀D a w,D.size=ops.size->(∀i,i<ops.size->D.getD i false=true)->I D a w->Q .normal a w):
   ∀(fuel:Nat) (D:Array Bool) (a:Act) (w:World),D.size=ops.size->ops.size<=cnt D+fuel->I D a w->wpAny P .any ops Q fuel D a w:=by
 intro fuel
 induction fuel with
 |zero=>
   intro D a w hs hc hI;have hall:=ZgK (D:=D) (by omega);refine⟨?_,hend D a w hs (fun i hi=>hall i (by omega)) hI⟩;refine List.eq_nil_iff_forall_not_mem.2 fun i hi=>?_;obtain⟨h1,h2,_⟩:=Zap.1 hi;have h3:=hall i (by omega);have hi':i<D.size:=by omega
   simp only[Array.getD_eq_getD_getElem?,Array.getElem?_eq_getElem hi',Option.getD_some]at h2 h3;rw[h2]at h3;cases h3
 |succ fuel ih=>
   intro D a w hs hc hI;refine⟨fun hn=>hend D a w hs (Zia hb hs hn) hI,fun i hi=>?_⟩;obtain⟨h1,h2,h3⟩:=Zap.1 hi;have ho:ops[i]? =some ops[i]:=Array.getElem?_eq_getElem h1;refine wpOp_mono (fun a' w' hI'=>?_) (hstep D a w i _ hs hI ho h2 h3);exact ih _ a' w' (by simpa using hs) (by rw[Zkj (by omega) h2];omega) hI'
theorem Zfq(hb:backOK ops=true)(I:Array Bool->Act->World->Prop)
   (hstep: ∀D a w i o,D.size=ops.size->I D a w->ops[i]? =some o->D.getD i true=false->readyAt ops D i->wpOp P ops Q i (I (D.setIfInBounds i true)) a w)
   (hend: ∀D a w,D.size=ops.size->(∀i,i<ops.size->D.getD i false=true)->I D a w->Q .normal a w):
   ∀(m k:Nat) (D:Array Bool) (a:Act) (w:World),k+m=ops.size->D.size=ops.size->(∀i,i<ops.size->(D.getD i false=true↔i<k))->I D a w->wpOps P ops Q (List.range' k m) a w:=by
 intro m
 induction m with
 |zero=>
   intro k D a w hk hs hd hI;exact hend D a w hs (fun i hi=>(hd i hi).2 (by omega)) hI
 |succ m ih=>
   intro k D a w hk hs hd hI;rw[List.range'_succ,wpOps_cons];have hlt:k<ops.size:=by omega
   have hlt':k<D.size:=by omega
   have hf:D.getD k false=false:=by
     cases h:D.getD k false with
     |false=>rfl
     |true=>exact absurd ((hd k hlt).1 h) (by omega)
   have hf':D.getD k true=false:=by
     simp only[Array.getD_eq_getD_getElem?,Array.getElem?_eq_getElem hlt',Option.getD_some]at hf ⊢;exact hf
   have ho:ops[k]? =some ops[k]:=Array.getElem?_eq_getElem hlt;refine wpOp_mono (fun a' w' hI'=>?_) (hstep D a w k _ hs hI ho hf' (fun o ho' e he hbe=>?_))
   · refine ih (k+1) _ a' w' (by omega) (by simpa using hs) (fun i hi=>?_) hI'
     have hi':i<D.size:=by omega
     rw[Array.getD_eq_getD_getElem?,Array.getElem?_setIfInBounds]
     by_cases hik:k=i
     · subst hik;simp[hlt']
     · rw[if_neg hik,<-Array.getD_eq_getD_getElem?,hd i hi];omega
   · have hk':=List.all_eq_true.1 hb k (List.mem_range.2 hlt)
     rw[ho']at hk';have:=(Array.all_eq_true_iff_forall_mem.1 hk') e he;rw[hbe]at this
     simp at this
     exact(hd e.on (by omega)).2 this
theorem Z9P{id:Nat}{dr:Bool}{a:Act}{w:World}(hm:P.follows .mixedOrders=true)(hb:backOK ops=true)(I:Array Bool->Act->World->Prop)
   (h0: ∀w',(w'=w\/w'=w.drew)->I (Array.replicate ops.size false) a w')
   (hstep: ∀D a w i o,D.size=ops.size->I D a w->ops[i]? =some o->D.getD i true=false->readyAt ops D i->wpOp P ops Q i (I (D.setIfInBounds i true)) a w)
   (hend: ∀D a w,D.size=ops.size->(∀i,i<ops.size->D.getD i false=true)->I D a w->Q .normal a w):
   (Code.region id ops dr).wp P Q a w:=by
 cases dr with
 |true=>
   refine wp_region_any hm (ZeT hb I hstep hend _ _ _ _ (by simp) (by omega) (h0 _ (.inr rfl)))
 |false=>
   refine wp_region ?_;rw[List.range_eq_range'];refine Zfq hb I hstep hend ops.size 0 _ _ _ (by omega) (by simp) (fun i hi=>?_) (h0 _ (.inl rfl))
   simp[hi]
end
end Go.Vc

namespace Go.Vc
open Go
def opTy(K:List (Nat×Ty)):Operand->Option Ty
 | .const v=>some (.is v)
 | .tmp s=>look K s
 | .func f=>some (.is (.func (.func f) #[] #[]))
 | .global g=>some (.is (.pointer (some ⟨g,0,none⟩)))
def Runs(P:Program)(r:Result Next)(R:Value->World->Prop):Prop:=
 match r with
 | .ok (.value v) w'=>R v w'
 | .ok .skip w'=>R undef w'
 | .ok (.enter f args) w'=>Calls P f args w' fun e w''=>match e with| .returned v=>R v w''|_=>False
 |_=>False
theorem Runs.upon{P:Program}{o:Oper}{a:Act}{next:Act->World->Prop}{Q:Exit->Act->World->Prop}{r:Result Next}{R:Value->World->Prop}
   (h:Runs P r R)(hn: ∀v w',R v w'->next (a.put o.dst v) w'):o.upon P a next Q r:=by
 unfold Runs at h
 split at h
 · exact hn _ _ h
 · exact hn _ _ h
 · refine Calls.mono h fun e w'' he=>?_
   cases e with
   |returned v=>exact hn _ _ he
   |panicked ch=>exact he.elim
   |outgrown=>exact he.elim
 · exact h.elim
theorem Runs.mono{P:Program}{r:Result Next}{R R':Value->World->Prop}(h:Runs P r R)(hr: ∀v w,R v w->R' v w):Runs P r R':=by
 unfold Runs at*
 split at h
 · exact hr _ _ h
 · exact hr _ _ h
 · refine Calls.mono h fun e w'' he=>?_
   cases e with
   |returned v=>exact hr _ _ he
   |panicked ch=>exact he.elim
   |outgrown=>exact he.elim
 · exact h.elim
abbrev Know:=Operand->Ty->Prop
abbrev Kn(K:List (Nat×Ty)):Know:=fun x T=>opTy K x=some T
abbrev KnG(π:Prop)(K:List (Nat×Ty)):Know:=fun x T=>opTy K x=some T\/ ∃π',opTy K x=some (.opt π' T)/\(π->π')
structure Pre (L:List Own) (Φ:List (World->Prop)) (H:Know) (o:Oper) (E:Nat->Prop) (w:World) (ρ:Operand->Value):Prop where
 wf: ∀b,E b->b<w.heap.size
 l: ∀m∈L,m.at E w
 f: ∀F∈Φ,Pers E w F
 x: ∀x T,x∈o.op.operands->H x T->T.p E (ρ x) w
def Ob(P:Program)(L:List Own)(Φ:List (World->Prop))(H:Know)(o:Oper)(T:Ty):Prop:=
 ∀E w ρ,Pre L Φ H o E w ρ->Runs P ((execOp ρ o).run P w) fun v w'=>Keeps noX w w'/\T.p E v w'
def ObM(P:Program)(L:List Own)(Φ:List (World->Prop))(H:Know)(M:List Own)(o:Oper)(T:Ty)(M':List Own):Prop:=
 ∀E w ρ,Pre L Φ H o E w ρ->(∀m∈M,m.at E w)->(M.map (·.b)).Nodup->
  Runs P ((execOp ρ o).run P w) fun v w'=>Keeps (fun b=>b∈M.map (·.b)) w w'/\T.p E v w'/\ ∀m∈M',m.at E w'
def zcells(P:Program)(t:TypeId):Option Nat:=(P.info? t).bind fun i=>i.zero.map fun z=>z.cells.size
def isLoud(o:Oper):Bool:=
 match o.op with
 | .store .. =>true
 | .call {callee:=.builtin .len,..}| .call {callee:=.builtin .cap,..}| .call {callee:=.builtin .max,..}| .call {callee:=.builtin .min,..}=>false
 | .call _=>true
 | .mapUpdate .. =>true
 |_=>false
inductive Kind where
 |typed|gated|new|sto (s:Nat)|chg
 deriving DecidableEq
def isAlloc(o:Oper):Bool:=match o.op with| .alloc _=>true|_=>false
inductive St1 (P:Program) (ops:Array Oper) (L:List Own) (Φ:List (World->Prop)) (i:Nat) (o:Oper) (K:List (Nat×Ty)):
  List Own->List (Nat×TypeId×Ty)->Ty->List Own->List (Nat×TypeId×Ty)->Kind->Prop
 |typed {M S T} (hg:o.guard=none) (h:Ob P L Φ (Kn K) o T):St1 P ops L Φ i o K M S T M S .typed
 |gated {M S T} (π:Prop) (g:Nat) (b:Bool) (d:Nat) (hg:o.guard=some (g,b)) (hd:(ops[g]?).bind (·.dst)=some d)
   (hk:(∃c,look K d=some (.is (.bool c))/\π=(c=b))\/ ∃π₀ c,look K d=some (.opt π₀ (.is (.bool c)))/\π=(π₀/\c=b)) (hna:isAlloc o=false) (h:π->Ob P L Φ (KnG π K) o T):St1 P ops L Φ i o K M S (.opt π T) M S .gated
 |new {M S} (t:TypeId) (n:Nat) (d:Nat) (hd:o.dst=some d) (hg:o.guard=none) (ho:o.op= .alloc t) (hz:zcells P t=some n):St1 P ops L Φ i o K M S (.own t n) M S .new
 |sto {M S T} (s:Nat) (ety ty:TypeId) (n:Nat) (x:Operand) (hg:o.guard=none) (hdst:o.dst=none) (g:Nat) (hgi:g<i) (hal: ∃og t,ops[g]? =some og/\og.dst=some s/\og.op= .alloc t) (ho:o.op= .store ty (.tmp s) x) (hs:look K s=some (.own ety n)) (hx:opTy K x=some T)
   (hT: ∀E v w,T.p E v w->v.cells.size=n/\ ∀u∈v.cells.toList,u.oneCell'=true) (hty:(P.info? ty).map (·.size)=some n) (hn:s∉S.map (·.1)):St1 P ops L Φ i o K M S .any M ((s,ety,T)::S) (.sto s)
 |chg {M S T M'} (hg:o.guard=none) (hl:isLoud o=true) (hm:M'.map (·.b)=M.map (·.b)) (h:ObM P L Φ (Kn K) M o T M'):St1 P ops L Φ i o K M S T M' S .chg
def putK(dst:Option Nat)(T:Ty)(K:List (Nat×Ty)):List (Nat×Ty):=match dst with|some d=>(d,T)::K|none=>K
def RT(P:Program)(ops:Array Oper)(L:List Own)(Φ:List (World->Prop)):Nat->List Oper->List (Nat×Ty)->List Own->List (Nat×TypeId×Ty)->(List (Nat×Ty)->List Own->List (Nat×TypeId×Ty)->Prop)->Prop
 |_,[],K,M,S,k=>k K M S
 |i,o::rest,K,M,S,k=>∃T M' S' kd,St1 P ops L Φ i o K M S T M' S' kd/\RT P ops L Φ (i+1) rest (putK o.dst T K) M' S' k
def kAt(l:List Oper)(T:Nat->Ty)(K:List (Nat×Ty)):Nat->List (Nat×Ty)
 |0=>K
 |i+1=>putK ((l[i]?).bind (·.dst)) (T i) (kAt l T K i)
theorem Zf6(o:Oper)(l:List Oper)(T:Nat->Ty)(K:List (Nat×Ty)): ∀i,kAt (o::l) T K (i+1)=kAt l (fun j=>T (j+1)) (putK o.dst (T 0) K) i:=by
 intro i
 induction i with
 |zero=>simp[kAt]
 |succ i ih=>rw[kAt,ih];simp[kAt]
theorem RT.out{P:Program}{ops:Array Oper}{L:List Own}{Φ:List (World->Prop)}{k:List (Nat×Ty)->List Own->List (Nat×TypeId×Ty)->Prop}:
   ∀{l:List Oper} {i₀:Nat} {K:List (Nat×Ty)} {M:List Own} {S:List (Nat×TypeId×Ty)},RT P ops L Φ i₀ l K M S k->
   ∃(T:Nat->Ty) (Mf:Nat->List Own) (Sf:Nat->List (Nat×TypeId×Ty)) (kf:Nat->Kind),Mf 0=M/\Sf 0=S/\
     (∀i o,l[i]? =some o->St1 P ops L Φ (i₀+i) o (kAt l T K i) (Mf i) (Sf i) (T i) (Mf (i+1)) (Sf (i+1)) (kf i))/\k (kAt l T K l.length) (Mf l.length) (Sf l.length):=by
 intro l
 induction l with
 |nil=>intro i₀ K M S h;exact⟨fun _=>.any,fun _=>M,fun _=>S,fun _=>.typed,rfl,rfl,fun i o h=>by simp at h,h⟩
 |cons o l ih=>
   rintro i₀ K M S ⟨T0,M',S',kd,hs,hr⟩;obtain⟨T,Mf,Sf,kf,hM,hS,hst,hk⟩:=ih hr;refine⟨fun i=>match i with|0=>T0|i+1=>T i,fun i=>match i with|0=>M|i+1=>Mf i,fun i=>match i with|0=>S|i+1=>Sf i,fun i=>match i with|0=>kd|i+1=>kf i,rfl,rfl,?_,?_⟩
   · intro i o' ho
     cases i with
     |zero=>
       simp at ho
       subst ho;simp only[kAt,hM,hS];exact hs
     |succ i=>
       rw[Zf6];have:=hst i o' (by simpa using ho)
       rwa [show i₀+1+i=i₀+(i+1) by omega]at this
   · rw[List.length_cons,Zf6]
     exact hk
def befHas(B:Array Nat)(j i:Nat):Bool:=(B.getD j 0).testBit i
theorem Zij{acc:Array Nat}: ∀(es:List Edge) (s:Nat) (i:Nat),(es.foldl (fun s e=>if Region.binds .any e then s|||2 ^ e.on|||acc.getD e.on 0 else s) s).testBit i=true->
   s.testBit i=true\/ ∃e∈es,Region.binds .any e=true/\(e.on=i\/(acc.getD e.on 0).testBit i=true):=by
 intro es
 induction es with
 |nil=>intro s i h;exact .inl h
 |cons e es ih=>
   intro s i h;rw[List.foldl_cons]at h;rcases ih _ _ h with h1|⟨e',he',h2⟩
   · by_cases hb:Region.binds .any e=true
     · rw[if_pos hb]at h1
       simp only[Nat.testBit_or,Bool.or_eq_true]at h1;rcases h1 with(h1|h1)|h1
       · exact .inl h1
       · refine .inr ⟨e,List.mem_cons_self,hb,.inl ?_⟩
         rw[Nat.testBit_two_pow]at h1;exact of_decide_eq_true h1
       · exact .inr ⟨e,List.mem_cons_self,hb,.inr h1⟩
     · rw[if_neg hb]at h1
       exact .inl h1
   · exact .inr ⟨e',List.mem_cons_of_mem _ he',h2⟩
def befStep(acc:Array Nat)(o:Oper):Array Nat:=acc.push (o.after.foldl (fun s e=>if Region.binds .any e then s|||2 ^ e.on|||acc.getD e.on 0 else s) 0)
theorem ZaK: ∀(l:List Oper) (acc:Array Nat),(l.foldl befStep acc).size=acc.size+l.length:=by
 intro l
 induction l with
 |nil=>intro acc;simp
 |cons o l ih=>intro acc;rw[List.foldl_cons,ih,befStep,Array.size_push,List.length_cons];omega
theorem Zb6: ∀(l:List Oper) (acc:Array Nat) (j:Nat),j<acc.size->(l.foldl befStep acc).getD j 0=acc.getD j 0:=by
 intro l
 induction l with
 |nil=>intro acc j _;rfl
 |cons o l ih=>
   intro acc j hj;rw[List.foldl_cons,ih _ _ (by rw[befStep,Array.size_push];omega),befStep];simp only[Array.getD_eq_getD_getElem?,Array.getElem?_push];rw[if_neg (by omega)]
theorem ZgV{ops:Array Oper}(hb:backOK ops=true){j i:Nat}(h:befHas (Region.before ops) j i=true):
   ∃o,ops[j]? =some o/\ ∃e∈o.after,Region.binds .any e=true/\(e.on=i\/befHas (Region.before ops) e.on i=true):=by
 have heq:Region.before ops=ops.toList.foldl befStep #[]:=by unfold Region.before befStep;rw[<-Array.foldl_toList]
 unfold befHas at*;rw[heq]at h ⊢;have hj:j<ops.size:=by
   rcases Nat.lt_or_ge j ops.size with hlt|hge
   · exact hlt
   · have hsz:=ZaK ops.toList #[]
     simp only[Array.getD_eq_getD_getElem?]at h;rw[Array.getElem?_eq_none (by rw[hsz];simp;omega)]at h
     simp at h
 have ho:ops[j]? =some ops[j]:=Array.getElem?_eq_getElem hj;refine⟨_,ho,?_⟩;have hsplit:ops.toList=ops.toList.take j++ops[j]::ops.toList.drop (j+1):=by
   rw[<-Array.getElem_toList hj,List.getElem_cons_drop,List.take_append_drop]
 rw[hsplit,List.foldl_append,List.foldl_cons]at h;have hs0:((ops.toList.take j).foldl befStep #[]).size=j:=by rw[ZaK];simp;omega
 rw[Zb6 _ _ j (by rw[befStep,Array.size_push,hs0];omega)]at h;rw[befStep]at h;simp only[Array.getD_eq_getD_getElem?,Array.getElem?_push,hs0,if_true,Option.getD_some]at h;rw[<-Array.foldl_toList]at h;rcases Zij (acc:=(ops.toList.take j).foldl befStep #[]) ops[j].after.toList 0 i (by simpa [Array.getD_eq_getD_getElem?] using h)with h1|⟨e,he,hbe,h2⟩
 · simp at h1
 · refine⟨e,by simpa using he,hbe,?_⟩
   have hk:=List.all_eq_true.1 hb j (List.mem_range.2 hj);rw[ho]at hk;have hlt:=(Array.all_eq_true_iff_forall_mem.1 hk) e (by simpa using he);rw[hbe]at hlt
   simp at hlt
   refine h2.imp id fun h3=>?_;rw[hsplit,List.foldl_append,Zb6 _ _ e.on (by rw[hs0];exact hlt)];exact h3
def Closed(ops:Array Oper)(D:Array Bool):Prop:=∀j,D.getD j false=true->readyAt ops D j
theorem Z2j{ops:Array Oper}(hb:backOK ops=true){D:Array Bool}(hc:Closed ops D): ∀j i,readyAt ops D j->befHas (Region.before ops) j i=true->D.getD i false=true:=by
 intro j
 induction j using Nat.strongRecOn with
 |_ j ih=>
   intro i hj h;obtain⟨o,ho,e,he,hbe,h2⟩:=ZgV hb h;have hd:=hj o ho e he hbe;rcases h2 with rfl|h2
   · exact hd
   · have hlt:e.on<j:=by
       have hjs:j<ops.size:=by
         rcases Nat.lt_or_ge j ops.size with hlt|hge
         · exact hlt
         · rw[Array.getElem?_eq_none hge]at ho;cases ho
       have hk:=List.all_eq_true.1 hb j (List.mem_range.2 hjs);rw[ho]at hk;have hlt:=(Array.all_eq_true_iff_forall_mem.1 hk) e he;rw[hbe]at hlt
       simpa using hlt
     exact ih e.on hlt i (hc _ hd) h2
def ordOK(ops:Array Oper):Bool:=
 let B:=Region.before ops
 let l:=ops.toList.zipIdx
 l.all fun(oi,i)=>l.all fun(oj,j)=>i==j||
   ((match oi.dst with|none=>true|some d=>(oj.dst != some d)&&(!(oj.looksAt ops).contains d||(if i<j then befHas B j i else befHas B i j)))&&
    (!(isLoud oi&&isLoud oj&&decide (i<j))||befHas B j i))
def regOK(ops:Array Oper):Bool:=backOK ops&&ordOK ops
theorem Z4n{ops:Array Oper}(h:ordOK ops=true){i j:Nat}{oi oj:Oper}(hi:ops[i]? =some oi)(hj:ops[j]? =some oj)(hne:i≠j):
   (∀d,oi.dst=some d->oj.dst≠some d/\(d∈oj.looksAt ops->if i<j then befHas (Region.before ops) j i=true else befHas (Region.before ops) i j=true))/\
   (isLoud oi=true->isLoud oj=true->i<j->befHas (Region.before ops) j i=true):=by
 unfold ordOK at h;have h1:=List.all_eq_true.1 (List.all_eq_true.1 h (oi,i) (by rw[List.mk_mem_zipIdx_iff_getElem?];simpa using hi)) (oj,j) (by rw[List.mk_mem_zipIdx_iff_getElem?];simpa using hj);simp only[Bool.or_eq_true,Bool.and_eq_true,beq_iff_eq,hne,false_or,Bool.not_eq_true',Bool.and_eq_false_iff,decide_eq_false_iff_not]at h1;obtain⟨h2,h3⟩:=h1
 constructor
 · intro d hd
   rw[hd]at h2;simp only[Bool.and_eq_true,bne_iff_ne,ne_eq,Bool.or_eq_true,Bool.not_eq_true']at h2;refine⟨h2.1,fun hm=>?_⟩;rcases h2.2 with h4|h4
   · rw[List.contains_iff_mem.2 hm]at h4;cases h4
   · split at h4<;>simp[*]
 · intro a b c
   rcases h3 with((h4|h4)|h4)|h4
   · rw[a]at h4;cases h4
   · rw[b]at h4;cases h4
   · exact absurd c h4
   · exact h4
end Go.Vc

namespace Go.Vc
open Go
theorem Keeps.step{X Y:Nat->Prop}{W w w':World}(h:Keeps X W w)(k:Keeps Y w w')(hy: ∀b,Y b->X b\/W.heap.size<=b):Keeps X W w':=
 ⟨k.os.trans h.os,k.tape.trans h.tape,k.output.trans h.output,Nat.le_trans h.size k.size,
  fun b hb hx=>(k.blk b (Nat.lt_of_lt_of_le hb h.size) (fun hb'=>(hy b hb').elim hx (fun h1=>absurd hb (by omega)))).trans (h.blk b hb hx),
  fun b cs t fr hb=>by
   obtain⟨cs1,h1,e1⟩:=h.shp b cs t fr hb;obtain⟨cs2,h2,e2⟩:=k.shp b cs1 t fr h1;exact⟨cs2,h2,e2.trans e1⟩⟩
theorem Z3X(w:World)(g:Nat)(cs old:Array Value)(t:TypeId)(fr:Nat×Nat)(h:w.heap[g]? =some (.cells old t fr)):(w.setRow g cs).heap[g]? =some (.cells cs t fr):=by
 simp[World.setRow,Array.getElem?_modify,h]
theorem Z2K(w:World)(g:Nat)(cs:Array Value){b:Nat}(h:b≠g):(w.setRow g cs).heap[b]? =w.heap[b]? :=by
 simp only[World.setRow,Array.getElem?_modify];rw[if_neg (fun e=>h e.symm)]
theorem Zb7(w:World)(g:Nat)(cs:Array Value):(w.setRow g cs).heap.size=w.heap.size:=by simp[World.setRow]
theorem Keeps.setRow(w:World)(g:Nat)(cs old:Array Value)(t:TypeId)(h:w.heap[g]? =some (.cells old t (0,0)))(hs:cs.size=old.size):Keeps (fun b=>b=g) w (w.setRow g cs):=
 ⟨rfl,rfl,rfl,by rw[Zb7];exact Nat.le_refl _,fun b _ hb=>Z2K w g cs hb,fun b cs' t' fr hb=>by
   by_cases e:b=g
   · subst e
     rw[h]at hb;injection hb with hb
     injection hb with h1 h2 h3
     subst h1 h2 h3;exact⟨cs,Z3X w b cs _ _ _ h,hs⟩
   · exact⟨cs',(Z2K w g cs e).trans hb,rfl⟩⟩
theorem Z85{P:Program}(w:World)(ty:TypeId)(b:Nat)(v:Value)(cs:Array Value)(t:TypeId)(hb:w.heap[b]? =some (.cells cs t (0,0)))(hi:(P.info? ty).map (·.size)=some cs.size)
   (hs:v.cells.size=cs.size)(h1: ∀u∈v.cells.toList,u.oneCell'=true):
   (Instr.storeAt ty (.pointer (some ⟨b,0,none⟩)) v).run P w= .ok () (w.setRow b v.cells):=by
 have h:=run_storeCells_at (P:=P) b 0 t v.cells.toList 0 cs w hb (by simp;omega) h1;have e:(cs.toList.take (0+0)++v.cells.toList++cs.toList.drop (0+0+v.cells.toList.length)).toArray=v.cells:=by
   have:cs.toList.drop (v.cells.size)=[]:=List.drop_eq_nil_of_le (by simp;omega)
   simp[this]
 rw[e]at h;cases hq:P.info? ty with
 |none=>simp[hq]at hi
 |some i=>
   have hs':v.cells.size=i.size:=by simp[hq]at hi;omega
   simp[Instr.storeAt,Instr.sureAddr,storeVar,sizeOf,typeInfo,hq,hs',h]
theorem ZaI{P:Program}(o:Oper)(ρ:Operand->Value)(w:World)(t:TypeId)(ho:o.op= .alloc t):
   (∃i z,P.info? t=some i/\i.zero=some z/\(execOp ρ o).run P w= .ok (.value (.pointer (some ⟨w.heap.size,0,none⟩))) (w.alloc (.cells z.cells t)))\/(zcells P t=none/\ ∃h w',(execOp ρ o).run P w= .halt h w'):=by
 simp only[execOp,ho,Instr.alloc,zeroValue,typeInfo,zcells];cases hi:P.info? t with
 |none=>right;simp[hi,stuck]
 |some i=>
   cases hz:i.zero with
   |none=>right;simp[hi,hz,unsupported]
   |some z=>left;exact⟨i,z,rfl,hz,by simp[hi,hz,newVar,newRow]⟩
abbrev Sd:=List (Nat×TypeId×Ty)
def FinS(P:Program)(c:Ctx)(Lk:List Own)(Φ:List (World->Prop))(Q:Exit->Act->World->Prop):List (Nat×Ty)->List Own->Sd->Prop
 |K,M,[]=>∀E a w,SA c K (M++Lk) Φ E a w->Q .normal a w
 |K,M,(s,ety,T)::S=>∀b,FinS P c Lk Φ Q ((s,.is (.pointer (some ⟨b,0,none⟩)))::K) (⟨b,ety,T⟩::M) S
def slotOf(a:Act)(s:Nat):Value:=a.tmps.getD s undef
theorem Z1r(a:Act)(dst:Option Nat)(v:Value)(s:Nat)(h:dst≠some s):slotOf (a.put dst v) s=slotOf a s:=by
 cases dst with
 |none=>rfl
 |some d=>
   have hne:d≠s:=fun e=>h (by rw[e]);simp only[slotOf,Act.put,Array.getD_eq_getD_getElem?,Array.getElem?_setIfInBounds_ne hne]
theorem Z3y(a:Act)(d:Nat)(v:Value)(h:d<a.tmps.size):slotOf (a.put (some d) v) d=v:=by
 simp only[slotOf,Act.put,Array.getD_eq_getD_getElem?,Array.getElem?_setIfInBounds_self_of_lt h,Option.getD_some]
theorem Z7l(a:Act)(dst:Option Nat)(v:Value):(a.put dst v).tmps.size=a.tmps.size:=by cases dst<;>simp[Act.put]
theorem Z5K(a:Act)(dst:Option Nat)(v:Value):(a.put dst v).defers=a.defers:=by cases dst<;>rfl
theorem Z9L{T:Ty}{n:Nat}(hT: ∀(E:Nat->Prop) (v:Value) (w:World),T.p E v w->v.cells.size=n/\ ∀u∈v.cells.toList,u.oneCell'=true)(e:TypeId)(v:Value):T.obj e v= .cells v.cells e (0,0):=by
 cases T<;>first|rfl|skip
 have h0:=(hT (fun _=>False) (.agg #[]) default trivial).1;have h1:=(hT (fun _=>False) (.bool true) default trivial).1;rw[<-h0]at h1;exact absurd h1 (by decide)
def SdAt(ops:Array Oper)(D:Array Bool)(B1:Nat)(E:Nat->Prop)(a:Act)(w:World)(x:Nat×TypeId×Ty):Prop:=
 (∃g o t,ops[g]? =some o/\o.dst=some x.1/\o.op= .alloc t/\D.getD g false=true)/\
 ∃b,slotOf a x.1= .pointer (some ⟨b,0,none⟩)/\E b/\B1<=b/\ ∃v:Value,w.heap[b]? =some (x.2.2.obj x.2.1 v)/\x.2.2.p E v w
structure RI (P:Program) (ops:Array Oper) (c:Ctx) (K:List (Nat×Ty)) (Lm Lk:List Own) (Φ:List (World->Prop)) (T:Nat->Ty) (Mf:Nat->List Own) (Sf:Nat->Sd) (B1:Nat) (D:Array Bool) (E:Nat->Prop) (a:Act) (w:World):Prop where
 n:a.tmps.size=c.n
 d:a.defers=c.D
 wf: ∀b,E b->b<w.heap.size
 cl:Closed ops D
 k: ∀s T',look K s=some T'->(∀j o,ops[j]? =some o->D.getD j false=true->o.dst≠some s)->T'.p E (slotOf a s) w
 t: ∀j o d,ops[j]? =some o->D.getD j false=true->o.dst=some d->(T j).p E (slotOf a d) w
 l: ∀m∈Lk,m.at E w
 f: ∀F∈Φ,Pers E w F
 m: ∀i,i<=ops.size->(∀j o,ops[j]? =some o->isLoud o=true->(D.getD j false=true↔j<i))->(∀m∈Mf i,m.at E w)/\(∀x∈Sf i,SdAt ops D B1 E a w x)
 fr: ∀j o d t,ops[j]? =some o->o.op= .alloc t->D.getD j false=true->o.dst=some d->∃b,slotOf a d= .pointer (some ⟨b,0,none⟩)/\B1<=b/\b<w.heap.size
 fd: ∀j1 j2 o1 o2 d1 d2 t1 t2,j1≠j2->ops[j1]? =some o1->ops[j2]? =some o2->o1.op= .alloc t1->o2.op= .alloc t2->D.getD j1 false=true->D.getD j2 false=true->o1.dst=some d1->o2.dst=some d2->slotOf a d1≠slotOf a d2
 x: ∀b,c.X b->E b
 keeps:Keeps c.X0 c.W0 w
 hB:B1<=w.heap.size
theorem Z2L{D:Array Bool}{i j:Nat}(hi:i<D.size):(D.setIfInBounds i true).getD j false=true↔j=i\/D.getD j false=true:=by
 rw[Array.getD_eq_getD_getElem?,Array.getElem?_setIfInBounds]
 by_cases h:i=j
 · subst h;simp[hi]
 · rw[if_neg h,<-Array.getD_eq_getD_getElem?]
   constructor
   · exact .inr
   · rintro(rfl|h')
     · exact absurd rfl h
     · exact h'
theorem Z5x{ops:Array Oper}{K:List (Nat×Ty)}{T:Nat->Ty}(s:Nat): ∀n,n<=ops.size->∀T',look (kAt ops.toList T K n) s=some T'->(∃j oj,j<n/\ops[j]? =some oj/\oj.dst=some s/\T'=T j)\/((∀j oj,j<n->ops[j]? =some oj->oj.dst≠some s)/\look K s=some T'):=by
 intro n
 induction n with
 |zero=>intro _ T' h;exact .inr ⟨fun j oj h'=>absurd h' (by omega),h⟩
 |succ n ih=>
   intro hn T' h;have hn':n<ops.size:=by omega
   have hon:ops[n]? =some ops[n]:=Array.getElem?_eq_getElem hn';have hln:ops.toList[n]? =some ops[n]:=by simp
   rw[kAt,hln,Option.bind_some]at h
   by_cases hds:ops[n].dst=some s
   · rw[hds,putK,look,show Nat.beq s s=true from Nat.beq_refl s,cond_true]at h
     injection h with h
     exact .inl ⟨n,_,by omega,hon,hds,h.symm⟩
   · have h':look (kAt ops.toList T K n) s=some T':=by
       cases hdn:ops[n].dst with
       |none=>rw[hdn]at h;exact h
       |some d=>
         rw[hdn,putK,look]at h;have hne:Nat.beq d s=false:=by
           cases hbq:Nat.beq d s with
           |false=>rfl
           |true=>exact absurd (by rw[hdn,Nat.eq_of_beq_eq_true hbq]) hds
         rw[hne,cond_false]at h;exact h
     rcases ih (by omega) T' h' with⟨j,oj,hj,h1,h2,h3⟩|⟨h1,h2⟩
     · exact .inl ⟨j,oj,by omega,h1,h2,h3⟩
     · refine .inr ⟨fun j oj hj hoj=>?_,h2⟩
       rcases Nat.lt_or_ge j n with hlt|hge
       · exact h1 j oj hlt hoj
       · obtain rfl:j=n:=by omega
         rw[hon]at hoj;injection hoj with hoj
         rw[<-hoj];exact hds
theorem slotTy{P:Program}{ops:Array Oper}{c:Ctx}{K:List (Nat×Ty)}{Lm Lk:List Own}{Φ:List (World->Prop)}{T:Nat->Ty}{Mf:Nat->List Own}{Sf:Nat->Sd}{B1:Nat}{D:Array Bool}{E:Nat->Prop}{a:Act}{w:World}
   (hI:RI P ops c K Lm Lk Φ T Mf Sf B1 D E a w)(hb:backOK ops=true)(ho:ordOK ops=true){i:Nat}{o:Oper}(hi:ops[i]? =some o)(hd:D.getD i false=false)(hr:readyAt ops D i):
   ∀s T',s∈o.looksAt ops->look (kAt ops.toList T K i) s=some T'->T'.p E (slotOf a s) w:=by
 intro s T' hs hl;have key:=Z5x (ops:=ops) (K:=K) (T:=T) s;rcases key i (Nat.le_of_lt (Array.getElem?_eq_some_iff.1 hi).1) T' hl with⟨j,oj,hj,hoj,hdj,rfl⟩|⟨hno,hk⟩
 · have hord:=((Z4n ho hoj hi (by omega)).1 s hdj).2 hs
   rw[if_pos hj]at hord;exact hI.t j oj s hoj (Z2j hb hI.cl i j hr hord) hdj
 · refine hI.k s T' hk fun j oj hoj hdone hdj=>?_
   rcases Nat.lt_or_ge j i with hlt|hge
   · exact hno j oj hlt hoj hdj
   · have hne:j≠i:=fun e=>by subst e;rw[hdone]at hd;cases hd
     have hord:=((Z4n ho hoj hi hne).1 s hdj).2 hs;rw[if_neg (by omega)]at hord;have:=Z2j hb hI.cl j i (hI.cl j hdone) hord;rw[hd]at this;cases this
theorem Z6t{ops:Array Oper}{o:Oper}{s:Nat}(h:Operand.tmp s∈o.op.operands):s∈o.looksAt ops:=
 List.mem_append_left _ (List.mem_filterMap.2 ⟨.tmp s,by simpa using h,rfl⟩)
theorem Z9Y{ops:Array Oper}{o:Oper}{g s:Nat}{b:Bool}(h:o.guard=some (g,b))(hd:(ops[g]?).bind (·.dst)=some s):s∈o.looksAt ops:=
 List.mem_append_right _ (by simp[h,hd])
theorem RI.pre{P:Program}{ops:Array Oper}{c:Ctx}{K:List (Nat×Ty)}{Lm Lk:List Own}{Φ:List (World->Prop)}{T:Nat->Ty}{Mf:Nat->List Own}{Sf:Nat->Sd}{B1:Nat}{D:Array Bool}{E:Nat->Prop}{a:Act}{w:World}
   (hI:RI P ops c K Lm Lk Φ T Mf Sf B1 D E a w)(hb:backOK ops=true)(ho:ordOK ops=true){i:Nat}{o:Oper}(hi:ops[i]? =some o)(hd:D.getD i false=false)(hr:readyAt ops D i):
   Pre Lk Φ (Kn (kAt ops.toList T K i)) o E w a.eval:=by
 refine⟨hI.wf,hI.l,hI.f,fun x T' hx hT=>?_⟩;cases x with
 |tmp s=>exact slotTy hI hb ho hi hd hr s T' (Z6t hx) hT
 |const v=>simp only[Kn,opTy,Option.some.injEq]at hT;subst hT;rfl
 |global g=>simp only[Kn,opTy,Option.some.injEq]at hT;subst hT;rfl
 |func f=>simp only[Kn,opTy,Option.some.injEq]at hT;subst hT;rfl
theorem RI.preG{P:Program}{ops:Array Oper}{c:Ctx}{K:List (Nat×Ty)}{Lm Lk:List Own}{Φ:List (World->Prop)}{T:Nat->Ty}{Mf:Nat->List Own}{Sf:Nat->Sd}{B1:Nat}{D:Array Bool}{E:Nat->Prop}{a:Act}{w:World}{π:Prop}
   (hI:RI P ops c K Lm Lk Φ T Mf Sf B1 D E a w)(hb:backOK ops=true)(ho:ordOK ops=true){i:Nat}{o:Oper}(hi:ops[i]? =some o)(hd:D.getD i false=false)(hr:readyAt ops D i)(hπ:π):
   Pre Lk Φ (KnG π (kAt ops.toList T K i)) o E w a.eval:=by
 have h:=hI.pre hb ho hi hd hr;refine⟨h.wf,h.l,h.f,fun x T' hx hT=>?_⟩;rcases hT with hT|⟨π',hT,hi⟩
 · exact h.x x T' hx hT
 · exact(h.x x _ hx hT).1 (hi hπ)
theorem Z6C{ops:Array Oper}{o:Oper}{a:Act}{g d:Nat}{b b':Bool}(hg:o.guard=some (g,b))(hd:(ops[g]?).bind (·.dst)=some d)(hv:slotOf a d= .bool b'):Region.wanted o (yielded ops a.tmps)=(b'==b):=by
 have hy:yielded ops a.tmps g=some b':=by
  unfold yielded;rw[hd,Option.bind_some];unfold slotOf at hv;rw[Array.getD_eq_getD_getElem?]at hv;cases h:a.tmps[d]? with
  |none=>rw[h]at hv;cases hv
  |some u=>rw[h]at hv;simp only[Option.getD_some]at hv;rw[hv]
 simp[Region.wanted,hg,hy]
theorem Zbb{ops:Array Oper}{o:Oper}{a:Act}{g d:Nat}{b:Bool}{v:Value}(hg:o.guard=some (g,b))(hd:(ops[g]?).bind (·.dst)=some d)(hv:slotOf a d=v)(hne:v≠ .bool b):Region.wanted o (yielded ops a.tmps)=false:=by
 simp only[Region.wanted,hg];rw[beq_eq_false_iff_ne];intro hy;apply hne;unfold yielded at hy;rw[hd,Option.bind_some]at hy;rw[<-hv];unfold slotOf;rw[Array.getD_eq_getD_getElem?];cases h:a.tmps[d]? with
 |none=>rw[h]at hy;simp at hy
 |some u=>
   rw[h]at hy;cases u<;>simp at hy
   simp[hy]
theorem Own.keep{m:Own}{E E':Nat->Prop}{w w':World}(h:m.at E w)(k:Ev E w E' w')(hk:w'.heap[m.b]? =w.heap[m.b]?):m.at E' w':=by
 obtain⟨he,v,hb,hT⟩:=h;exact⟨(k.same _ (Z1d hb)).2 he,v,hk.trans hb,Ty.mono k hT⟩
theorem Own.keep0{m:Own}{E E':Nat->Prop}{w w':World}(h:m.at E w)(k:Ev E w E' w')(hk:Keeps noX w w'):m.at E' w':=
 Own.keep h k (hk.blk _ (Z1d h.2.choose_spec.1) id)
theorem loudless{P:Program}{ops:Array Oper}{L:List Own}{Φ:List (World->Prop)}{o:Oper}{K:List (Nat×Ty)}{M M':List Own}{S S':Sd}{T:Ty}{kd:Kind}{i:Nat}
  (h:St1 P ops L Φ i o K M S T M' S' kd)(hl:isLoud o=false):M'=M/\S'=S:=by
 cases h with
 |typed hg h=>exact⟨rfl,rfl⟩
 |gated=>exact⟨rfl,rfl⟩
 |new=>exact⟨rfl,rfl⟩
 |sto s ety ty n x hg hdst g hgi hal ho=>simp[isLoud,ho]at hl
 |chg hg hl'=>rw[hl]at hl';cases hl'
theorem ZcZ{ops:Array Oper}{Mf:Nat->List Own}{Sf:Nat->Sd}(hst: ∀i o,ops[i]? =some o->isLoud o=false->Mf (i+1)=Mf i/\Sf (i+1)=Sf i):
   ∀(n i:Nat),i+n<=ops.size->(∀j o,ops[j]? =some o->isLoud o=true->¬(i<=j/\j<i+n))->Mf (i+n)=Mf i/\Sf (i+n)=Sf i:=by
 intro n
 induction n with
 |zero=>intro i _ _;exact⟨rfl,rfl⟩
 |succ n ih=>
   intro i hn hno;obtain⟨h1,h2⟩:=ih i (by omega) (fun j o ho hl hj=>hno j o ho hl ⟨hj.1,by omega⟩);have ho:ops[i+n]? =some ops[i+n]:=Array.getElem?_eq_getElem (by omega);have hq:isLoud ops[i+n]=false:=by
     cases h:isLoud ops[i+n]with
     |false=>rfl
     |true=>exact absurd ⟨by omega,by omega⟩ (hno (i+n) _ ho h)
   obtain⟨h3,h4⟩:=hst (i+n) _ ho hq;exact⟨h3.trans h1,h4.trans h2⟩
section
variable{P:Program}{ops:Array Oper}{c:Ctx}{K:List (Nat×Ty)}{Lm Lk:List Own}{Φ:List (World->Prop)}{T:Nat->Ty}{Mf:Nat->List Own}{Sf:Nat->Sd}{B1:Nat}{D:Array Bool}{E:Nat->Prop}{a:Act}{w:World}
theorem Z5m(hI:RI P ops c K Lm Lk Φ T Mf Sf B1 D E a w)(hb:backOK ops=true)(ho:ordOK ops=true){i:Nat}{o:Oper}(hi:ops[i]? =some o)(hd:D.getD i false=false)(hr:readyAt ops D i)(hl:isLoud o=true):
   ∀j oj,ops[j]? =some oj->isLoud oj=true->(D.getD j false=true↔j<i):=by
 intro j oj hj hlj
 constructor
 · intro hdone
   rcases Nat.lt_or_ge j i with h|h
   · exact h
   · have hne:j≠i:=fun e=>by subst e;rw[hdone]at hd;cases hd
     have:=Z2j hb hI.cl j i (hI.cl j hdone) ((Z4n ho hi hj (Ne.symm hne)).2 hl hlj (by omega));rw[hd]at this;cases this
 · intro hlt
   exact Z2j hb hI.cl i j hr ((Z4n ho hj hi (by omega)).2 hlj hl hlt)
theorem RI.quiet(hI:RI P ops c K Lm Lk Φ T Mf Sf B1 D E a w)(hs:D.size=ops.size)(hb:backOK ops=true)(ho:ordOK ops=true){i:Nat}{o:Oper}(hi:ops[i]? =some o)(hd:D.getD i false=false)(hr:readyAt ops D i)
   (hst: ∀i o,ops[i]? =some o->isLoud o=false->Mf (i+1)=Mf i/\Sf (i+1)=Sf i)(hsame:Mf (i+1)=Mf i/\Sf (i+1)=Sf i)(hn: ∀d,o.dst=some d->d<c.n)
   {E':Nat->Prop}{v:Value}{w':World}(hk:Keeps noX w w')(hev:Ev E w E' w')(hwf: ∀b,E' b->b<w'.heap.size)(hT:(T i).p E' v w')
   (hal: ∀t,o.op= .alloc t->v= .pointer (some ⟨w.heap.size,0,none⟩)/\w.heap.size<w'.heap.size):
   RI P ops c K Lm Lk Φ T Mf Sf B1 (D.setIfInBounds i true) E' (a.put o.dst v) w':=by
 have hi':i<ops.size:=(Array.getElem?_eq_some_iff.1 hi).1;have hgs: ∀j,(D.setIfInBounds i true).getD j false=true↔j=i\/D.getD j false=true:=fun j=>Z2L (by omega);have hdst: ∀j oj d,ops[j]? =some oj->D.getD j false=true->oj.dst=some d->o.dst≠some d:=by
   intro j oj d hj hdone hdj;have hne:i≠j:=fun e=>by subst e;rw[hdone]at hd;cases hd
   intro e;exact((Z4n ho hi hj hne).1 d e).1 hdj
 have hsd: ∀x:Nat×TypeId×Ty,SdAt ops D B1 E a w x->SdAt ops (D.setIfInBounds i true) B1 E' (a.put o.dst v) w' x:=by
   rintro x ⟨⟨g,og,t,hg,hgd,hgo,hgD⟩,b,hsl,he,hB,u,hu,hTu⟩;refine⟨⟨g,og,t,hg,hgd,hgo,(hgs g).2 (.inr hgD)⟩,b,?_,(hev.same b (Z1d hu)).2 he,hB,u,hk.get hu id,Ty.mono hev hTu⟩;rw[Z1r _ _ _ _ (hdst g og x.1 hg hgD hgd)];exact hsl
 refine⟨by rw[Z7l];exact hI.n,by rw[Z5K];exact hI.d,hwf,?_,?_,?_,fun m hm=>Own.keep0 (hI.l m hm) hev hk,fun F hF=>(hI.f F hF).ev hev,?_,?_,?_,?_,?_,?_⟩
 · intro j hj
   rcases(hgs j).1 hj with rfl|hj
   · exact fun o' ho' e he hbe=>(hgs e.on).2 (.inr (hr o' ho' e he hbe))
   · exact fun o' ho' e he hbe=>(hgs e.on).2 (.inr (hI.cl j hj o' ho' e he hbe))
 · intro s T' hs hno
   rw[Z1r _ _ _ _ (hno i o hi ((hgs i).2 (.inl rfl)))];exact Ty.mono hev (hI.k s T' hs fun j oj hj hdone=>hno j oj hj ((hgs j).2 (.inr hdone)))
 · intro j oj d hj hdone hdj
   rcases(hgs j).1 hdone with rfl|hdone
   · rw[hi]at hj
     injection hj with hj
     subst hj;rw[hdj,Z3y _ _ _ (by rw[hI.n];exact hn d hdj)];exact hT
   · rw[Z1r _ _ _ _ (hdst j oj d hj hdone hdj)]
     exact Ty.mono hev (hI.t j oj d hj hdone hdj)
 · intro i' hi'n hcond
   have main:(∀m∈Mf i',m.at E w)/\ ∀x∈Sf i',SdAt ops D B1 E a w x:=by
     cases hl:isLoud o with
     |false=>
       refine hI.m i' hi'n fun j oj hj hlj=>?_;rw[<-hcond j oj hj hlj,hgs]
       constructor
       · exact .inr
       · rintro(rfl|h)
         · rw[hi]at hj;injection hj with hj;subst hj;rw[hl]at hlj;cases hlj
         · exact h
     |true=>
       have hii:i<i':=(hcond i o hi hl).1 ((hgs i).2 (.inl rfl));have h0:=hI.m i (by omega) (Z5m hI hb ho hi hd hr hl);obtain⟨n,rfl⟩: ∃n,i'=i+1+n:=⟨i'-(i+1),by omega⟩;obtain⟨h1,h2⟩:=ZcZ (Mf:=Mf) (Sf:=Sf) hst n (i+1) hi'n (fun j oj hj hlj hjj=>by
         have hjd:=(hcond j oj hj hlj).2 (by omega);rcases(hgs j).1 hjd with rfl|hjd
         · omega
         · have:=(Z5m hI hb ho hi hd hr hl j oj hj hlj).1 hjd
           omega)
       rw[h1,h2,hsame.1,hsame.2];exact h0
   exact⟨fun m hm=>Own.keep0 (main.1 m hm) hev hk,fun x hx=>hsd x (main.2 x hx)⟩
 · intro j oj d t hj hop hdone hdj
   rcases(hgs j).1 hdone with rfl|hdone
   · rw[hi]at hj
     injection hj with hj
     subst hj;rw[hdj,Z3y _ _ _ (by rw[hI.n];exact hn d hdj)];obtain⟨rfl,hlt⟩:=hal t hop;exact⟨_,rfl,hI.hB,hlt⟩
   · rw[Z1r _ _ _ _ (hdst j oj d hj hdone hdj)]
     obtain⟨b,h1,h2,h3⟩:=hI.fr j oj d t hj hop hdone hdj;exact⟨b,h1,h2,Nat.lt_of_lt_of_le h3 hk.size⟩
 · intro j1 j2 o1 o2 d1 d2 t1 t2 hne h1 h2 p1 p2 g1 g2 f1 f2
   rcases(hgs j1).1 g1 with rfl|e1
   · rcases(hgs j2).1 g2 with rfl|e2
     · exact absurd rfl hne
     · rw[hi]at h1
       injection h1 with h1
       subst h1;rw[f1,Z3y _ _ _ (by rw[hI.n];exact hn d1 f1),<-f1,Z1r _ _ _ _ (hdst j2 o2 d2 h2 e2 f2)];obtain⟨rfl,_⟩:=hal t1 p1;obtain⟨b,q1,_,q3⟩:=hI.fr j2 o2 d2 t2 h2 p2 e2 f2;rw[q1];intro e;injection e with e
       injection e with e
       injection e with e
       omega
   · rcases(hgs j2).1 g2 with rfl|e2
     · rw[hi]at h2
       injection h2 with h2
       subst h2;rw[f2,Z3y _ _ _ (by rw[hI.n];exact hn d2 f2),<-f2,Z1r _ _ _ _ (hdst j1 o1 d1 h1 e1 f1)];obtain⟨rfl,_⟩:=hal t2 p2;obtain⟨b,q1,_,q3⟩:=hI.fr j1 o1 d1 t1 h1 p1 e1 f1;rw[q1];intro e;injection e with e
       injection e with e
       injection e with e
       omega
     · rw[Z1r _ _ _ _ (hdst j1 o1 d1 h1 e1 f1),Z1r _ _ _ _ (hdst j2 o2 d2 h2 e2 f2)]
       exact hI.fd j1 j2 o1 o2 d1 d2 t1 t2 hne h1 h2 p1 p2 e1 e2 f1 f2
 · exact fun b hx=>by
     have:=hI.x b hx;exact(hev.same b (hI.wf b this)).2 this
 · exact hI.keeps.step hk fun _=>False.elim
 · exact Nat.le_trans hI.hB hk.size
end
end Go.Vc

namespace Go.Vc
open Go
section
variable{P:Program}{ops:Array Oper}{c:Ctx}{K:List (Nat×Ty)}{Lm Lk:List Own}{Φ:List (World->Prop)}{T:Nat->Ty}{Mf:Nat->List Own}{Sf:Nat->Sd}{B1:Nat}{D:Array Bool}{E:Nat->Prop}{a:Act}{w:World}
theorem RI.loud(hI:RI P ops c K Lm Lk Φ T Mf Sf B1 D E a w)(hs:D.size=ops.size)(hb:backOK ops=true)(ho:ordOK ops=true){i:Nat}{o:Oper}(hi:ops[i]? =some o)(hd:D.getD i false=false)(hr:readyAt ops D i)
   (hst: ∀i o,ops[i]? =some o->isLoud o=false->Mf (i+1)=Mf i/\Sf (i+1)=Sf i)(hl:isLoud o=true)(hn: ∀d,o.dst=some d->d<c.n)
   {Y:Nat->Prop}{v:Value}{w':World}(hk:Keeps Y w w')(hYE: ∀b,Y b->E b)(hYL: ∀m∈Lk,¬Y m.b)(hYc: ∀b,Y b->c.X0 b\/c.W0.heap.size<=b)(hT:(T i).p E v w')
   (hM: ∀m∈Mf (i+1),m.at E w')(hS: ∀x∈Sf (i+1),SdAt ops (D.setIfInBounds i true) B1 E (a.put o.dst v) w' x):
   RI P ops c K Lm Lk Φ T Mf Sf B1 (D.setIfInBounds i true) E (a.put o.dst v) w':=by
 have hev:Ev E w E w':=Ev.of_keeps (hk.mono fun b _=>hYE b);have hna: ∀t,o.op≠ .alloc t:=fun t e=>by simp[isLoud,e]at hl
 have hi':i<ops.size:=(Array.getElem?_eq_some_iff.1 hi).1;have hgs: ∀j,(D.setIfInBounds i true).getD j false=true↔j=i\/D.getD j false=true:=fun j=>Z2L (by omega);have hdst: ∀j oj d,ops[j]? =some oj->D.getD j false=true->oj.dst=some d->o.dst≠some d:=by
   intro j oj d hj hdone hdj;have hne:i≠j:=fun e=>by subst e;rw[hdone]at hd;cases hd
   intro e;exact((Z4n ho hi hj hne).1 d e).1 hdj
 refine⟨by rw[Z7l];exact hI.n,by rw[Z5K];exact hI.d,fun b he=>Nat.lt_of_lt_of_le (hI.wf b he) hk.size,?_,?_,?_,fun m hm=>Own.keep (hI.l m hm) hev (hk.blk _ (Z1d (hI.l m hm).2.choose_spec.1) (hYL m hm)),fun F hF=>(hI.f F hF).ev hev,?_,?_,?_,hI.x,hI.keeps.step hk hYc,Nat.le_trans hI.hB hk.size⟩
 · intro j hj
   rcases(hgs j).1 hj with rfl|hj
   · exact fun o' ho' e he hbe=>(hgs e.on).2 (.inr (hr o' ho' e he hbe))
   · exact fun o' ho' e he hbe=>(hgs e.on).2 (.inr (hI.cl j hj o' ho' e he hbe))
 · intro s T' hs hno
   rw[Z1r _ _ _ _ (hno i o hi ((hgs i).2 (.inl rfl)))];exact Ty.mono hev (hI.k s T' hs fun j oj hj hdone=>hno j oj hj ((hgs j).2 (.inr hdone)))
 · intro j oj d hj hdone hdj
   rcases(hgs j).1 hdone with rfl|hdone
   · rw[hi]at hj
     injection hj with hj
     subst hj;rw[hdj,Z3y _ _ _ (by rw[hI.n];exact hn d hdj)];exact hT
   · rw[Z1r _ _ _ _ (hdst j oj d hj hdone hdj)]
     exact Ty.mono hev (hI.t j oj d hj hdone hdj)
 · intro i' hi'n hcond
   have hii:i<i':=(hcond i o hi hl).1 ((hgs i).2 (.inl rfl));obtain⟨n,rfl⟩: ∃n,i'=i+1+n:=⟨i'-(i+1),by omega⟩;obtain⟨h1,h2⟩:=ZcZ (Mf:=Mf) (Sf:=Sf) hst n (i+1) hi'n (fun j oj hj hlj hjj=>by
     have hjd:=(hcond j oj hj hlj).2 (by omega);rcases(hgs j).1 hjd with rfl|hjd
     · omega
     · have:=(Z5m hI hb ho hi hd hr hl j oj hj hlj).1 hjd
       omega)
   rw[h1,h2];exact⟨hM,hS⟩
 · intro j oj d t hj hop hdone hdj
   rcases(hgs j).1 hdone with rfl|hdone
   · rw[hi]at hj
     injection hj with hj
     subst hj;exact absurd hop (hna t)
   · rw[Z1r _ _ _ _ (hdst j oj d hj hdone hdj)]
     obtain⟨b,h1,h2,h3⟩:=hI.fr j oj d t hj hop hdone hdj;exact⟨b,h1,h2,Nat.lt_of_lt_of_le h3 hk.size⟩
 · intro j1 j2 o1 o2 d1 d2 t1 t2 hne h1 h2 p1 p2 g1 g2 f1 f2
   rcases(hgs j1).1 g1 with rfl|e1
   · rw[hi]at h1
     injection h1 with h1
     subst h1;exact absurd p1 (hna t1)
   · rcases(hgs j2).1 g2 with rfl|e2
     · rw[hi]at h2
       injection h2 with h2
       subst h2;exact absurd p2 (hna t2)
     · rw[Z1r _ _ _ _ (hdst j1 o1 d1 h1 e1 f1),Z1r _ _ _ _ (hdst j2 o2 d2 h2 e2 f2)]
       exact hI.fd j1 j2 o1 o2 d1 d2 t1 t2 hne h1 h2 p1 p2 e1 e2 f1 f2
structure Stat0 (ops:Array Oper) (c:Ctx) (Lm Lk:List Own) (Mf:Nat->List Own) (Sf:Nat->Sd) (B1:Nat):Prop where
 hMb: ∀i,i<=ops.size->(Mf i).map (·.b)=Lm.map (·.b)
 hSn: ∀i,i<=ops.size->((Sf i).map (·.1)).Nodup
 nd:((Lm++Lk).map (·.b)).Nodup
 lt: ∀m∈Lm++Lk,m.b<B1
 may: ∀m∈Lm++Lk,c.X0 m.b\/c.W0.heap.size<=m.b
 hn: ∀(i:Nat) (o:Oper) (d:Nat),ops[i]? =some o->o.dst=some d->d<c.n
 hW:c.W0.heap.size<=B1
structure Stat (P:Program) (ops:Array Oper) (c:Ctx) (K:List (Nat×Ty)) (Lm Lk:List Own) (Φ:List (World->Prop)) (T:Nat->Ty) (Mf:Nat->List Own) (Sf:Nat->Sd) (B1:Nat):Prop extends Stat0 ops c Lm Lk Mf Sf B1 where
 hst: ∀i o,ops[i]? =some o->∃kd,St1 P ops Lk Φ i o (kAt ops.toList T K i) (Mf i) (Sf i) (T i) (Mf (i+1)) (Sf (i+1)) kd
theorem RI.step1(hm:Stat0 ops c Lm Lk Mf Sf B1)(hquiet: ∀i o,ops[i]? =some o->isLoud o=false->Mf (i+1)=Mf i/\Sf (i+1)=Sf i)(hb:backOK ops=true)(ho:ordOK ops=true)(hI:RI P ops c K Lm Lk Φ T Mf Sf B1 D E a w)(hs:D.size=ops.size){Q:Exit->Act->World->Prop}{i:Nat}{o:Oper}(hi:ops[i]? =some o)
   (hd':D.getD i true=false)(hr:readyAt ops D i)(hsti: ∃kd,St1 P ops Lk Φ i o (kAt ops.toList T K i) (Mf i) (Sf i) (T i) (Mf (i+1)) (Sf (i+1)) kd):wpOp P ops Q i (fun a w=>∃E,RI P ops c K Lm Lk Φ T Mf Sf B1 (D.setIfInBounds i true) E a w) a w:=by
 have hi':i<ops.size:=(Array.getElem?_eq_some_iff.1 hi).1;have hd:D.getD i false=false:=by
   have hlt:i<D.size:=by omega
   simp only[Array.getD_eq_getD_getElem?,Array.getElem?_eq_getElem hlt,Option.getD_some]at hd' ⊢;exact hd'
 have hpre:=hI.pre hb ho hi hd hr;have hnn: ∀d,o.dst=some d->d<c.n:=fun d h=>hm.hn i o d hi h;obtain⟨kd,hst⟩:=hsti;unfold wpOp;simp only[hi];have want:o.guard=none->Region.wanted o (yielded ops a.tmps)=true:=fun hg=>by simp[Region.wanted,hg]
 generalize hMM:Mf (i+1)=M1 at hst
 generalize hSS:Sf (i+1)=S1 at hst
 generalize hTT:T i=T1 at hst
 cases hst with
 |typed hg h=>
   rw[if_pos (want hg)];refine .inl ?_;unfold Oper.wp
   by_cases hal: ∃t,o.op= .alloc t
   · obtain⟨t,hal⟩:=hal
     have h1:=h E w a.eval hpre;rcases ZaI (P:=P) o a.eval w t hal with⟨ti,z,hti,hz1,hrun⟩|⟨_,hh,w',hrun⟩
     · rw[hrun]at h1 ⊢
       obtain⟨hk,hT⟩:=h1;exact⟨E,hI.quiet hs hb ho hi hd hr hquiet ⟨hMM,hSS⟩ hnn hk (Ev.of_keeps hk.of_noX) (fun b he=>Nat.lt_of_lt_of_le (hI.wf b he) hk.size) (by rw[hTT];exact hT) fun _ _=>⟨rfl,by rw[Z2t];omega⟩⟩
     · rw[hrun]at h1
       exact h1.elim
   · exact Runs.upon (h E w a.eval hpre) fun v w' ⟨hk,hT⟩=>⟨E,hI.quiet hs hb ho hi hd hr hquiet ⟨hMM,hSS⟩ hnn hk (Ev.of_keeps hk.of_noX) (fun b he=>Nat.lt_of_lt_of_le (hI.wf b he) hk.size) (by rw[hTT];exact hT) fun t ht=>absurd ⟨t,ht⟩ hal⟩
 |gated π g b d hg hgd hk hna h=>
   have hgt:=slotTy hI hb ho hi hd hr d;have dec:(π/\Region.wanted o (yielded ops a.tmps)=true)\/(¬π/\Region.wanted o (yielded ops a.tmps)=false):=by
     rcases hk with⟨c',hk,rfl⟩|⟨π₀,c',hk,rfl⟩
     · have hv:slotOf a d= .bool c':=hgt _ (Z9Y hg hgd) hk
       rw[Z6C hg hgd hv];cases c'<;>cases b<;>simp
     · have hv:=hgt _ (Z9Y hg hgd) hk
       by_cases h0:π₀
       · rw[Z6C hg hgd (hv.1 h0)]
         cases c'<;>cases b<;>simp[h0]
       · exact .inr ⟨fun h=>h0 h.1,Zbb hg hgd (hv.2 h0) (fun e=>by cases e)⟩
   rcases dec with⟨hπ,hw⟩|⟨hπ,hw⟩
   · rw[if_pos hw]
     refine .inl ?_;unfold Oper.wp;exact Runs.upon (h hπ E w a.eval (hI.preG hb ho hi hd hr hπ)) fun v w' ⟨hk,hT⟩=>⟨E,hI.quiet hs hb ho hi hd hr hquiet ⟨hMM,hSS⟩ hnn hk (Ev.of_keeps hk.of_noX) (fun b he=>Nat.lt_of_lt_of_le (hI.wf b he) hk.size) (by rw[hTT];exact⟨fun _=>hT,fun hn=>absurd hπ hn⟩) fun t ht=>by simp[isAlloc,ht]at hna⟩
   · rw[if_neg (by rw[hw];simp)]
     exact⟨E,hI.quiet hs hb ho hi hd hr hquiet ⟨hMM,hSS⟩ hnn (.refl _ _) (.refl _ _) hI.wf (by rw[hTT];exact⟨fun h=>absurd h hπ,fun _=>rfl⟩) fun t ht=>by simp[isAlloc,ht]at hna⟩
 |new t n d hdd hg hop hz=>
   rw[if_pos (want hg)];refine .inl ?_;unfold Oper.wp;have hz':=hz;unfold zcells at hz';rcases ZaI (P:=P) o a.eval w t hop with⟨ti,z,hti,hz1,hrun⟩|⟨hz0,hh,w',hrun⟩
   · rw[hti,Option.bind_some,hz1,Option.map_some,Option.some.injEq]at hz'
     rw[hrun];show ∃E,_;have hk:=Keeps.alloc w (.cells z.cells t);have hev:Ev E w (fun b=>E b\/b=w.heap.size) (w.alloc (.cells z.cells t)):=⟨hk.of_noX,fun b hb=>⟨fun h=>h.elim id (fun e=>absurd hb (by omega)),.inl⟩⟩;refine⟨_,hI.quiet hs hb ho hi hd hr hquiet ⟨hMM,hSS⟩ hnn hk hev ?_ (by rw[hTT];exact⟨w.heap.size,rfl,.inr rfl,z.cells,Z2i w _,hz'⟩) fun _ _=>⟨rfl,by rw[Z2t];omega⟩⟩;rintro b (he|rfl)
     · rw[Z2t];have:=hI.wf b he;omega
     · rw[Z2t];omega
   · rw[hz0]at hz
     cases hz
 |sto s ety ty n x hg hdst g hgi hal hop hks hx hT hty hn=>
   rw[if_pos (want hg)];refine .inl ?_;unfold Oper.wp;have hl:isLoud o=true:=by simp[isLoud,hop]
   obtain⟨og,t,hog,hogd,hogt⟩:=hal;have hgdone:D.getD g false=true:=by
     have hord:=((Z4n ho hog hi (by omega)).1 s hogd).2 (Z6t (by simp[hop,Op.operands]));rw[if_pos hgi]at hord;exact Z2j hb hI.cl i g hr hord
   obtain⟨b,hsl,hB,hbw⟩:=hI.fr g og s t hog hogt hgdone hogd;obtain⟨b',hsl',hbE,cs,hcs,hcn⟩:=slotTy hI hb ho hi hd hr s _ (Z6t (by simp[hop,Op.operands])) hks;obtain rfl:b=b':=by rw[hsl]at hsl';injection hsl' with h1;injection h1 with h1;injection h1
   have hTx:=hpre.x x _ (by simp[hop,Op.operands]) hx;obtain⟨hv1,hv2⟩:=hT E _ w hTx;have hrun:(execOp a.eval o).run P w= .ok .skip (w.setRow b (a.eval x).cells):=by
     simp only[execOp,hop];rw[show a.eval (.tmp s)= .pointer (some ⟨b,0,none⟩)from hsl];have:=Z85 (P:=P) w ty b (a.eval x) cs ety hcs (by rw[hty,hcn]) (by rw[hv1,hcn]) hv2
     simp[this]
   rw[hrun];have hk:=Keeps.setRow w b (a.eval x).cells cs ety hcs (by rw[hv1,hcn]);have hev:Ev E w E (w.setRow b (a.eval x).cells):=Ev.of_keeps (hk.mono fun q _ e=>by rw[e];exact hbE);have hgs: ∀j,(D.setIfInBounds i true).getD j false=true↔j=i\/D.getD j false=true:=fun j=>Z2L (by omega);obtain⟨m1,m2⟩:=hI.m i (by omega) (Z5m hI hb ho hi hd hr hl);have hlt: ∀m∈Mf i,m.b<B1:=fun m hmm=>by
     have:m.b∈(Mf i).map (·.b):=List.mem_map_of_mem hmm;rw[hm.hMb i (by omega)]at this;obtain⟨m0,h0,e0⟩:=List.mem_map.1 this;have:=hm.lt m0 (List.mem_append_left _ h0)
     omega
   refine⟨E,hI.loud hs hb ho hi hd hr hquiet hl hnn hk (fun q e=>by rw[e];exact hbE) (fun m hmm e=>?_) (fun q e=>.inr (by rw[e];have:=hm.hW;omega)) (by rw[hTT];trivial) ?_ ?_⟩
   · have:=hm.lt m (List.mem_append_right _ hmm)
     omega
   · rw[hMM]
     intro m hmm;refine Own.keep (m1 m hmm) hev (Z2K w b _ ?_);have:=hlt m hmm
     omega
   · rw[hSS]
     intro y hy;rw[hdst];rcases List.mem_cons.1 hy with rfl|hy
     · exact⟨⟨g,og,t,hog,hogd,hogt,(hgs g).2 (.inr hgdone)⟩,b,hsl,hbE,hB,a.eval x,(by rw[Z9L hT];exact Z3X w b _ _ _ _ hcs),Ty.mono hev hTx⟩
     · obtain⟨⟨g',og',t',hg',hgd',hgo',hgD'⟩,b',hsy,he',hB',u,hu,hTu⟩:=m2 y hy
       have hsne:y.1≠s:=fun e=>hn (by rw[<-e];exact List.mem_map_of_mem hy);have hgne:g'≠g:=fun e=>by subst e;rw[hog]at hg';injection hg' with hg';subst hg';rw[hogd]at hgd';injection hgd' with hgd';exact hsne hgd'.symm
       have hbne:b'≠b:=fun e=>by
         subst e;exact hI.fd g' g og' og y.1 s t' t hgne hg' hog hgo' hogt hgD' hgdone hgd' hogd (hsy.trans hsl.symm)
       exact⟨⟨g',og',t',hg',hgd',hgo',(hgs g').2 (.inr hgD')⟩,b',hsy,he',hB',u,(Z2K w b _ hbne).trans hu,Ty.mono hev hTu⟩
 |chg hg hl hmb h=>
   rw[if_pos (want hg)];refine .inl ?_;unfold Oper.wp;obtain⟨m1,m2⟩:=hI.m i (by omega) (Z5m hI hb ho hi hd hr hl);have hMi:=hm.hMb i (by omega);have hnd:((Mf i).map (·.b)).Nodup:=by
     rw[hMi];have:=hm.nd;rw[List.map_append]at this;exact(List.nodup_append.1 this).1
   have hlt: ∀q,q∈(Mf i).map (·.b)->q<B1:=fun q hq=>by
     rw[hMi]at hq;obtain⟨m0,h0,e0⟩:=List.mem_map.1 hq;have:=hm.lt m0 (List.mem_append_left _ h0)
     omega
   refine Runs.upon (h E w a.eval hpre m1 hnd) fun v w' ⟨hk,hTv,hM'⟩=>?_;have hYE: ∀q,q∈(Mf i).map (·.b)->E q:=fun q hq=>by
     obtain⟨m0,h0,rfl⟩:=List.mem_map.1 hq;exact(m1 m0 h0).1
   have hev:Ev E w E w':=Ev.of_keeps (hk.mono fun q _=>hYE q);have hgs: ∀j,(D.setIfInBounds i true).getD j false=true↔j=i\/D.getD j false=true:=fun j=>Z2L (by omega);refine⟨E,hI.loud hs hb ho hi hd hr hquiet hl hnn hk hYE (fun m hmm hq=>?_) (fun q hq=>?_) (by rw[hTT];exact hTv) (by rw[hMM];exact hM') ?_⟩
   · rw[hMi]at hq
     have:=hm.nd;rw[List.map_append]at this;exact(List.nodup_append.1 this).2.2 _ hq _ (List.mem_map_of_mem hmm) rfl
   · rw[hMi]at hq
     obtain⟨m0,h0,rfl⟩:=List.mem_map.1 hq;exact hm.may m0 (List.mem_append_left _ h0)
   · rw[hSS]
     intro y hy;obtain⟨⟨g',og',t',hg',hgd',hgo',hgD'⟩,b',hsl',he',hB',u,hu,hTu⟩:=m2 y hy;have hdst:o.dst≠some y.1:=by
       intro e;have hne:i≠g':=fun e'=>by subst e';rw[hgD']at hd;cases hd
       exact((Z4n ho hi hg' hne).1 y.1 e).1 hgd'
     refine⟨⟨g',og',t',hg',hgd',hgo',(hgs g').2 (.inr hgD')⟩,b',by rw[Z1r _ _ _ _ hdst];exact hsl',he',hB',u,hk.get hu (fun hq=>?_),Ty.mono hev hTu⟩;have:=hlt b' hq
     omega
theorem RI.step(hm:Stat P ops c K Lm Lk Φ T Mf Sf B1)(hb:backOK ops=true)(ho:ordOK ops=true)(hI:RI P ops c K Lm Lk Φ T Mf Sf B1 D E a w)(hs:D.size=ops.size){Q:Exit->Act->World->Prop}{i:Nat}{o:Oper}(hi:ops[i]? =some o)
   (hd':D.getD i true=false)(hr:readyAt ops D i):wpOp P ops Q i (fun a w=>∃E,RI P ops c K Lm Lk Φ T Mf Sf B1 (D.setIfInBounds i true) E a w) a w:=
 hI.step1 hm.toStat0 (fun i o hi hl=>by
   obtain⟨kd,h⟩:=hm.hst i o hi;exact loudless h hl) hb ho hs hi hd' hr (hm.hst i o hi)
theorem SA.drew{L:List Own}(h:SA c K L Φ E a w):SA c K L Φ E a w.drew:=
 ⟨h.n,h.d,h.wf,fun s T hs=>Ty.mono (Ev.of_keeps (Keeps.drew w).of_noX) (h.k s T hs),fun o ho=>Own.keep0 (h.l o ho) (Ev.of_keeps (Keeps.drew w).of_noX) (Keeps.drew w),h.ld,fun F hF=>(h.f F hF).keep (Keeps.drew w).of_noX,h.x,h.xs,h.keeps.step (Keeps.drew w) (fun _=>False.elim),h.may⟩
theorem FinS.use{Q:Exit->Act->World->Prop}: ∀(S:Sd) (K:List (Nat×Ty)) (M:List Own),FinS P c Lk Φ Q K M S->SA c K (M++Lk) Φ E a w->(S.map (·.1)).Nodup->
   (∀x∈S,∃b,slotOf a x.1= .pointer (some ⟨b,0,none⟩)/\E b/\c.W0.heap.size<=b/\(∀m∈M++Lk,m.b≠b)/\ ∃v:Value,w.heap[b]? =some (x.2.2.obj x.2.1 v)/\x.2.2.p E v w)->
   (∀x∈S,∀y∈S,x.1≠y.1->slotOf a x.1≠slotOf a y.1)->Q .normal a w
 |[],K,M,h,hs,_,_,_=>h E a w hs
 |(s,ety,T)::S,K,M,h,hs,hnd,hx,hd=>by
   obtain⟨b,hsl,hE,hW,hne,v,hv,hT⟩:=hx (s,ety,T) List.mem_cons_self;rw[List.map_cons,List.nodup_cons]at hnd;refine FinS.use S _ _ (h b) ?_ hnd.2 ?_ ?_
   · refine⟨hs.n,hs.d,hs.wf,?_,?_,?_,hs.f,hs.x,hs.xs,hs.keeps,?_⟩
     · intro s' T' hl
       simp only[look]at hl;cases hq:Nat.beq s s' with
       |true=>
         rw[hq,cond_true]at hl;injection hl with hl
         subst hl;have:=Nat.eq_of_beq_eq_true hq;subst this;exact hsl
       |false=>rw[hq,cond_false]at hl;exact hs.k s' T' hl
     · intro o ho
       rcases List.mem_cons.1 ho with rfl|ho
       · exact⟨hE,v,hv,hT⟩
       · exact hs.l o ho
     · rw[List.cons_append,List.map_cons,List.nodup_cons]
       refine⟨fun hm=>?_,hs.ld⟩;obtain⟨m,hm,e⟩:=List.mem_map.1 hm;exact hne m hm e
     · intro o ho
       rcases List.mem_cons.1 ho with rfl|ho
       · exact .inr hW
       · exact hs.may o ho
   · intro x hxm
     obtain⟨b',hsl',hE',hW',hne',rest⟩:=hx x (List.mem_cons_of_mem _ hxm);refine⟨b',hsl',hE',hW',fun m hm=>?_,rest⟩;rcases List.mem_cons.1 hm with rfl|hm
     · intro e
       subst e;refine hd (s,ety,T) List.mem_cons_self x (List.mem_cons_of_mem _ hxm) (fun e'=>hnd.1 ?_) (hsl.trans hsl'.symm);exact List.mem_map.2 ⟨x,hxm,e'.symm⟩
     · exact hne' m hm
   · exact fun x hxm y hym=>hd x (List.mem_cons_of_mem _ hxm) y (List.mem_cons_of_mem _ hym)
theorem ZfS{n:Nat}(hst: ∀i o,ops[i]? =some o->∃kd,St1 P ops Lk Φ i o (kAt ops.toList T K i) (Mf i) (Sf i) (T i) (Mf (i+1)) (Sf (i+1)) kd)(h0:Mf 0=Lm)(h1:Sf 0=[]):
   n<=ops.size->(Mf n).map (·.b)=Lm.map (·.b)/\((Sf n).map (·.1)).Nodup:=by
 induction n with
 |zero=>intro _;rw[h0,h1];exact⟨rfl,List.nodup_nil⟩
 |succ n ih=>
   intro hn;obtain⟨i1,i2⟩:=ih (by omega);obtain⟨kd,h⟩:=hst n _ (Array.getElem?_eq_getElem (by omega))
   generalize Mf (n+1)=M1 at h ⊢
   generalize Sf (n+1)=S1 at h ⊢
   generalize T n=T1 at h
   cases h with
   |typed hg h=>exact⟨i1,i2⟩
   |gated=>exact⟨i1,i2⟩
   |new=>exact⟨i1,i2⟩
   |sto s ety ty n x hg hdst g hgi hal hop hks hx hT hty hnS=>exact⟨i1,by rw[List.map_cons,List.nodup_cons];exact⟨hnS,i2⟩⟩
   |chg hg hl hmb h=>exact⟨hmb.trans i1,i2⟩
theorem ZbQ{Q:Exit->Act->World->Prop}(hok:regOK ops=true)(hdn:(ops.all fun o=>match o.dst with|some d=>decide (d<c.n)|none=>true)=true)
   (h:RT P ops Lk Φ 0 ops.toList K Lm [] (FinS P c Lk Φ Q)){E:Nat->Prop}{a:Act}{w:World}(hsa:SA c K (Lm++Lk) Φ E a w):
   ∃I:Array Bool->Act->World->Prop,(∀w',(w'=w\/w'=w.drew)->I (Array.replicate ops.size false) a w')/\
     (∀D a w i o,D.size=ops.size->I D a w->ops[i]? =some o->D.getD i true=false->readyAt ops D i->wpOp P ops Q i (I (D.setIfInBounds i true)) a w)/\
     (∀D a w,D.size=ops.size->(∀i,i<ops.size->D.getD i false=true)->I D a w->Q .normal a w):=by
 unfold regOK at hok;rw[Bool.and_eq_true]at hok;obtain⟨hb,ho⟩:=hok;obtain⟨T,Mf,Sf,kf,hM0,hS0,hst,hfin⟩:=h.out;have hst': ∀i o,ops[i]? =some o->∃kd,St1 P ops Lk Φ i o (kAt ops.toList T K i) (Mf i) (Sf i) (T i) (Mf (i+1)) (Sf (i+1)) kd:=fun i o hi=>⟨kf i,by
   have:=hst i o (by simpa using hi)
   rwa [Nat.zero_add]at this⟩
 have hS:Stat P ops c K Lm Lk Φ T Mf Sf w.heap.size:=by
   refine⟨⟨fun i hi=>(ZfS hst' hM0 hS0 hi).1,fun i hi=>(ZfS hst' hM0 hS0 hi).2,hsa.ld,fun m hm=>Z1d (hsa.l m hm).2.choose_spec.1,hsa.may,?_,hsa.keeps.size⟩,hst'⟩;intro i o d hi hd;have:=Array.all_eq_true_iff_forall_mem.1 hdn o (Array.mem_of_getElem? hi);rw[hd]at this
   simpa using this
 refine⟨fun D a w'=>∃E,RI P ops c K Lm Lk Φ T Mf Sf w.heap.size D E a w',?_,?_,?_⟩
 · intro w' hw'
   have hs':SA c K (Lm++Lk) Φ E a w':=by
     rcases hw' with rfl|rfl
     · exact hsa
     · exact hsa.drew
   have hno: ∀j,¬(Array.replicate ops.size false).getD j false=true:=by
     intro j;rw[Array.getD_eq_getD_getElem?,Array.getElem?_replicate]
     split<;>simp
   refine⟨E,hs'.n,hs'.d,hs'.wf,fun j hj=>absurd hj (hno j),fun s T' hs _=>hs'.k s T' hs,fun j o d _ hj=>absurd hj (hno j),fun m hm=>hs'.l m (List.mem_append_right _ hm),hs'.f,?_,fun j o d t _ _ hj=>absurd hj (hno j),fun j1 _ _ _ _ _ _ _ _ _ _ _ _ hj=>absurd hj (hno j1),hs'.x,hs'.keeps,?_⟩
   · intro i hi hc
     have hc': ∀j o,ops[j]? =some o->isLoud o=true->¬(0<=j/\j<0+i):=fun j o hj hl hji=>hno j ((hc j o hj hl).2 (by omega));obtain⟨e1,e2⟩:=ZcZ (Mf:=Mf) (Sf:=Sf) (fun i o hi hl=>by obtain⟨kd,h⟩:=hst' i o hi;exact loudless h hl) i 0 (by omega) hc';rw[Nat.zero_add]at e1 e2;rw[e1,e2,hM0,hS0];exact⟨fun m hm=>hs'.l m (List.mem_append_left _ hm),fun x hx=>by cases hx⟩
   · rcases hw' with rfl|rfl<;>exact Nat.le_refl _
 · rintro D a' w' i o hs ⟨E',hI⟩ hi hd hr
   exact hI.step hS hb ho hs hi hd hr
 · rintro D a' w' hs hall ⟨E',hI⟩
   have hcond: ∀j o,ops[j]? =some o->isLoud o=true->(D.getD j false=true↔j<ops.size):=fun j o hj _=>⟨fun _=>(Array.getElem?_eq_some_iff.1 hj).1,fun h=>hall j h⟩;obtain⟨m1,m2⟩:=hI.m ops.size (Nat.le_refl _) hcond;have hlen:ops.toList.length=ops.size:=by simp
   rw[hlen]at hfin;have hMb:=hS.hMb ops.size (Nat.le_refl _);have hmb: ∀m∈Mf ops.size++Lk,∃m'∈Lm++Lk,m'.b=m.b:=by
     intro m hm;rcases List.mem_append.1 hm with hm|hm
     · have:m.b∈(Mf ops.size).map (·.b):=List.mem_map_of_mem hm
       rw[hMb]at this;obtain⟨m0,h0,e0⟩:=List.mem_map.1 this;exact⟨m0,List.mem_append_left _ h0,e0⟩
     · exact⟨m,List.mem_append_right _ hm,rfl⟩
   refine FinS.use (Sf ops.size) _ _ hfin (E:=E') (a:=a') (w:=w') ?_ (hS.hSn _ (Nat.le_refl _)) ?_ ?_
   · refine⟨hI.n,hI.d,hI.wf,?_,?_,?_,hI.f,hI.x,hsa.xs,hI.keeps,?_⟩
     · intro s T' hl
       have key: ∀n,n<=ops.size->∀T',look (kAt ops.toList T K n) s=some T'->(∃j oj,j<n/\ops[j]? =some oj/\oj.dst=some s/\T'=T j)\/((∀j oj,j<n->ops[j]? =some oj->oj.dst≠some s)/\look K s=some T'):=Z5x s;rcases key _ (Nat.le_refl _) T' hl with⟨j,oj,hj,hoj,hdj,rfl⟩|⟨hn,hk⟩
       · exact hI.t j oj s hoj (hall j hj) hdj
       · exact hI.k s T' hk fun j oj hoj _=>hn j oj (Array.getElem?_eq_some_iff.1 hoj).1 hoj
     · intro m hm
       rcases List.mem_append.1 hm with hm|hm
       · exact m1 m hm
       · exact hI.l m hm
     · rw[List.map_append,hMb,<-List.map_append]
       exact hsa.ld
     · intro m hm
       obtain⟨m',hm',e⟩:=hmb m hm;rw[<-e];exact hsa.may m' hm'
   · intro x hx
     obtain⟨_,b,h1,h2,h3,h4⟩:=m2 x hx;refine⟨b,h1,h2,Nat.le_trans hsa.keeps.size h3,fun m hm e=>?_,h4⟩;obtain⟨m',hm',e'⟩:=hmb m hm;have:=hS.lt m' hm'
     omega
   · intro x hx y hy hne
     obtain⟨⟨g1,o1,t1,a1,a2,a3,a4⟩,_⟩:=m2 x hx;obtain⟨⟨g2,o2,t2,b1,b2,b3,b4⟩,_⟩:=m2 y hy;refine hI.fd g1 g2 o1 o2 _ _ t1 t2 (fun e=>hne ?_) a1 b1 a3 b3 a4 b4 a2 b2;subst e;rw[a1]at b1;injection b1 with b1
     subst b1;rw[a2]at b2;injection b2
theorem J.region{id:Nat}{dr:Bool}{Q:Exit->Act->World->Prop}(hmx:P.follows .mixedOrders=true)(hok:regOK ops=true)(hdn:(ops.all fun o=>match o.dst with|some d=>decide (d<c.n)|none=>true)=true)
  (h:RT P ops Lk Φ 0 ops.toList K Lm [] (FinS P c Lk Φ Q)):J P c K (Lm++Lk) Φ (.region id ops dr) Q:=by
 refine⟨?_⟩;intro E a w hsa;obtain⟨I,h0,h1,h2⟩:=ZbQ hok hdn h hsa;unfold regOK at hok;rw[Bool.and_eq_true]at hok;exact Z9P hmx hok.1 I h0 h1 h2
end
end Go.Vc

namespace Go.Vc
open Go
section
variable{P:Program}{c:Ctx}{K:List (Nat×Ty)}{L:List Own}{Φ:List (World->Prop)}{Q:Exit->Act->World->Prop}
structure JX (c:Ctx) (K:List (Nat×Ty)) (L:List Own) (Φ:List (World->Prop)) (e:Exit) (Q:Exit->Act->World->Prop):Prop where
 out: ∀E a w,SA c K L Φ E a w->Q e a w
theorem J.seq{x y:Code}(h:J P c K L Φ x (Exit.then (y.wp P Q) Q)):J P c K L Φ (.seq x y) Q:=⟨fun E a w hs=>wp_seq (h.out E a w hs)⟩
theorem J.skip(h:JX c K L Φ .normal Q):J P c K L Φ .skip Q:=⟨fun E a w hs=>wp_skip (h.out E a w hs)⟩
theorem J.ret(h:JX c K L Φ .ret Q):J P c K L Φ .ret Q:=⟨fun E a w hs=>wp_ret (h.out E a w hs)⟩
theorem J.exit{id:Nat}(h:JX c K L Φ (.exit id) Q):J P c K L Φ (.exit id) Q:=⟨fun E a w hs=>wp_exit (h.out E a w hs)⟩
theorem J.block{id:Nat}{x:Code}(h:J P c K L Φ x (Exit.inBlock id Q)):J P c K L Φ (.block id x) Q:=⟨fun E a w hs=>wp_block (h.out E a w hs)⟩
theorem JX.next{y:Code}(h:J P c K L Φ y Q):JX c K L Φ .normal (Exit.then (y.wp P Q) Q):=⟨h.out⟩
theorem JX.ret_pass{N:Act->World->Prop}(h:JX c K L Φ .ret Q):JX c K L Φ .ret (Exit.then N Q):=⟨h.out⟩
theorem JX.exit_pass{id:Nat}{N:Act->World->Prop}(h:JX c K L Φ (.exit id) Q):JX c K L Φ (.exit id) (Exit.then N Q):=⟨h.out⟩
theorem JX.ret_block{id:Nat}(h:JX c K L Φ .ret Q):JX c K L Φ .ret (Exit.inBlock id Q):=⟨h.out⟩
theorem JX.normal_block{id:Nat}(h:JX c K L Φ .normal Q):JX c K L Φ .normal (Exit.inBlock id Q):=⟨h.out⟩
theorem JX.hit{id:Nat}(h:JX c K L Φ .normal Q):JX c K L Φ (.exit id) (Exit.inBlock id Q):=⟨fun E a w hs=>by
 have:=h.out E a w hs
 simpa [Exit.inBlock] using this⟩
theorem JX.miss{id id':Nat}(hne:Nat.beq id' id=false)(h:JX c K L Φ (.exit id') Q):JX c K L Φ (.exit id') (Exit.inBlock id Q):=⟨fun E a w hs=>by
 have:=h.out E a w hs;have hne': ¬id'=id:=fun e=>by subst e;rw[Nat.beq_refl]at hne;cases hne
 simpa [Exit.inBlock,hne'] using this⟩
theorem Z2c{E:Nat->Prop}{a:Act}{w:World}(hs:SA c K L Φ E a w){x:Operand}{T:Ty}(h:opTy K x=some T):T.p E (a.eval x) w:=by
 cases x with
 |tmp s=>exact hs.k s T h
 |const v=>simp only[opTy,Option.some.injEq]at h;subst h;rfl
 |global g=>simp only[opTy,Option.some.injEq]at h;subst h;rfl
 |func f=>simp only[opTy,Option.some.injEq]at h;subst h;rfl
theorem J.cond{x:Operand}{b:Bool}{y z:Code}(h:opTy K x=some (.is (.bool b)))(ht:b=true->J P c K L Φ y Q)(hf:b=false->J P c K L Φ z Q):J P c K L Φ (.cond x y z) Q:=
 ⟨fun E a w hs=>wp_cond_split (Z2c hs h) (fun e=>(ht e).out E a w hs) (fun e=>(hf e).out E a w hs)⟩
theorem J.cut{K1:List (Nat×Ty)}{L1:List Own}{Φ1:List (World->Prop)}{x y:Code}(h:J P c K L Φ x (Exit.then (fun a w=>∃E,SA c K1 L1 Φ1 E a w) Q))(hy:J P c K1 L1 Φ1 y Q):J P c K L Φ (.seq x y) Q:=
 ⟨fun E a w hs=>wp_seq (wp_mono (h.out E a w hs) fun e a w hq=>by
  cases e with
  |normal=>obtain⟨E,hs⟩:=hq;exact hy.out E a w hs
  |_=>exact hq)⟩
theorem JX.mid{K1:List (Nat×Ty)}{L1:List Own}{Φ1:List (World->Prop)}(h: ∀E a w,SA c K L Φ E a w->SA c K1 L1 Φ1 E a w):JX c K L Φ .normal (Exit.then (fun a w=>∃E,SA c K1 L1 Φ1 E a w) Q):=⟨fun E a w hs=>⟨E,h E a w hs⟩⟩
theorem SA.sub{K':List (Nat×Ty)}{L':List Own}{Φ':List (World->Prop)}{E:Nat->Prop}{a:Act}{w:World}(h:SA c K L Φ E a w)(hK: ∀s T,look K' s=some T->look K s=some T)
  (hL: ∀o∈L',o∈L)(hn:(L'.map (·.b)).Nodup)(hΦ: ∀F∈Φ',F∈Φ):SA c K' L' Φ' E a w:=
 ⟨h.n,h.d,h.wf,fun s T hs=>h.k s T (hK s T hs),fun o ho=>h.l o (hL o ho),hn,fun F hF=>h.f F (hΦ F hF),h.x,h.xs,h.keeps,fun o ho=>h.may o (hL o ho)⟩
inductive Sel (K:List (Nat×Ty)):List Nat->List (Nat×Ty)->Prop
 |nil:Sel K [] []
 |cons {s:Nat} {ss:List Nat} {T:Ty} {K':List (Nat×Ty)} (h:look K s=some T) (r:Sel K ss K'):Sel K (s::ss) ((s,T)::K')
theorem Sel.look{ss:List Nat}{K':List (Nat×Ty)}(h:Sel K ss K'): ∀s T,Vc.look K' s=some T->Vc.look K s=some T:=by
 induction h with
 |nil=>intro s T h;cases h
 |cons h r ih=>
   rename_i s ss T K';intro s' T' hl;simp only[Vc.look]at hl;cases hq:Nat.beq s s' with
   |true=>
     rw[hq,cond_true]at hl;injection hl with hl
     subst hl;rw[<-Nat.eq_of_beq_eq_true hq];exact h
   |false=>rw[hq,cond_false]at hl;exact ih s' T' hl
theorem J.sel{x:Code}(ss:List Nat){K':List (Nat×Ty)}(h:Sel K ss K')(hj:J P c K' L Φ x Q):J P c K L Φ x Q:=
 ⟨fun E a w hs=>hj.out E a w (hs.sub h.look (fun _=>id) hs.ld (fun _=>id))⟩
inductive Pick (L:List Own):List Own->List Own->Prop
 |done:Pick L L []
 |take {R R' M:List Own} {o:Own} (r:Pick L R M) (h: ∃A B,R=A++o::B/\R'=A++B):Pick L R' (M++[o])
theorem J.subL{x:Code}{L':List Own}(hL: ∀o∈L',o∈L)(hn:(L.map (·.b)).Nodup->(L'.map (·.b)).Nodup)(hj:J P c K L' Φ x Q):J P c K L Φ x Q:=
 ⟨fun E a w hs=>hj.out E a w (hs.sub (fun _ _=>id) hL (hn hs.ld) (fun _=>id))⟩
theorem J.subΦ{x:Code}{Φ':List (World->Prop)}(hΦ: ∀F∈Φ',F∈Φ)(hj:J P c K L Φ' x Q):J P c K L Φ x Q:=
 ⟨fun E a w hs=>hj.out E a w (hs.sub (fun _ _=>id) (fun _=>id) hs.ld hΦ)⟩
theorem J.open_{x:Code}{s:Nat}{R:Value->World->Prop}(h:look K s=some (.rep R))(hj: ∀v,(∃w,R v w)->J P c ((s,.is v)::K) L (R v::Φ) x Q):J P c K L Φ x Q:=by
 refine⟨?_⟩;intro E a w hs;have hR:Pers E w (R (slotOf a s)):=hs.k s _ h;refine(hj (slotOf a s) ⟨w,hR.now⟩).out E a w ⟨hs.n,hs.d,hs.wf,fun s' T' hl=>?_,hs.l,hs.ld,fun F hF=>?_,hs.x,hs.xs,hs.keeps,hs.may⟩
 · simp only[look]at hl
   cases hq:Nat.beq s s' with
   |true=>
     rw[hq,cond_true]at hl;injection hl with hl
     subst hl;rw[<-Nat.eq_of_beq_eq_true hq]
     rfl
   |false=>rw[hq,cond_false]at hl;exact hs.k s' T' hl
 · rcases List.mem_cons.1 hF with rfl|hF
   · exact hR
   · exact hs.f F hF
theorem J.fact{x:Code}(F:World->Prop)(hF: ∀E w,(∀G∈Φ,Pers E w G)->(∀o∈L,o.at E w)->Pers E w F)(hj:J P c K L (F::Φ) x Q):J P c K L Φ x Q:=
 ⟨fun E a w hs=>hj.out E a w ⟨hs.n,hs.d,hs.wf,hs.k,hs.l,hs.ld,fun G hG=>by
  rcases List.mem_cons.1 hG with rfl|hG
  · exact hF E w hs.f hs.l
  · exact hs.f G hG,hs.x,hs.xs,hs.keeps,hs.may⟩⟩
theorem J.loop{α:Type}{body:Code}(Kf:α->List (Nat×Ty))(Lf:α->List Own)(Φf:α->List (World->Prop))(inv:α->Prop)(μ:α->Nat)(x0:α)
   (h0:Kf x0=K/\Lf x0=L/\Φf x0=Φ)(hi:inv x0)
   (h: ∀x,inv x->J P c (Kf x) (Lf x) (Φf x) body (Exit.then (fun a w=>∃x',inv x'/\μ x'<μ x/\ ∃E,SA c (Kf x') (Lf x') (Φf x') E a w) Q)):J P c K L Φ (.loop body) Q:=by
 refine⟨?_⟩;intro E a w hs;obtain⟨rfl,rfl,rfl⟩:=h0;refine wp_loop_ghost (fun n a w=>∃x,inv x/\μ x=n/\ ∃E,SA c (Kf x) (Lf x) (Φf x) E a w) (μ x0) ⟨x0,hi,rfl,E,hs⟩ ?_;rintro n a w ⟨x,hx,rfl,E,hs⟩;refine wp_mono ((h x hx).out E a w hs) ?_;intro e a' w' hq;cases e with
 |normal=>
   obtain⟨x',h1,h2,h3⟩:=hq;exact⟨μ x',h2,x',h1,rfl,h3⟩
 |_=>exact hq
theorem JX.round{α:Type}{Kf:α->List (Nat×Ty)}{Lf:α->List Own}{Φf:α->List (World->Prop)}{inv:α->Prop}{μ:α->Nat}{x:α}(x':α)(hi:inv x')(hμ:μ x'<μ x)
  (ss:List Nat)(hK:Sel K ss (Kf x'))(hL:Lf x'=L)(hΦ: ∀F∈Φf x',F∈Φ):JX c K L Φ .normal (Exit.then (fun a w=>∃x',inv x'/\μ x'<μ x/\ ∃E,SA c (Kf x') (Lf x') (Φf x') E a w) Q):=
 ⟨fun E a w hs=>⟨x',hi,hμ,E,hs.sub hK.look (fun o ho=>by rw[<-hL];exact ho) (by rw[hL];exact hs.ld) hΦ⟩⟩
structure JO (P:Program) (c:Ctx) (K:List (Nat×Ty)) (L:List Own) (Φ:List (World->Prop)) (ops:Array Oper) (l:List Oper) (Q:Exit->Act->World->Prop):Prop where
 out: ∀E a w,SA c K L Φ E a w->wpList P ops Q l a w
theorem J.plain{id:Nat}{l:List Oper}(h:JO P c K L Φ l.toArray l Q):J P c K L Φ (.region id l.toArray false) Q:=⟨fun E a w hs=>wp_region_lit (h.out E a w hs)⟩
theorem JO.nil{ops:Array Oper}(h:JX c K L Φ .normal Q):JO P c K L Φ ops [] Q:=⟨fun E a w hs=>h.out E a w hs⟩
theorem SA.put{E E':Nat->Prop}{a:Act}{w w':World}{dst:Option Nat}{v:Value}{T:Ty}{L':List Own}(hs:SA c K L Φ E a w)(hev:Ev E w E' w')(hwf: ∀b,E' b->b<w'.heap.size)(hT:T.p E' v w')(hd: ∀d,dst=some d->d<c.n)
   (hL: ∀o∈L',o.at E' w')(hn:(L'.map (·.b)).Nodup)(hk:Keeps c.X0 c.W0 w')(hm: ∀o∈L',c.X0 o.b\/c.W0.heap.size<=o.b):SA c (putK dst T K) L' Φ E' (a.put dst v) w':=by
 refine⟨by rw[Z7l];exact hs.n,by rw[Z5K];exact hs.d,hwf,?_,hL,hn,fun F hF=>(hs.f F hF).ev hev,fun b hb=>(hev.same b (hs.wf b (hs.x b hb))).2 (hs.x b hb),hs.xs,hk,hm⟩;intro s T' hl;cases dst with
 |none=>exact Ty.mono hev (hs.k s T' hl)
 |some d=>
   simp only[putK,look]at hl;cases hq:Nat.beq d s with
   |true=>
     rw[hq,cond_true]at hl;injection hl with hl
     subst hl;rw[<-Nat.eq_of_beq_eq_true hq];rw[show(a.put (some d) v).tmps.getD d undef=v from Z3y a d v (by rw[hs.n];exact hd d rfl)];exact hT
   |false=>
     rw[hq,cond_false]at hl;rw[show(a.put (some d) v).tmps.getD s undef=a.tmps.getD s undef from Z1r a (some d) v s (fun e=>by injection e with e;subst e;rw[Nat.beq_refl]at hq;cases hq)];exact Ty.mono hev (hs.k s T' hl)
theorem JO.typed{ops:Array Oper}{o:Oper}{rest:List Oper}{T:Ty}(hg:o.guard=none)(hd: ∀d,o.dst=some d->d<c.n)(h:Ob P L Φ (Kn K) o T)(hn:JO P c (putK o.dst T K) L Φ ops rest Q):JO P c K L Φ ops (o::rest) Q:=by
 refine⟨?_⟩;intro E a w hs;refine wpList_plain hg fun K' hK=>?_;unfold Oper.wp;refine Runs.upon (h E w a.eval ⟨hs.wf,hs.l,hs.f,fun x T' _ hx=>Z2c hs hx⟩) fun v w' ⟨hk,hT⟩=>hK _ _ (hn.out E _ _ ?_);have hev:Ev E w E w':=Ev.of_keeps hk.of_noX;exact hs.put hev (fun b hb=>Nat.lt_of_lt_of_le (hs.wf b hb) hk.size) hT hd (fun o ho=>Own.keep0 (hs.l o ho) hev hk) hs.ld (hs.keeps.step hk fun _=>False.elim) hs.may
theorem JO.chg{ops:Array Oper}{o:Oper}{rest:List Oper}{T:Ty}{L':List Own}(hg:o.guard=none)(hd: ∀d,o.dst=some d->d<c.n)(hm:L'.map (·.b)=L.map (·.b))(h:ObM P [] Φ (Kn K) L o T L')(hn:JO P c (putK o.dst T K) L' Φ ops rest Q):JO P c K L Φ ops (o::rest) Q:=by
 refine⟨?_⟩;intro E a w hs;refine wpList_plain hg fun K' hK=>?_;unfold Oper.wp;refine Runs.upon (h E w a.eval ⟨hs.wf,(fun _ h=>(List.not_mem_nil h).elim),hs.f,fun x T' _ hx=>Z2c hs hx⟩ hs.l hs.ld) fun v w' ⟨hk,hT,hL⟩=>hK _ _ (hn.out E _ _ ?_);have hsub: ∀b,b∈L.map (·.b)->E b:=fun b hb=>by obtain⟨m,hm,rfl⟩:=List.mem_map.1 hb;exact(hs.l m hm).1
 have hmay: ∀b,b∈L.map (·.b)->c.X0 b\/c.W0.heap.size<=b:=fun b hb=>by obtain⟨m,hm,rfl⟩:=List.mem_map.1 hb;exact hs.may m hm
 have hev:Ev E w E w':=Ev.of_keeps (hk.mono fun b _=>hsub b);refine hs.put hev (fun b hb=>Nat.lt_of_lt_of_le (hs.wf b hb) hk.size) hT hd hL (by rw[hm];exact hs.ld) (hs.keeps.step hk hmay) fun o ho=>?_;exact hmay o.b (by rw[<-hm];exact List.mem_map_of_mem ho)
theorem SA.new{E:Nat->Prop}{a:Act}{w:World}{d:Nat}{t:TypeId}{T:Ty}{u:Value}(hs:SA c K L Φ E a w)(hd:d<c.n)(hT:T.p E u w)(hno:T.isOb=false):
   ∃E',SA c ((d,.is (.pointer (some ⟨w.heap.size,0,none⟩)))::K) (⟨w.heap.size,t,T⟩::L) Φ E' (a.put (some d) (.pointer (some ⟨w.heap.size,0,none⟩))) (w.alloc (.cells u.cells t)):=by
 have hk:=Keeps.alloc w (.cells u.cells t);have hev:Ev E w (fun b=>E b\/b=w.heap.size) (w.alloc (.cells u.cells t)):=⟨hk.of_noX,fun b hb=>⟨fun h=>h.elim id (fun e=>absurd hb (by omega)),.inl⟩⟩;refine⟨fun b=>E b\/b=w.heap.size,hs.put (dst:=some d) (T:=.is (.pointer (some ⟨w.heap.size,0,none⟩))) hev ?_ rfl (fun d' e=>by injection e with e;omega) ?_ ?_ (hs.keeps.step hk fun _=>False.elim) ?_⟩
 · rintro b (hb|rfl)
   · rw[Z2t];have:=hs.wf b hb;omega
   · rw[Z2t];omega
 · intro o ho
   rcases List.mem_cons.1 ho with rfl|ho
   · exact⟨.inr rfl,u,(Z2i w _).trans (by rw[Ty.obj_cells hno]),Ty.mono hev hT⟩
   · exact Own.keep0 (hs.l o ho) hev hk
 · rw[List.map_cons,List.nodup_cons]
   refine⟨fun h=>?_,hs.ld⟩;obtain⟨m,hm,e⟩:=List.mem_map.1 h;have h1:=hs.wf m.b (hs.l m hm).1;have e':m.b=w.heap.size:=e
   omega
 · intro o ho
   rcases List.mem_cons.1 ho with rfl|ho
   · exact .inr hs.keeps.size
   · exact hs.may o ho
theorem JO.box{ops:Array Oper}{rest:List Oper}{d:Nat}{t ty:TypeId}{pos:String}{after:Array Edge}{x:Operand}{T:Ty}(hx:opTy K x=some T)(hd:Nat.blt d c.n=true)
  (hn: ∀b,JO P c ((d,.is (.pointer (some ⟨b,0,none⟩)))::K) (⟨b,t,T⟩::L) Φ ops rest Q)(hno:T.isOb=false:=by rfl):JO P c K L Φ ops (⟨some d,.box t x,ty,pos,after,none⟩::rest) Q:=by
 refine⟨?_⟩;intro E a w hs;refine wpList_plain rfl fun K' hK=>?_;obtain⟨E',h⟩:=hs.new (t:=t) (Nat.le_of_ble_eq_true hd) (Z2c hs hx) hno;exact hK _ _ ((hn _).out E' _ _ h)
def zeroOf(P:Program)(t:TypeId):Option Value:=(P.info? t).bind (·.zero)
theorem JO.alloc{ops:Array Oper}{rest:List Oper}{d:Nat}{t ty:TypeId}{pos:String}{after:Array Edge}{z:Value}(hz:zeroOf P t=some z)(hd:Nat.blt d c.n=true)
   (hn: ∀b,JO P c ((d,.is (.pointer (some ⟨b,0,none⟩)))::K) (⟨b,t,.is z⟩::L) Φ ops rest Q):JO P c K L Φ ops (⟨some d,.alloc t,ty,pos,after,none⟩::rest) Q:=by
 refine⟨?_⟩;intro E a w hs;refine wpList_plain rfl fun K' hK=>?_;obtain⟨E',h⟩:=hs.new (t:=t) (T:=.is z) (u:=z) (Nat.le_of_ble_eq_true hd) rfl rfl;unfold Oper.wp;unfold zeroOf at hz;rcases ZaI (P:=P) ⟨some d,.alloc t,ty,pos,after,none⟩ a.eval w t rfl with⟨i,z',hi,hz',hrun⟩|⟨h0,_⟩
 · rw[hi,Option.bind_some,hz']at hz
   injection hz with hz
   subst hz;rw[hrun];exact hK _ _ ((hn _).out E' _ _ h)
 · unfold zcells at h0
   cases hi:P.info? t with
   |none=>rw[hi]at hz;cases hz
   |some i=>rw[hi,Option.bind_some]at hz h0;rw[hz]at h0;cases h0
end
end Go.Vc

namespace Go.Vc
open Go
def TyAll(E:Nat->Prop)(w:World):List Ty->List Value->Prop
 |[],[]=>True
 |A::As,v::vs=>A.p E v w/\TyAll E w As vs
 |_,_=>False
structure CallTy (P:Program) (f:FuncId) (As:List Ty) (R:Ty):Prop where
 enter: ∀args w,(callFunc f args).run P w= .ok (.enter f args) w
 calls: ∀(E:Nat->Prop) (w:World) (vs:List Value),(∀b,E b->b<w.heap.size)->TyAll E w As vs->
   Calls P f vs.toArray w fun e w'=>∃v,e= .returned v/\Keeps noX w w'/\R.p E v w'
def Facts(L:List Own)(Φ:List (World->Prop))(E:Nat->Prop)(w:World):Prop:=(∀m∈L,m.at E w)/\ ∀F∈Φ,Pers E w F
def Sub(L:List Own)(Φ:List (World->Prop))(T A:Ty):Prop:=∀E v w,Facts L Φ E w->T.p E v w->A.p E v w
theorem Sub.rfl'{L:List Own}{Φ:List (World->Prop)}{T:Ty}:Sub L Φ T T:=fun _ _ _ _ h=>h
inductive Args (L:List Own) (Φ:List (World->Prop)) (H:Know):List Operand->List Ty->Prop
 |nil:Args L Φ H [] []
 |one {x:Operand} {A:Ty} {xs:List Operand} {As:List Ty} (h:H x A) (r:Args L Φ H xs As):Args L Φ H (x::xs) (A::As)
 |sub {x:Operand} {T A:Ty} {xs:List Operand} {As:List Ty} (h:H x T) (s:Sub L Φ T A) (r:Args L Φ H xs As):Args L Φ H (x::xs) (A::As)
section
variable{P:Program}{L:List Own}{Φ:List (World->Prop)}{H:Know}{dst:Option Nat}{ty:TypeId}{pos:String}{after:Array Edge}{g:Option (Nat×Bool)}
theorem Args.all{xs:List Operand}{As:List Ty}{E:Nat->Prop}{w:World}{ρ:Operand->Value}(hf:Facts L Φ E w)(h:Args L Φ H xs As)(hx: ∀x T,x∈xs->H x T->T.p E (ρ x) w):TyAll E w As (xs.map ρ):=by
 induction h with
 |nil=>trivial
 |one h r ih=>exact⟨hx _ _ List.mem_cons_self h,ih fun x T hm=>hx x T (List.mem_cons_of_mem _ hm)⟩
 |sub h s r ih=>exact⟨s _ _ _ hf (hx _ _ List.mem_cons_self h),ih fun x T hm=>hx x T (List.mem_cons_of_mem _ hm)⟩
theorem Z2B{o:Oper}{E:Nat->Prop}{w:World}{ρ:Operand->Value}(h:Pre L Φ H o E w ρ):Facts L Φ E w:=⟨h.l,h.f⟩
theorem Z2{x:Operand}{T:Ty}(h:H x T):Ob P L Φ H ⟨dst,.move x,ty,pos,after,g⟩ T:=
 fun _ w _ hp=>⟨Keeps.refl _ w,hp.x x T (by simp[Op.operands]) h⟩
theorem Z15{x:Operand}{T:Ty}(h:H x T):Ob P L Φ H ⟨dst,.assign x,ty,pos,after,g⟩ T:=
 fun _ w _ hp=>⟨Keeps.refl _ w,hp.x x T (by simp[Op.operands]) h⟩
theorem Z25{o:Oper}{V:Value}(h: ∀E w ρ,Pre L Φ H o E w ρ->(execOp ρ o).run P w= .ok (.value V) w):Ob P L Φ H o (.is V):=fun E w ρ hp=>by
 rw[h E w ρ hp];exact⟨.refl _ _,rfl⟩
theorem ZiR{x y z:Operand}{T:Ty}(hc:H x (.is (.bool true)))(h:H y T):Ob P L Φ H ⟨dst,.pick x y z,ty,pos,after,g⟩ T:=fun E w ρ hp=>by
 have h1:ρ x= .bool true:=hp.x x _ (by simp[Op.operands]) hc;simp only[execOp,h1,asBool];exact⟨.refl _ _,hp.x y T (by simp[Op.operands]) h⟩
theorem ZiJ{x y z:Operand}{T:Ty}(hc:H x (.is (.bool false)))(h:H z T):Ob P L Φ H ⟨dst,.pick x y z,ty,pos,after,g⟩ T:=fun E w ρ hp=>by
 have h1:ρ x= .bool false:=hp.x x _ (by simp[Op.operands]) hc;simp only[execOp,h1,asBool];exact⟨.refl _ _,hp.x z T (by simp[Op.operands]) h⟩
theorem Zn{x y:Operand}{c d:Bool}{π:Prop}(hx:H x (.is (.bool c)))(hy:H y (.opt π (.is (.bool d))))(hz:H (.const (.bool false)) (.is (.bool false)))(hπ:c=true->π):Ob P L Φ H ⟨dst,.pick x y (.const (.bool false)),ty,pos,after,g⟩ (.is (.bool (c&&d))):=Z25 fun E w ρ hp=>by
 have h1:ρ x= .bool c:=hp.x x _ (by simp[Op.operands]) hx;have h2:=hp.x y _ (by simp[Op.operands]) hy;have h3:ρ (.const (.bool false))= .bool false:=hp.x _ _ (by simp[Op.operands]) hz;cases c with
 |true=>
   have h4:ρ y= .bool d:=h2.1 (hπ rfl)
   simp[execOp,h1,asBool,h4]
 |false=>simp[execOp,h1,asBool,h3]
theorem ZF{x z:Operand}{c d:Bool}{π:Prop}(hx:H x (.is (.bool c)))(hz:H z (.opt π (.is (.bool d))))(hy:H (.const (.bool true)) (.is (.bool true)))(hπ:c=false->π):Ob P L Φ H ⟨dst,.pick x (.const (.bool true)) z,ty,pos,after,g⟩ (.is (.bool (c||d))):=Z25 fun E w ρ hp=>by
 have h1:ρ x= .bool c:=hp.x x _ (by simp[Op.operands]) hx;have h2:=hp.x z _ (by simp[Op.operands]) hz;have h3:ρ (.const (.bool true))= .bool true:=hp.x _ _ (by simp[Op.operands]) hy;cases c with
 |false=>
   have h4:ρ z= .bool d:=h2.1 (hπ rfl)
   simp[execOp,h1,asBool,h4]
 |true=>simp[execOp,h1,asBool,h3]
def fldOff(P:Program)(s:TypeId)(k:Nat):Option Nat:=
 match P.underlying s with
 |some (.struct fs)=>match fs[k]? with
   |some f=>match P.info? f.type with
     |some i=>if i.size=0 then none else some f.offset
     |none=>none
   |none=>none
 |_=>none
theorem Z4t(b off n:Nat):(⟨b,off,none⟩:Addr).add n=⟨b,off+n,none⟩:=by
 unfold Addr.add
 split
 · rename_i h;subst h;rfl
 · rfl
theorem ZfE{w:World}{s:TypeId}{k off b o:Nat}(h:fldOff P s k=some off):(Instr.fieldAt s (.pointer (some ⟨b,o,none⟩)) k).run P w= .ok (.pointer (some ⟨b,o+off,none⟩)) w:=by
 unfold fldOff at h;cases hu:P.underlying s with
 |none=>simp[hu]at h
 |some d=>
   cases d with
   |struct fs=>
     simp only[hu]at h;cases hf:fs[k]? with
     |none=>simp[hf]at h
     |some f=>
       simp only[hf]at h;cases hi:P.info? f.type with
       |none=>simp[hi]at h
       |some i=>
         simp only[hi]at h
         by_cases hz:i.size=0
         · simp[hz]at h
         · rw[if_neg hz]at h
           injection h with h
           subst h
           simp[Instr.fieldAt,run_underlying hu,hf,Instr.sureAddr,fieldPlace,sizeOf,typeInfo,hi,hz,Z4t]
   |_=>simp[hu]at h
theorem Z0{s:TypeId}{x:Operand}{k off b o:Nat}(hf:fldOff P s k=some off)(hx:H x (.is (.pointer (some ⟨b,o,none⟩)))):Ob P L Φ H ⟨dst,.fieldAddr s x k,ty,pos,after,g⟩ (.is (.pointer (some ⟨b,o+off,none⟩))):=
 Z25 fun E w ρ hp=>by
  have h1:ρ x= .pointer (some ⟨b,o,none⟩):=hp.x x _ (by simp[Op.operands]) hx
  simp[execOp,h1,ZfE hf]
theorem Z5{x:Operand}{p:Addr}(hx:H x (.is (.pointer (some p)))):Ob P L Φ H ⟨dst,.nilCheck x,ty,pos,after,g⟩ (.is (.pointer (some p))):=
 Z25 fun E w ρ hp=>by
  have h1:ρ x= .pointer (some p):=hp.x x _ (by simp[Op.operands]) hx
  simp[execOp,h1]
def szOf(P:Program)(t:TypeId):Option (Option Nat):=
 match P.underlying t with
 |some (.struct _)|some (.array ..)=>(P.info? t).map fun i=>some i.size
 |some _=>some none
 |none=>none
theorem Z6y{w:World}{t:TypeId}{p:Addr}{v:Value}(h:szOf P t=some none)(hc:w.cell? p=some v):(loadVar t p).run P w= .ok v w:=by
 unfold szOf at h;cases hu:P.underlying t with
 |none=>simp[hu]at h
 |some d=>
   rw[hu]at h;cases d<;>first
     |(simp[loadVar,isAgg,run_underlying hu,run_load,hc];done)
     |(cases hi:P.info? t<;>simp[hi]at h)
theorem Zag{w:World}{t:TypeId}{p:Addr}{cs:List Value}(h:szOf P t=some (some cs.length))(hc: ∀j v,cs[j]? =some v->w.cell? (p.add j)=some v):(loadVar t p).run P w= .ok (.agg cs.toArray) w:=by
 unfold szOf at h;have hl:=run_loadCells_list (P:=P) w p cs hc;cases hu:P.underlying t with
 |none=>simp[hu]at h
 |some d=>
   rw[hu]at h;cases d<;>first
     |(simp at h;done)
     |(cases hi:P.info? t with
        |none=>simp[hi]at h
        |some i=>
          simp only[hi,Option.map_some,Option.some.injEq]at h
          simp[loadVar,isAgg,run_underlying hu,sizeOf,typeInfo,hi,h,hl])
def Loads(P:Program)(L:List Own)(Φ:List (World->Prop))(t:TypeId)(p:Addr)(V:Value):Prop:=∀E w,Facts L Φ E w->(loadVar t p).run P w= .ok V w
theorem Z6b{t:TypeId}{x:Operand}{p:Addr}{V:Value}(hx:H x (.is (.pointer (some p))))(hl:Loads P L Φ t p V):Ob P L Φ H ⟨dst,.load t x,ty,pos,after,g⟩ (.is V):=
 Z25 fun E w ρ hp=>by
  have h1:ρ x= .pointer (some p):=hp.x x _ (by simp[Op.operands]) hx
  simp[execOp,h1,Instr.loadAt,Instr.sureAddr,hl E w (Z2B hp)]
theorem Z1I{w:World}{b off:Nat}{cs:Array Value}{t:TypeId}{fr:Nat×Nat}(h:w.heap[b]? =some (.cells cs t fr)):w.cell? ⟨b,off,none⟩=cs[off]? :=by
 simp[World.cell?,h]
theorem Z4u{m:Own}{E:Nat->Prop}{w:World}{V:Value}(h:m.at E w)(hT:m.T= .is V):w.heap[m.b]? =some (.cells V.cells m.ety (0,0)):=by
 obtain⟨_,v,hb,hv⟩:=h;rw[hT]at hv;rw[show v=V from hv,hT]at hb;exact hb
theorem ZgP{b off:Nat}{ety t:TypeId}{V v:Value}(hs:szOf P t=some none)(hm:⟨b,ety,.is V⟩∈L)(hv:V.cells[off]? =some v):Loads P L Φ t ⟨b,off,none⟩ v:=fun _ _ hf=>
 Z6y hs ((Z1I (Z4u (hf.1 _ hm) rfl)).trans hv)
theorem ZgT{b off n:Nat}{ety t:TypeId}{V:Value}{cs:List Value}(hs:szOf P t=some (some n))(hm:⟨b,ety,.is V⟩∈L)(hv:(V.cells.toList.drop off).take n=cs)(hn:cs.length=n):Loads P L Φ t ⟨b,off,none⟩ (.agg cs.toArray):=fun E w hf=>by
 subst hn;refine Zag hs fun j v hj=>?_;rw[Z4t,Z1I (Z4u (hf.1 _ hm) rfl)];rw[<-hv,List.getElem?_take]at hj
 split at hj
 · rw[List.getElem?_drop]at hj
   simpa using hj
 · cases hj
theorem Z3s{op:BinOp}{xt yt:TypeId}{x y:Operand}{A B V:Value}(hx:H x (.is A))(hy:H y (.is B))(h: ∀w,(do eqGuard op xt x y A B;binOp op xt A B:Sem Value).run P w= .ok V w):
   Ob P L Φ H ⟨dst,.binOp op xt x y yt,ty,pos,after,g⟩ (.is V):=
 Z25 fun E w ρ hp=>by
   have h1:ρ x=A:=hp.x x _ (by simp[Op.operands]) hx;have h2:ρ y=B:=hp.x y _ (by simp[Op.operands]) hy;have:=h w;simp only[execOp,h1,h2];simp only[Sem.run_bind,Sem.run_pure]at this ⊢;rw[this]
   rfl
section
variable{xt yt:TypeId}{x y:Operand}{k:IntKind}{a b:Int}
theorem Zu(hx:H x (.is (.int k a)))(hy:H y (.is (.int k b))):Ob P L Φ H ⟨dst,.binOp .eql xt x y yt,ty,pos,after,g⟩ (.is (.bool (a==b))):=
 Z3s hx hy fun w=>by simp[eqGuard,binOp,Op.intCmp]
theorem Z3e(hx:H x (.is (.int k a)))(hy:H y (.is (.int k b))):Ob P L Φ H ⟨dst,.binOp .neq xt x y yt,ty,pos,after,g⟩ (.is (.bool (a != b))):=
 Z3s hx hy fun w=>by simp[eqGuard,binOp,Op.intCmp]
theorem ZC(hx:H x (.is (.int k a)))(hy:H y (.is (.int k b))):Ob P L Φ H ⟨dst,.binOp .lss xt x y yt,ty,pos,after,g⟩ (.is (.bool (decide (a<b)))):=
 Z3s hx hy fun w=>by simp[eqGuard,binOp,Op.intCmp]
theorem Z3U(hx:H x (.is (.int k a)))(hy:H y (.is (.int k b))):Ob P L Φ H ⟨dst,.binOp .leq xt x y yt,ty,pos,after,g⟩ (.is (.bool (decide (a<=b)))):=
 Z3s hx hy fun w=>by simp[eqGuard,binOp,Op.intCmp]
theorem Z13(hx:H x (.is (.int k a)))(hy:H y (.is (.int k b))):Ob P L Φ H ⟨dst,.binOp .gtr xt x y yt,ty,pos,after,g⟩ (.is (.bool (decide (b<a)))):=
 Z3s hx hy fun w=>by simp[eqGuard,binOp,Op.intCmp]
theorem Z2Z(hx:H x (.is (.int k a)))(hy:H y (.is (.int k b))):Ob P L Φ H ⟨dst,.binOp .geq xt x y yt,ty,pos,after,g⟩ (.is (.bool (decide (b<=a)))):=
 Z3s hx hy fun w=>by simp[eqGuard,binOp,Op.intCmp]
theorem Z6F(hx:H x (.is (.int k a)))(hy:H y (.is (.int k b))):Ob P L Φ H ⟨dst,.binOp .add xt x y yt,ty,pos,after,g⟩ (.is (.int k (k.wrap (a+b)))):=
 Z3s hx hy fun w=>by simp[eqGuard,binOp,Op.intArith]
theorem Zai(hx:H x (.is (.int k a)))(hy:H y (.is (.int k b))):Ob P L Φ H ⟨dst,.binOp .sub xt x y yt,ty,pos,after,g⟩ (.is (.int k (k.wrap (a-b)))):=
 Z3s hx hy fun w=>by simp[eqGuard,binOp,Op.intArith]
theorem Zer(hx:H x (.is (.int k a)))(hy:H y (.is (.int k b))):Ob P L Φ H ⟨dst,.binOp .mul xt x y yt,ty,pos,after,g⟩ (.is (.int k (k.wrap (a*b)))):=
 Z3s hx hy fun w=>by simp[eqGuard,binOp,Op.intArith]
end
end
end Go.Vc

namespace Go.Vc
open Go
section
variable{P:Program}{L:List Own}{Φ:List (World->Prop)}{H:Know}{dst:Option Nat}{ty:TypeId}{pos:String}{after:Array Edge}{g:Option (Nat×Bool)}
theorem TyAll.append{E:Nat->Prop}{w:World}: ∀{As Bs:List Ty} {xs ys:List Value},TyAll E w As xs->TyAll E w Bs ys->TyAll E w (As++Bs) (xs++ys)
 |[],_,[],_,_,h=>h
 |_::_,_,_::_,_,⟨h1,h2⟩,h=>⟨h1,TyAll.append h2 h⟩
 |[],_,_::_,_,h,_=>h.elim
 |_::_,_,[],_,h,_=>h.elim
theorem TyAll.is{E:Nat->Prop}{w:World}: ∀(vs:List Value),TyAll E w (vs.map Ty.is) vs
 |[]=>trivial
 |_::vs=>⟨rfl,TyAll.is vs⟩
theorem Zjv{f:FuncId}{As:List Ty}{R:Ty}(hc:CallTy P f As R){E:Nat->Prop}{w:World}{vs:List Value}(hw: ∀b,E b->b<w.heap.size)(ht:TyAll E w As vs):
  Runs P ((callFunc f vs.toArray).run P w) fun v w'=>Keeps noX w w'/\R.p E v w':=by
 rw[hc.enter];refine Calls.mono (hc.calls E w vs hw ht) ?_;rintro e w' ⟨v,rfl,h⟩;exact h
theorem ZiT{cal:Operand}{f:FuncId}{xs:List Operand}{ats:Array TypeId}{As:List Ty}{fs cs:List Value}{R:Ty}(hf:H cal (.is (.func (.func f) fs.toArray cs.toArray)))(hc:CallTy P f (fs.map Ty.is++As++cs.map Ty.is) R)(ha:Args L Φ H xs As):
  Ob P L Φ H ⟨dst,.call {callee:=.value cal,args:=xs.toArray,argTypes:=ats},ty,pos,after,g⟩ R:=fun E w ρ hp=>by
 have h1:ρ cal= .func (.func f) fs.toArray cs.toArray:=hp.x cal _ (by simp[Op.operands,Call.operands]) hf;have hall:=ha.all (ρ:=ρ) (Z2B hp) fun x T hx=>hp.x x T (by simp[Op.operands,Call.operands,hx]);have h2:=Zjv hc hp.wf (((TyAll.is fs).append hall).append (TyAll.is cs));simp only[execOp,resolve,h1,Deferred.ofValue,invoke,Sem.run_bind,Sem.run_pure,Result.andThen_ok,List.map_toArray];rw[show fs.toArray++(xs.map ρ).toArray++cs.toArray=(fs++xs.map ρ++cs).toArray by simp];exact h2
theorem Zo{f:FuncId}{xs:List Operand}{ats:Array TypeId}{As:List Ty}{R:Ty}(hf:H (.func f) (.is (.func (.func f) #[] #[])))(hc:CallTy P f As R)(ha:Args L Φ H xs As):
  Ob P L Φ H ⟨dst,.call {callee:=.value (.func f),args:=xs.toArray,argTypes:=ats},ty,pos,after,g⟩ R:=
 ZiT (fs:=[]) (cs:=[]) hf (by simpa using hc) ha
theorem Z39{t:Operand}{A B:Ty}(h:H t (.tup2 A B)):Ob P L Φ H ⟨dst,.extract t 0,ty,pos,after,g⟩ A:=fun E w ρ hp=>by
 obtain⟨x,y,e,h1,h2⟩:=hp.x t _ (by simp[Op.operands]) h;simp only[execOp,e,Instr.extract];exact⟨.refl _ _,h1⟩
theorem Z3b{t:Operand}{A B:Ty}(h:H t (.tup2 A B)):Ob P L Φ H ⟨dst,.extract t 1,ty,pos,after,g⟩ B:=fun E w ρ hp=>by
 obtain⟨x,y,e,h1,h2⟩:=hp.x t _ (by simp[Op.operands]) h;simp only[execOp,e,Instr.extract];exact⟨.refl _ _,h2⟩
theorem Z2e{xt:TypeId}{x:Operand}{b:Bool}(h:H x (.is (.bool b))):Ob P L Φ H ⟨dst,.unOp .not xt x,ty,pos,after,g⟩ (.is (.bool (!b))):=
 Z25 fun E w ρ hp=>by
  have h1:ρ x= .bool b:=hp.x x _ (by simp[Op.operands]) h
  simp[execOp,h1,Op.unary]
theorem Zma{xt:TypeId}{x:Operand}{k:IntKind}{n:Int}(h:H x (.is (.int k n))):Ob P L Φ H ⟨dst,.unOp .neg xt x,ty,pos,after,g⟩ (.is (.int k (k.wrap (0-n)))):=
 Z25 fun E w ρ hp=>by
  have h1:ρ x= .int k n:=hp.x x _ (by simp[Op.operands]) h
  simp[execOp,h1,Op.unary,Op.intArith]
def seq(s t:ByteArray):Bool:=s.toList==t.toList
theorem Z1L{xt yt:TypeId}{x y:Operand}{s t:ByteArray}(hx:H x (.is (.string s)))(hy:H y (.is (.string t))):Ob P L Φ H ⟨dst,.binOp .eql xt x y yt,ty,pos,after,g⟩ (.is (.bool (seq s t))):=
 Z3s hx hy fun w=>by simp[eqGuard,binOp,Op.stringOp,seq]
theorem Z4Z{xt yt:TypeId}{x y:Operand}{s t:ByteArray}(hx:H x (.is (.string s)))(hy:H y (.is (.string t))):Ob P L Φ H ⟨dst,.binOp .neq xt x y yt,ty,pos,after,g⟩ (.is (.bool (!seq s t))):=
 Z3s hx hy fun w=>by simp[eqGuard,binOp,Op.stringOp,seq]
theorem ZE{t e:TypeId}{x:Operand}{a:Option Addr}{n cap:Nat}(hu:P.underlying t=some (.slice e))(hx:H x (.is (.slice a n cap))):Ob P L Φ H ⟨dst,.call {callee:=.builtin .len,args:= #[x],argTypes:= #[t]},ty,pos,after,g⟩ (.is (.int .i64 n)):=
 Z25 fun E w ρ hp=>by
  have h1:ρ x= .slice a n cap:=hp.x x _ (by simp[Op.operands,Call.operands]) hx
  simp[execOp,resolve,invoke,builtin,Builtin.len_,run_underlying hu,h1,goInt]
theorem Z1T{t:TypeId}{x:Operand}{s:ByteArray}(hu:P.underlying t=some .string)(hx:H x (.is (.string s))):Ob P L Φ H ⟨dst,.call {callee:=.builtin .len,args:= #[x],argTypes:= #[t]},ty,pos,after,g⟩ (.is (.int .i64 s.size)):=
 Z25 fun E w ρ hp=>by
  have h1:ρ x= .string s:=hp.x x _ (by simp[Op.operands,Call.operands]) hx
  simp[execOp,resolve,invoke,builtin,Builtin.len_,run_underlying hu,h1,goInt]
theorem Zls{x y:Operand}{ats:Array TypeId}{k k':IntKind}{a b:Int}(hx:H x (.is (.int k a)))(hy:H y (.is (.int k' b))):Ob P L Φ H ⟨dst,.call {callee:=.builtin .max,args:= #[x,y],argTypes:=ats},ty,pos,after,g⟩ (.is (.int k (if b>a then b else a))):=
 Z25 fun E w ρ hp=>by
  have h1:ρ x= .int k a:=hp.x x _ (by simp[Op.operands,Call.operands]) hx;have h2:ρ y= .int k' b:=hp.x y _ (by simp[Op.operands,Call.operands]) hy
  simp[execOp,resolve,invoke,builtin,Builtin.max_,Builtin.max2,h1,h2]
def elSize(P:Program)(t:TypeId):Option Nat:=match P.underlying t with|some (.slice e)=>(P.info? e).map (·.size)|_=>none
theorem Z9{t:TypeId}{x i:Operand}{a:Option Addr}{b o len cap sz:Nat}{k:IntKind}{n:Int}(hs:elSize P t=some sz)(hx:H x (.is (.slice a len cap)))(ha:a=some ⟨b,o,none⟩)(hi:H i (.is (.int k n)))(h0:0<=n)(h1:n<len):
   Ob P L Φ H ⟨dst,.indexAddr t x i,ty,pos,after,g⟩ (.is (.pointer (some ⟨b,o+n.toNat*sz,none⟩))):=
 Z25 fun E w ρ hp=>by
   subst ha;have e1:ρ x= .slice (some ⟨b,o,none⟩) len cap:=hp.x x _ (by simp[Op.operands]) hx;have e2:ρ i= .int k n:=hp.x i _ (by simp[Op.operands]) hi;unfold elSize at hs;cases hu:P.underlying t with
   |none=>rw[hu]at hs;cases hs
   |some d=>
     rw[hu]at hs;cases d with
     |slice e=>
       cases hq:P.info? e with
       |none=>simp[hq]at hs
       |some ie=>
         simp only[hq,Option.map_some,Option.some.injEq]at hs
         simp[execOp,e1,e2,Instr.indexAt,asIntOf,run_underlying hu,h0,h1,sizeOf,typeInfo,hq,hs,Z4t]
     |_=>cases hs
inductive PartsIs (H:Know):List (Nat×Operand)->List (Nat×Value)->Prop
 |nil:PartsIs H [] []
 |cons {i:Nat} {x:Operand} {v:Value} {xs:List (Nat×Operand)} {vs:List (Nat×Value)} (h:H x (.is v)) (r:PartsIs H xs vs):PartsIs H ((i,x)::xs) ((i,v)::vs)
theorem PartsIs.map{H:Know}{E:Nat->Prop}{w:World}{ρ:Operand->Value}{xs:List (Nat×Operand)}{vs:List (Nat×Value)}(h:PartsIs H xs vs)(hx: ∀x T,x∈xs.map (·.2)->H x T->T.p E (ρ x) w):
   xs.map (fun p=>(p.1,ρ p.2))=vs:=by
 induction h with
 |nil=>rfl
 |cons h r ih=>
   rw[List.map_cons,ih fun x T hm=>hx x T (List.mem_cons_of_mem _ hm)];rw[show ρ _=_ from hx _ _ List.mem_cons_self h]
structure Shape (P:Program) (t:TypeId) (pf:Nat->Option (Nat×Nat)) (zc:List Value):Prop where
 h: ∀parts,P.built t parts=Instr.fill pf zc.toArray parts
def putL:List Value->Nat->List Value->List Value
 |cs,_,[]=>cs
 |[],_,_=>[]
 |_::cs,0,v::vs=>v::putL cs 0 vs
 |c::cs,n+1,vs=>c::putL cs n vs
def fillV(pf:Nat->Option (Nat×Nat)):List Value->List (Nat×Value)->List Value
 |cs,[]=>cs
 |cs,(i,v)::rest=>fillV pf (match pf i with|some (off,_)=>putL cs off v.cells.toList|none=>cs) rest
def fillOK(pf:Nat->Option (Nat×Nat))(n:Nat):List (Nat×Value)->Bool
 |[]=>true
 |(i,v)::rest=>(match pf i with|some (off,sz)=>Nat.beq v.cells.size sz&&Nat.ble (off+sz) n|none=>false)&&fillOK pf n rest
theorem Z8n: ∀(cs:List Value) (n:Nat) (vs:List Value),(putL cs n vs).length=cs.length
 |cs,n,[]=>by cases cs<;>cases n<;>rfl
 |[],n,v::vs=>by cases n<;>rfl
 |c::cs,0,v::vs=>by simp[putL,Z8n cs 0 vs]
 |c::cs,n+1,v::vs=>by simp[putL,Z8n cs n (v::vs)]
theorem Z9k: ∀(cs:List Value) (n:Nat) (vs:List Value) (j:Nat),n+vs.length<=cs.length->(putL cs n vs)[j]? =if n<=j/\j<n+vs.length then vs[j-n]? else cs[j]?
 |cs,n,[],j,_=>by
   have:putL cs n []=cs:=by cases cs<;>cases n<;>rfl
   rw[this,if_neg (by simp)]
 |[],n,v::vs,j,h=>by simp at h
 |c::cs,0,v::vs,0,_=>by simp[putL]
 |c::cs,0,v::vs,j+1,h=>by
   have:=Z9k cs 0 vs j (by simp at h;omega);simp only[putL,List.getElem?_cons_succ,this]
   by_cases hj:j<vs.length
   · rw[if_pos (by omega),if_pos (by simp;omega)];simp
   · rw[if_neg (by omega),if_neg (by simp;omega)]
 |c::cs,n+1,v::vs,0,_=>by simp[putL]
 |c::cs,n+1,v::vs,j+1,h=>by
   have:=Z9k cs n (v::vs) j (by simp at h ⊢;omega);simp only[putL,List.getElem?_cons_succ,this]
   by_cases hj:n<=j/\j<n+(v::vs).length
   · rw[if_pos hj,if_pos (by omega),show j+1-(n+1)=j-n by omega]
   · rw[if_neg hj,if_neg (by omega)]
theorem Zdj(off:Nat): ∀(vs:List Value) (k:Nat) (cs:Array Value) (j:Nat),off+k+vs.length<=cs.size->
   ((vs.zipIdx k).foldl (fun cs (x:Value×Nat)=>cs.setIfInBounds (off+x.2) x.1) cs)[j]? =if off+k<=j/\j<off+k+vs.length then vs[j-(off+k)]? else cs[j]?
 |[],k,cs,j,_=>by
   rw[if_neg (by rintro⟨p,q⟩;simp at q;omega)]
   rfl
 |v::vs,k,cs,j,h=>by
   simp only[List.zipIdx_cons,List.foldl_cons];rw[Zdj off vs (k+1) _ j (by simp at h ⊢;omega)]
   simp at h
   by_cases hj:j=off+k
   · subst hj
     rw[if_neg (by omega),if_pos (by simp)]
     simp[Array.getElem?_setIfInBounds_self_of_lt (show off+k<cs.size by omega)]
   · by_cases hj2:off+(k+1)<=j/\j<off+(k+1)+vs.length
     · rw[if_pos hj2,if_pos (by simp;omega)]
       rw[show j-(off+k)=(j-(off+(k+1)))+1 by omega,List.getElem?_cons_succ]
     · rw[if_neg hj2,if_neg (by simp;omega),Array.getElem?_setIfInBounds_ne (by omega)]
theorem ZcI(pf:Nat->Option (Nat×Nat)): ∀(vs:List (Nat×Value)) (cs:List Value),fillOK pf cs.length vs=true->Instr.fill pf cs.toArray vs=some (fillV pf cs vs).toArray
 |[],cs,_=>rfl
 |(i,v)::rest,cs,h=>by
   simp only[fillOK,Bool.and_eq_true]at h;obtain⟨h1,h2⟩:=h;cases hp:pf i with
   |none=>rw[hp]at h1;cases h1
   |some q=>
     obtain⟨off,sz⟩:=q;rw[hp]at h1;simp only[Bool.and_eq_true]at h1;have e1:=Nat.eq_of_beq_eq_true h1.1;have e2:=Nat.le_of_ble_eq_true h1.2;have hput:(v.cells.zipIdx.foldl (fun cs (x:Value×Nat)=>match x with|(c,j)=>cs.setIfInBounds (off+j) c) cs.toArray)=(putL cs off v.cells.toList).toArray:=by
       rw[<-Array.foldl_toList];apply Array.ext_getElem?;intro j;have:=Zdj off v.cells.toList 0 cs.toArray j (by simp;omega);have e3:(v.cells.zipIdx).toList=v.cells.toList.zipIdx:=by simp
       rw[e3];refine this.trans ?_;have h5:=Z9k cs off v.cells.toList j (by simp;omega);rw[show(putL cs off v.cells.toList).toArray[j]? =(putL cs off v.cells.toList)[j]? from List.getElem?_toArray,h5]
       simp
     simp only[Instr.fill,hp,fillV];rw[if_neg (by simp;omega)];have:=ZcI pf rest (putL cs off v.cells.toList) (by rw[Z8n];exact h2);rw[<-this];exact congrArg (fun c=>Instr.fill pf c rest) hput
theorem Zg{t:TypeId}{xs:List (Nat×Operand)}{vs:List (Nat×Value)}{pf:Nat->Option (Nat×Nat)}{zc:List Value}{cs:List Value}(hsh:Shape P t pf zc)(hp':PartsIs H xs vs)(hok:fillOK pf zc.length vs=true)(hc:fillV pf zc vs=cs):
   Ob P L Φ H ⟨dst,.build t xs.toArray,ty,pos,after,g⟩ (.is (.agg cs.toArray)):=
 Z25 fun E w ρ hp=>by
   have hm:=hp'.map (ρ:=ρ) (w:=w) (E:=E) fun x T hx=>hp.x x T (by simpa [Op.operands] using hx);have hb:=run_build (P:=P) w t vs.toArray cs.toArray (by rw[hsh.h,<-hc];exact ZcI pf vs zc hok);simp only[execOp];rw[show(xs.toArray.map fun(i,x)=>(i,ρ x))=vs.toArray by rw[List.map_toArray];exact congrArg List.toArray hm]
   simp[hb]
structure SlShape (P:Program) (t e:TypeId) (sz:Nat) (z:List Value):Prop where
 hu:P.underlying t=some (.slice e)
 hi':(P.info? e).map (fun i=>(i.size,i.zero.map Value.cells))=some (sz,some z.toArray)
 pos:0<sz
theorem SlShape.hi{P:Program}{t e:TypeId}{sz:Nat}{z:List Value}(h:SlShape P t e sz z): ∃ie zv,P.info? e=some ie/\ie.size=sz/\ie.zero=some zv/\zv.cells=z.toArray:=by
 have h1:=h.hi';cases hq:P.info? e with
 |none=>rw[hq]at h1;cases h1
 |some i=>
   rw[hq,Option.map_some,Option.some.injEq,Prod.mk.injEq]at h1;cases hz:i.zero with
   |none=>rw[hz]at h1;cases h1.2
   |some zv=>rw[hz,Option.map_some,Option.some.injEq]at h1;exact⟨i,zv,rfl,h1.1,hz,h1.2⟩
def zeros(z:List Value)(m:Nat):List Value:=(List.range m).map fun i=>z.getD (i % z.length) undef
theorem Zjy(z:List Value)(hz:0<z.length)(m:Nat):(Array.range m).map (fun i=>z.toArray[i % z.toArray.size]!)=(zeros z m).toArray:=by
 apply Array.ext_getElem?;intro j;simp only[zeros,Array.getElem?_map,List.getElem?_toArray,List.getElem?_map]
 by_cases hj:j<m
 · rw[Array.getElem?_eq_getElem (by simpa using hj),List.getElem?_eq_getElem (by simpa using hj)]
   simp[List.getElem?_eq_getElem (Nat.mod_lt j hz)]
 · rw[Array.getElem?_eq_none (by simpa using hj),List.getElem?_eq_none (by simpa using hj)]
   rfl
theorem Z4G(n:Nat){t e:TypeId}{sz:Nat}{vs:List (Nat×Value)}{z cs:List Value}(w:World)(hsh:SlShape P t e sz z)(hn:0<n)(hsm:n*sz<=16777216)(hzl:z.length=sz)
   (hok:fillOK (fun i=>some (i*sz,sz)) (n*sz) vs=true)(hc:fillV (fun i=>some (i*sz,sz)) (zeros z (n*sz)) vs=cs):
   (Instr.buildSlice t n vs.toArray).run P w= .ok (.slice (some ⟨w.heap.size,0,none⟩) n n) (w.alloc (.cells cs.toArray e)):=by
 obtain⟨ie,zv,h1,h2,h3,h4⟩:=hsh.hi;have hpos:=hsh.pos;refine run_buildSlice (P:=P) w t e n vs.toArray cs.toArray ie zv hsh.hu h1 h3 (by rw[h2];show ¬n*sz>16777216;omega) (by rw[h2];exact Nat.ne_of_gt (Nat.mul_pos hn hpos)) ?_;rw[h2,h4,Zjy z (by omega),<-hc];exact ZcI _ vs _ (by simpa [zeros] using hok)
theorem Zx{t e:TypeId}{n sz:Nat}{xs:List (Nat×Operand)}{vs:List (Nat×Value)}{z cs:List Value}(hsh:SlShape P t e sz z)(hn:0<n)(hsm:n*sz<=16777216)(hp':PartsIs H xs vs)(hzl:z.length=sz)
   (hok:fillOK (fun i=>some (i*sz,sz)) (n*sz) vs=true)(hc:fillV (fun i=>some (i*sz,sz)) (zeros z (n*sz)) vs=cs):
   Ob P L Φ H ⟨dst,.buildSlice t n xs.toArray,ty,pos,after,g⟩ (.newSl (.cells cs.toArray e (0,0)) n n):=fun E w ρ hp=>by
 have hm:=hp'.map (ρ:=ρ) (w:=w) (E:=E) fun x T hx=>hp.x x T (by simpa [Op.operands] using hx);have hb:=Z4G n w hsh hn hsm hzl hok hc;have hr:(execOp ρ ⟨dst,.buildSlice t n xs.toArray,ty,pos,after,g⟩).run P w= .ok (.value (.slice (some ⟨w.heap.size,0,none⟩) n n)) (w.alloc (.cells cs.toArray e)):=by
   simp only[execOp];rw[show(xs.toArray.map fun(i,x)=>(i,ρ x))=vs.toArray by rw[List.map_toArray];exact congrArg List.toArray hm]
   simp[hb]
 rw[hr];exact⟨Keeps.alloc w _,w.heap.size,rfl,fun he=>absurd (hp.wf _ he) (by omega),Z2i w _⟩
inductive IsAll (H:Know):List Operand->List Value->Prop
 |nil:IsAll H [] []
 |cons {x:Operand} {v:Value} {xs:List Operand} {vs:List Value} (h:H x (.is v)) (r:IsAll H xs vs):IsAll H (x::xs) (v::vs)
theorem IsAll.map{E:Nat->Prop}{w:World}{ρ:Operand->Value}{xs:List Operand}{vs:List Value}(h:IsAll H xs vs)(hx: ∀x T,x∈xs->H x T->T.p E (ρ x) w):xs.map ρ=vs:=by
 induction h with
 |nil=>rfl
 |cons h r ih=>
   rw[List.map_cons,ih fun x T hm=>hx x T (List.mem_cons_of_mem _ hm)];rw[show ρ _=_ from hx _ _ List.mem_cons_self h]
theorem Z4A{f:FuncId}{xs ys:List Operand}{fs cs:List Value}(hx:IsAll H xs fs)(hy:IsAll H ys cs):Ob P L Φ H ⟨dst,.makeFunc (.func f) xs.toArray ys.toArray,ty,pos,after,g⟩ (.is (.func (.func f) fs.toArray cs.toArray)):=
 Z25 fun E w ρ hp=>by
  have h1:=hx.map (ρ:=ρ) (w:=w) (E:=E) fun x T hm=>hp.x x T (by simp[Op.operands,hm]);have h2:=hy.map (ρ:=ρ) (w:=w) (E:=E) fun x T hm=>hp.x x T (by simp[Op.operands,hm])
  simp[execOp,Instr.makeFunc,h1,h2]
inductive Upd:List Own->Own->Own->List Own->Prop
 |here {o o':Own} {L:List Own}:Upd (o::L) o o' (o'::L)
 |there {x o o':Own} {L L':List Own} (h:Upd L o o' L'):Upd (x::L) o o' (x::L')
theorem Upd.mem{M M':List Own}{o o':Own}(h:Upd M o o' M'):o∈M:=by
 induction h with
 |here=>exact List.mem_cons_self
 |there h ih=>exact List.mem_cons_of_mem _ ih
theorem Upd.all{M M':List Own}{o o':Own}(h:Upd M o o' M'){p:Own->Prop}(hnd:(M.map (·.b)).Nodup)(hp: ∀m∈M,m.b≠o.b->p m)(ho:p o'): ∀m∈M',p m:=by
 induction h with
 |here=>
   intro m hm;rw[List.map_cons,List.nodup_cons]at hnd;rcases List.mem_cons.1 hm with rfl|hm
   · exact ho
   · exact hp m (List.mem_cons_of_mem _ hm) fun e=>hnd.1 (by rw[<-e];exact List.mem_map_of_mem hm)
 |there h ih=>
   rename_i x o o' L L';intro m hm;rw[List.map_cons,List.nodup_cons]at hnd;rcases List.mem_cons.1 hm with rfl|hm
   · exact hp m List.mem_cons_self fun e=>hnd.1 (by rw[e];exact List.mem_map_of_mem h.mem)
   · exact ih hnd.2 (fun m hm=>hp m (List.mem_cons_of_mem _ hm)) ho m hm
def Cnt(T:Ty)(n:Nat):Prop:=∀E v w,T.p E v w->v.cells.size=n/\ ∀u∈v.cells.toList,u.oneCell'=true
theorem Zh{V:Value}{n:Nat}(h:V.cells.size=n)(h1:V.cells.toList.all (·.oneCell')=true):Cnt (.is V) n:=fun E v w e=>by
 rw[show v=V from e];exact⟨h,List.all_eq_true.1 h1⟩
theorem Z4{M M':List Own}{t:TypeId}{p x:Operand}{b n:Nat}{ety:TypeId}{T0 T:Ty}(hp':H p (.is (.pointer (some ⟨b,0,none⟩))))(hx:H x T)(hu:Upd M ⟨b,ety,T0⟩ ⟨b,ety,T⟩ M')(h0:Cnt T0 n)(h1:Cnt T n)(hs:(P.info? t).map (·.size)=some n):
   ObM P L Φ H M ⟨none,.store t p x,ty,pos,after,g⟩ .any M':=fun E w ρ hp hM hnd=>by
 have e1:ρ p= .pointer (some ⟨b,0,none⟩):=hp.x p _ (by simp[Op.operands]) hp';have hv:=hp.x x T (by simp[Op.operands]) hx;obtain⟨hE,v0,hb0,hv0⟩:=hM _ hu.mem
 replace hb0:w.heap[b]? =some (.cells v0.cells ety (0,0)):=hb0.trans (by rw[show(⟨b,ety,T0⟩:Own).T=T0 from rfl,Z9L h0])
 obtain⟨c0,_⟩:=h0 _ _ _ hv0;obtain⟨c1,c2⟩:=h1 _ _ _ hv;have hrun:(execOp ρ ⟨none,.store t p x,ty,pos,after,g⟩).run P w= .ok .skip (w.setRow b (ρ x).cells):=by
   have:=Z85 (P:=P) w t b (ρ x) v0.cells ety hb0 (by rw[hs,c0]) (by rw[c1,c0]) c2;simp only[execOp,e1]
   simp[this]
 rw[hrun];have hk:=Keeps.setRow w b (ρ x).cells v0.cells ety hb0 (by rw[c1,c0]);have hev:Ev E w E (w.setRow b (ρ x).cells):=Ev.of_keeps (hk.mono fun q _ e=>by rw[e];exact hE);exact⟨hk.mono fun q _ e=>by rw[e];exact List.mem_map_of_mem hu.mem,trivial,hu.all hnd (fun m hm hne=>Own.keep (hM m hm) hev (Z2K w b _ hne)) ⟨hE,ρ x,(Z3X w b _ _ _ _ hb0).trans (by rw[show(⟨b,ety,T⟩:Own).T=T from rfl,Z9L h1]),Ty.mono hev hv⟩⟩
def splice(cs:List Value)(off:Nat)(vs:List Value):List Value:=cs.take off++vs++cs.drop (off+vs.length)
theorem Zj{M M':List Own}{t:TypeId}{p x:Operand}{b off n:Nat}{ety:TypeId}{cs cs':List Value}{V:Value}(hp':H p (.is (.pointer (some ⟨b,off,none⟩))))(hx:H x (.is V))
   (hu:Upd M ⟨b,ety,.is (.agg cs.toArray)⟩ ⟨b,ety,.is (.agg cs'.toArray)⟩ M')(hc:splice cs off V.cells.toList=cs')(hn:V.cells.size=n)(h1:V.cells.toList.all (·.oneCell')=true)(hl:Nat.ble (off+n) cs.length=true)(hs:(P.info? t).map (·.size)=some n):
   ObM P L Φ H M ⟨none,.store t p x,ty,pos,after,g⟩ .any M':=fun E w ρ hp hM hnd=>by
 have e1:ρ p= .pointer (some ⟨b,off,none⟩):=hp.x p _ (by simp[Op.operands]) hp';have e2:ρ x=V:=hp.x x _ (by simp[Op.operands]) hx;have hE:=(hM _ hu.mem).1;have hb0:w.heap[b]? =some (.cells cs.toArray ety (0,0)):=Z4u (hM _ hu.mem) rfl;have hl':=Nat.le_of_ble_eq_true hl;have hst:=run_storeCells_at (P:=P) b off ety V.cells.toList 0 cs.toArray w hb0 (by simp;omega) (List.all_eq_true.1 h1);have hrun:(execOp ρ ⟨none,.store t p x,ty,pos,after,g⟩).run P w= .ok .skip (w.setRow b cs'.toArray):=by
   cases hq:P.info? t with
   |none=>simp[hq]at hs
   |some i=>
     have hs':V.cells.size=i.size:=by simp[hq]at hs;omega
     rw[<-hc];simp only[Nat.add_zero]at hst
     simp[execOp,e1,e2,Instr.storeAt,Instr.sureAddr,storeVar,sizeOf,typeInfo,hq,hs',hst,splice]
 rw[hrun];have hlen:cs'.toArray.size=cs.toArray.size:=by rw[<-hc];simp[splice];omega
 have hk:=Keeps.setRow w b cs'.toArray cs.toArray ety hb0 hlen;have hev:Ev E w E (w.setRow b cs'.toArray):=Ev.of_keeps (hk.mono fun q _ e=>by rw[e];exact hE);exact⟨hk.mono fun q _ e=>by rw[e];exact List.mem_map_of_mem hu.mem,trivial,hu.all hnd (fun m hm hne=>Own.keep (hM m hm) hev (Z2K w b _ hne)) ⟨hE,.agg cs'.toArray,Z3X w b _ _ _ _ hb0,rfl⟩⟩
end
end Go.Vc

namespace Go.Vc
open Go
def Post(X:Nat->Prop)(W:World)(R:Ty):Ending->World->Prop:=fun e w'=>∃v,e= .returned v/\Keeps noX W w'/\R.p X v w'
section
variable{P:Program}{K:List (Nat×Ty)}{L:List Own}{Φ:List (World->Prop)}{fn:Func}{R:Ty}{n:Nat}{X:Nat->Prop}{W:World}
theorem JX.retOf(ho:R.out=true)(hr: ∀a w E,SA ⟨n,X,noX,W,[]⟩ K L Φ E a w->∃v,(results fn a.tmps).run P w= .ok v w/\R.p E v w):JX ⟨n,X,noX,W,[]⟩ K L Φ .ret (bodyPost P fn (Post X W R)):=by
 refine⟨?_⟩;intro E a w hs;obtain⟨v,h1,h2⟩:=hr a w E hs;exact⟨hs.d,v,h1,v,rfl,hs.keeps,Ty.weak (fun b _=>hs.x b) ho h2⟩
theorem JX.ret1{t:Nat}(hres:fn.results= #[.tmp t])(ho:R.out=true)(h:look K t=some R):JX ⟨n,X,noX,W,[]⟩ K L Φ .ret (bodyPost P fn (Post X W R)):=
 JX.retOf ho fun _ _ _ hs=>⟨_,results_tmp hres _ _ _,hs.k t _ h⟩
theorem JX.ret1is{t:Nat}{V V':Value}(hres:fn.results= #[.tmp t])(h:look K t=some (.is V'))(he:V'=V):JX ⟨n,X,noX,W,[]⟩ K L Φ .ret (bodyPost P fn (Post X W (.is V))):=by
 subst he;exact JX.ret1 hres rfl h
theorem JX.ret2{t u:Nat}{A B:Ty}(hres:fn.results= #[.tmp t,.tmp u])(ho:(Ty.tup2 A B).out=true)(h:look K t=some A)(h':look K u=some B):JX ⟨n,X,noX,W,[]⟩ K L Φ .ret (bodyPost P fn (Post X W (.tup2 A B))):=
 JX.retOf ho fun _ _ _ hs=>⟨_,results_tmp2 hres _ _ _,_,_,rfl,hs.k t _ h,hs.k u _ h'⟩
theorem JX.ret2is{t u:Nat}{A B A' B':Value}(hres:fn.results= #[.tmp t,.tmp u])(h:look K t=some (.is A'))(h':look K u=some (.is B'))(ha:A'=A)(hb:B'=B):JX ⟨n,X,noX,W,[]⟩ K L Φ .ret (bodyPost P fn (Post X W (.tup2 (.is A) (.is B)))):=by
 subst ha hb;exact JX.ret2 hres rfl h h'
theorem Z4L{t:TypeId}{b m:Nat}{ety:TypeId}{T:Ty}{E:Nat->Prop}{w:World}(hs:szOf P t=some (some m))(hm:(⟨b,ety,T⟩:Own).at E w)(hT: ∀E v w,T.p E v w->∃cs,v= .agg cs/\cs.size=m):
   ∃v,(loadVar t ⟨b,0,none⟩).run P w= .ok v w/\T.p E v w:=by
 obtain⟨_,v,hb,hv⟩:=hm;obtain⟨cs,rfl,hn⟩:=hT E v w hv;rw[show(⟨b,ety,T⟩:Own).T=T from rfl,Ty.obj_cells (Ty.noOb hT)]at hb;refine⟨.agg cs,?_,hv⟩;have hl:=Zag (P:=P) (w:=w) (t:=t) (p:=⟨b,0,none⟩) (cs:=cs.toList) (by simpa [hn] using hs) fun j u hj=>by
   rw[Z4t,Z1I hb]
   simpa [Value.cells] using hj
 simpa using hl
theorem Z1o{cs:Array Value}{m:Nat}(h:cs.size=m): ∀(E:Nat->Prop) v (w:World),(Ty.is (.agg cs)).p E v w->∃cs,v= .agg cs/\cs.size=m:=fun _ _ _ e=>⟨cs,e,h⟩
theorem JX.retC1{s u b m:Nat}{t ety:TypeId}{A B:Ty}(hres:fn.results= #[.cell s t,.tmp u])(ho:(Ty.tup2 A B).out=true)(h:look K s=some (.is (.pointer (some ⟨b,0,none⟩))))(hs':szOf P t=some (some m))(hm:⟨b,ety,A⟩∈L)(hT: ∀E v w,A.p E v w->∃cs,v= .agg cs/\cs.size=m)(h':look K u=some B):
   JX ⟨n,X,noX,W,[]⟩ K L Φ .ret (bodyPost P fn (Post X W (.tup2 A B))):=
 JX.retOf ho fun a w E hs=>by
   obtain⟨v,h1,h2⟩:=Z4L (P:=P) hs' (hs.l _ hm) hT;have e:a.tmps.getD s undef= .pointer (some ⟨b,0,none⟩):=hs.k s _ h;rw[Array.getD_eq_getD_getElem?]at e;exact⟨.tuple #[v,a.tmps.getD u undef],by simp[results,hres,Array.getD_eq_getD_getElem?,e,asAddr,h1],_,_,rfl,h2,hs.k u _ h'⟩
theorem JX.retC1is{s u b m:Nat}{t ety:TypeId}{cs:Array Value}{V B B':Value}(hres:fn.results= #[.cell s t,.tmp u])(h:look K s=some (.is (.pointer (some ⟨b,0,none⟩))))(hs':szOf P t=some (some m))(hm:⟨b,ety,.is (.agg cs)⟩∈L)(hn:cs.size=m)(h':look K u=some (.is B'))(he: .agg cs=V)(hb:B'=B):
  JX ⟨n,X,noX,W,[]⟩ K L Φ .ret (bodyPost P fn (Post X W (.tup2 (.is V) (.is B)))):=by
 subst he hb;exact JX.retC1 hres rfl h hs' hm (Z1o hn) h'
def params:Nat->List Ty->List (Nat×Ty)
 |_,[]=>[]
 |i,A::As=>(i,A)::params (i+1) As
theorem Zbf{E:Nat->Prop}{w:World}: ∀(As:List Ty) (vs:List Value) (i:Nat) (s:Nat) (T:Ty),TyAll E w As vs->look (params i As) s=some T->i<=s/\s-i<vs.length/\T.p E (vs.getD (s-i) undef) w
 |[],[],_,_,_,_,h=>by cases h
 |A::As,v::vs,i,s,T,⟨h1,h2⟩,h=>by
   simp only[params,look]at h;cases hq:Nat.beq i s with
   |true=>
     rw[hq,cond_true]at h;injection h with h
     subst h;have:=Nat.eq_of_beq_eq_true hq;subst this;exact⟨Nat.le_refl _,by simp,by simpa using h1⟩
   |false=>
     rw[hq,cond_false]at h;obtain⟨a1,a2,a3⟩:=Zbf As vs (i+1) s T h2 h;obtain⟨k,rfl⟩: ∃k,s=i+1+k:=⟨s-(i+1),by omega⟩;rw[show i+1+k-(i+1)=k by omega]at a2 a3;exact⟨by omega,by rw[show i+1+k-i=k+1 by omega];simpa using a2,by rw[show i+1+k-i=k+1 by omega];simpa using a3⟩
 |[],_::_,_,_,_,h,_=>h.elim
 |_::_,[],_,_,_,h,_=>h.elim
theorem TyAll.length{E:Nat->Prop}{w:World}: ∀{As:List Ty} {vs:List Value},TyAll E w As vs->As.length=vs.length
 |[],[],_=>rfl
 |_::_,_::_,⟨_,h⟩=>by simp[TyAll.length h]
 |[],_::_,h=>h.elim
 |_::_,[],h=>h.elim
theorem Z4h{E:Nat->Prop}{w:World}{As:List Ty}{vs:List Value}(hw: ∀b,E b->b<w.heap.size)(ht:TyAll E w As vs)(hn:As.length<=n):
   SA ⟨n,E,noX,w,[]⟩ (params 0 As) [] [] E {tmps:=vs.toArray++Array.replicate (n-vs.toArray.size) undef,defers:=[]} w:=by
 have hl:=ht.length;refine⟨by simp;omega,rfl,hw,fun s T h=>?_,fun _ h=>(List.not_mem_nil h).elim,List.nodup_nil,fun _ h=>(List.not_mem_nil h).elim,fun _ h=>h,hw,.refl _ _,fun _ h=>(List.not_mem_nil h).elim⟩;obtain⟨_,h2,h3⟩:=Zbf As vs 0 s T ht h;rw[Nat.sub_zero]at h2 h3;have:(vs.toArray++Array.replicate (n-vs.toArray.size) undef).getD s undef=vs.getD s undef:=by
   simp only[Array.getD_eq_getD_getElem?,List.getD_eq_getElem?_getD];rw[Array.getElem?_append_left (by simpa using h2)]
   simp
 rw[show({tmps:=vs.toArray++Array.replicate (n-vs.toArray.size) undef,defers:=[]}:Act).tmps.getD s undef=_ from this];exact h3
theorem CallTy.of{f:FuncId}{x:Code}{As:List Ty}(hf:P.funcs[f]? =some fn)(hb:fn.body=some x)(hn:fn.ntmps=n)(hl:Nat.ble As.length n=true)(he: ∀args w,(callFunc f args).run P w= .ok (.enter f args) w)
   (h: ∀(E:Nat->Prop) (W:World),J P ⟨n,E,noX,W,[]⟩ (params 0 As) [] [] x (bodyPost P fn (Post E W R))):CallTy P f As R:=
 ⟨he,fun E w vs hw ht=>by
   refine calls_of_wp hf hb ?_;rw[hn];exact(h E w).out E _ w (Z4h hw ht (Nat.le_of_ble_eq_true hl))⟩
end
end Go.Vc

namespace Go.Vc
open Go
section
variable{P:Program}{ops:Array Oper}{c:Ctx}{K:List (Nat×Ty)}{L M Lk:List Own}{Φ:List (World->Prop)}{Q:Exit->Act->World->Prop}{S:Sd}{i:Nat}{rest:List Oper}{k:List (Nat×Ty)->List Own->Sd->Prop}
variable{op:Op}{ty:TypeId}{pos:String}{after:Array Edge}{d:Nat}{T:Ty}
theorem RT.nil(h:k K M S):RT P ops L Φ i [] K M S k:=h
theorem RT.t(h:Ob P L Φ (Kn K) ⟨some d,op,ty,pos,after,none⟩ T)(n:RT P ops L Φ (i+1) rest ((d,T)::K) M S k):RT P ops L Φ i (⟨some d,op,ty,pos,after,none⟩::rest) K M S k:=
 ⟨T,M,S,.typed,.typed rfl h,n⟩
theorem RT.g{g d0:Nat}{b cc:Bool}(hd:(ops[g]?).bind (·.dst)=some d0)(hk:look K d0=some (.is (.bool cc)))(hna:isAlloc ⟨some d,op,ty,pos,after,some (g,b)⟩=false)(h:cc=b->Ob P L Φ (KnG (cc=b) K) ⟨some d,op,ty,pos,after,some (g,b)⟩ T)
  (n:RT P ops L Φ (i+1) rest ((d,.opt (cc=b) T)::K) M S k):RT P ops L Φ i (⟨some d,op,ty,pos,after,some (g,b)⟩::rest) K M S k:=
 ⟨_,M,S,.gated,.gated (cc=b) g b d0 rfl hd (.inl ⟨cc,hk,rfl⟩) hna h,n⟩
theorem RT.gg{g d0:Nat}{b cc:Bool}{π:Prop}(hd:(ops[g]?).bind (·.dst)=some d0)(hk:look K d0=some (.opt π (.is (.bool cc))))(hna:isAlloc ⟨some d,op,ty,pos,after,some (g,b)⟩=false)(h:(π/\cc=b)->Ob P L Φ (KnG (π/\cc=b) K) ⟨some d,op,ty,pos,after,some (g,b)⟩ T)
  (n:RT P ops L Φ (i+1) rest ((d,.opt (π/\cc=b) T)::K) M S k):RT P ops L Φ i (⟨some d,op,ty,pos,after,some (g,b)⟩::rest) K M S k:=
 ⟨_,M,S,.gated,.gated (π/\cc=b) g b d0 rfl hd (.inr ⟨π,cc,hk,rfl⟩) hna h,n⟩
theorem RT.m{dst:Option Nat}{M':List Own}(hl:isLoud ⟨dst,op,ty,pos,after,none⟩=true)(h:ObM P L Φ (Kn K) M ⟨dst,op,ty,pos,after,none⟩ T M')(hm:M'.map (·.b)=M.map (·.b))(n:RT P ops L Φ (i+1) rest (putK dst T K) M' S k):RT P ops L Φ i (⟨dst,op,ty,pos,after,none⟩::rest) K M S k:=
 ⟨T,M',S,.chg,.chg rfl hl hm h,n⟩
theorem FinS.nil0(h:JX c K Lk Φ .normal Q):FinS P c Lk Φ Q K [] []:=h.out
theorem FinS.nil1{o:Own}(h:JX c K (o::Lk) Φ .normal Q):FinS P c Lk Φ Q K [o] []:=h.out
theorem J.reg0{id:Nat}{dr:Bool}{l:List Oper}(hmx:P.follows .mixedOrders=true)(hok:regOK l.toArray=true)(hdn:(l.toArray.all fun o=>match o.dst with|some d=>decide (d<c.n)|none=>true)=true)
 (h:RT P l.toArray L Φ 0 l K [] [] (FinS P c L Φ Q)):J P c K L Φ (.region id l.toArray dr) Q:=J.region (Lm:=[]) (Lk:=L) hmx hok hdn h
theorem J.reg1{id:Nat}{dr:Bool}{l:List Oper}{o:Own}(hmx:P.follows .mixedOrders=true)(hok:regOK l.toArray=true)(hdn:(l.toArray.all fun o=>match o.dst with|some d=>decide (d<c.n)|none=>true)=true)
 (h:RT P l.toArray L Φ 0 l K [o] [] (FinS P c L Φ Q)):J P c K (o::L) Φ (.region id l.toArray dr) Q:=J.region (Lm:=[o]) (Lk:=L) hmx hok hdn h
theorem JO.t(h:Ob P L Φ (Kn K) ⟨some d,op,ty,pos,after,none⟩ T)(hd:Nat.blt d c.n=true)(n:JO P c ((d,T)::K) L Φ ops rest Q):JO P c K L Φ ops (⟨some d,op,ty,pos,after,none⟩::rest) Q:=
 JO.typed rfl (fun d' e=>by injection e with e;subst e;exact Nat.le_of_ble_eq_true hd) h n
theorem JO.m{L':List Own}(h:ObM P [] Φ (Kn K) L ⟨none,op,ty,pos,after,none⟩ T L')(hm:L'.map (·.b)=L.map (·.b))(n:JO P c K L' Φ ops rest Q):JO P c K L Φ ops (⟨none,op,ty,pos,after,none⟩::rest) Q:=
 JO.chg rfl (fun d' e=>by cases e) hm h n
theorem JO.md{L':List Own}(h:ObM P [] Φ (Kn K) L ⟨some d,op,ty,pos,after,none⟩ T L')(hm:L'.map (·.b)=L.map (·.b))(hd:Nat.blt d c.n=true)(n:JO P c ((d,T)::K) L' Φ ops rest Q):JO P c K L Φ ops (⟨some d,op,ty,pos,after,none⟩::rest) Q:=
 JO.chg rfl (fun d' e=>by injection e with e;subst e;exact Nat.le_of_ble_eq_true hd) hm h n
inductive Front:List Own->Nat->List Own->Prop
 |here {o:Own} {L:List Own}:Front (o::L) o.b (o::L)
 |there {x o:Own} {b:Nat} {L L':List Own} (h:Front L b (o::L')):Front (x::L) b (o::x::L')
theorem Front.perm{b:Nat}{L L':List Own}(h:Front L b L'):L'.Perm L:=by
 induction h with
 |here=>exact .refl _
 |there h ih=>exact(List.Perm.swap _ _ _).trans (List.Perm.cons _ ih)
theorem J.front{x:Code}{L':List Own}(b:Nat)(h:Front L b L')(hj:J P c K L' Φ x Q):J P c K L Φ x Q:=
 J.subL (fun o ho=>(h.perm.mem_iff).1 ho) (fun hn=>((h.perm.map _).nodup_iff).2 hn) hj
theorem JX.mids{K1:List (Nat×Ty)}(ss:List Nat)(h:Sel K ss K1):JX c K L Φ .normal (Exit.then (fun a w=>∃E,SA c K1 L Φ E a w) Q):=
 JX.mid fun _ _ _ hs=>hs.sub h.look (fun _=>id) hs.ld (fun _=>id)
theorem SA.or{s:Nat}{K0:List (Nat×Ty)}{d e:Bool}{E:Nat->Prop}{a:Act}{w:World}(h:SA c ((s,.is (.bool d))::K0) L Φ E a w)(he:e=d):SA c ((s,.is (.bool e))::K0) L Φ E a w:=by subst he;exact h
theorem J.orT{s:Nat}{c1 d:Bool}{K0:List (Nat×Ty)}{body:Code}(ss:List Nat)(hk:look K s=some (.is (.bool c1)))(h0:Sel K ss K0)
   (hb:c1=false->J P c K L Φ body (Exit.then (fun a w=>∃E,SA c ((s,.is (.bool d))::K0) L Φ E a w) Q)):
   J P c K L Φ (.cond (.tmp s) .skip body) (Exit.then (fun a w=>∃E,SA c ((s,.is (.bool (c1||d)))::K0) L Φ E a w) Q):=by
 refine J.cond (b:=c1) hk (fun e=>?_) (fun e=>?_)
 · refine J.skip ⟨fun E a w hs=>⟨E,?_⟩⟩
   have h1:SA c ((s,.is (.bool c1))::K0) L Φ E a w:=hs.sub (Sel.cons hk h0).look (fun _=>id) hs.ld (fun _=>id);exact h1.or (by rw[e];rfl)
 · refine⟨fun E a w hs=>wp_mono ((hb e).out E a w hs) fun x a w hq=>?_⟩
   cases x with
   |normal=>obtain⟨E,hs⟩:=hq;exact⟨E,hs.or (by rw[e];rfl)⟩
   |_=>exact hq
theorem J.or{s:Nat}{c1 d:Bool}{K0:List (Nat×Ty)}{body y:Code}(ss:List Nat)(hk:look K s=some (.is (.bool c1)))(h0:Sel K ss K0)
 (hb:c1=false->J P c K L Φ body (Exit.then (fun a w=>∃E,SA c ((s,.is (.bool d))::K0) L Φ E a w) Q))(hy:J P c ((s,.is (.bool (c1||d)))::K0) L Φ y Q):
 J P c K L Φ (.seq (.cond (.tmp s) .skip body) y) Q:=J.cut (J.orT ss hk h0 hb) hy
theorem J.orN{s:Nat}{c1 d:Bool}{K0:List (Nat×Ty)}{body y:Code}(ss:List Nat)(hk:look K s=some (.is (.bool c1)))(h0:Sel K ss K0)
   (hb:c1=false->J P c K L Φ body (Exit.then (fun a w=>∃E,SA c ((s,.is (.bool d))::K0) L Φ E a w) Q))(hy:J P c ((s,.is (.bool (c1||d)))::K0) L Φ y Q):
   J P c K L Φ (.cond (.tmp s) .skip body) (Exit.then (y.wp P Q) Q):=by
 refine⟨fun E a w hs=>wp_mono ((J.orT (Q:=Q) ss hk h0 hb).out E a w hs) fun e a w hq=>?_⟩;cases e with
 |normal=>obtain⟨E,hs⟩:=hq;exact hy.out E a w hs
 |_=>exact hq
end
def nth{α:Type}:List α->Nat->Option α
 |[],_=>none
 |x::_,0=>some x
 |_::l,n+1=>nth l n
theorem ZeI{α:Type}: ∀(l:List α) (n:Nat),nth l n=l[n]?
 |[],_=>by simp[nth]
 |_::_,0=>rfl
 |_::l,n+1=>by simp[nth,ZeI l n]
class HasOwn (L:List Own) (b:Nat) (ety:outParam TypeId) (T:outParam Ty):Prop where
 mem:(⟨b,ety,T⟩:Own)∈L
instance HasOwn.here {L:List Own} {b:Nat} {ety:TypeId} {T:Ty}:HasOwn (⟨b,ety,T⟩::L) b ety T:=⟨List.mem_cons_self⟩
instance (priority:=low) HasOwn.there {x:Own} {L:List Own} {b:Nat} {ety:TypeId} {T:Ty} [h:HasOwn L b ety T]:HasOwn (x::L) b ety T:=⟨List.mem_cons_of_mem _ h.mem⟩
section
variable{P:Program}{L:List Own}{Φ:List (World->Prop)}{H:Know}{dst:Option Nat}{ty:TypeId}{pos:String}{after:Array Edge}{g:Option (Nat×Bool)}
theorem Z1{t ety:TypeId}{x:Operand}{b off:Nat}{V v:Value}(hs:szOf P t=some none)(hx:H x (.is (.pointer (some ⟨b,off,none⟩))))[hm:HasOwn L b ety (.is V)](hv:nth V.cells.toList off=some v):Ob P L Φ H ⟨dst,.load t x,ty,pos,after,g⟩ (.is v):=
 Z6b hx (ZgP hs hm.mem (by rw[ZeI]at hv;simpa using hv))
theorem ZR{t ety:TypeId}{x:Operand}{b off n:Nat}{V:Value}{cs:List Value}(hs:szOf P t=some (some n))(hx:H x (.is (.pointer (some ⟨b,off,none⟩))))[hm:HasOwn L b ety (.is V)](hv:(V.cells.toList.drop off).take n=cs)(hn:cs.length=n):Ob P L Φ H ⟨dst,.load t x,ty,pos,after,g⟩ (.is (.agg cs.toArray)):=
 Z6b hx (ZgT hs hm.mem hv hn)
end
end Go.Vc
