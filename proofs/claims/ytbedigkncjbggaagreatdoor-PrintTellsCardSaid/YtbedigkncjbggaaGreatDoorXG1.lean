/- The program logic, part 2. No condition. -/
import Derived.Test.YtbedigkncjbggaaGreatDoorXG0
import Derived.ProofKit
import Derived.WideKeyArgs
import Derived.ChangeArms
import Derived.Carry
import Derived.ChangeSame
import Derived.Deep.AppendSrc
import Derived.Laws.AppendOwn
import Derived.Laws.CopyRow
namespace Go.Vc
open Go
variable{P:Program}{c:Ctx}{K K' K0:List (Nat×Ty)}{L L' L0 Lr Lq Lm Lk:List Own}{Φ Φ0:List (World->Prop)}{Q:Exit->Act->World->Prop}{H:Know}{dst:Option Nat}{ty:TypeId}{pos:String}{after:Array Edge}{g:Option (Nat×Bool)}{ops:Array Oper}{rest:List Oper}{fn:Func}{n:Nat}{X:Nat->Prop}{W:World}{op:Op}{f:FuncId}{As:List Ty}{T:Ty}{Z:Type}{Zp:Z->Prop}{L1:Z->List Own}{R:Z->Ty}{Bad:Prop}{ch:List PanicEntry}
section
variable{xt yt:TypeId}{x y:Operand}{k k':IntKind}{a b:Int}
theorem ZlY(hx:H x (.is (.int k a)))(hy:H y (.is (.int k' b)))(hb:decide (0<=b)=true):Ob P L Φ H ⟨dst,.binOp .shr xt x y yt,ty,pos,after,g⟩ (.is (.int k (a.fdiv (2 ^ (min b.toNat k.bits))))):=
 Z3s hx hy fun w=>by
  have h0: ¬b<0:=by have:=of_decide_eq_true hb;omega
  simp[eqGuard,binOp,Op.shift,h0]
theorem ZiA(hx:H x (.is (.int k a)))(hy:H y (.is (.int k b)))(hb:b≠0):Ob P L Φ H ⟨dst,.binOp .quo xt x y yt,ty,pos,after,g⟩ (.is (.int k (k.wrap (a.tdiv b)))):=
 Z3s hx hy fun w=>by simp[eqGuard,binOp,Op.intDiv,hb]
theorem Zi1(hx:H x (.is (.int k a)))(hy:H y (.is (.int k b)))(hb:b≠0):Ob P L Φ H ⟨dst,.binOp .rem xt x y yt,ty,pos,after,g⟩ (.is (.int k (a.tmod b))):=
 Z3s hx hy fun w=>by simp[eqGuard,binOp,Op.intDiv,hb]
theorem ZjJ(hx:H x (.is (.int k a)))(hy:H y (.is (.int k b))):Ob P L Φ H ⟨dst,.binOp .or xt x y yt,ty,pos,after,g⟩ (.is (.int k (k.wrap (BitVec.ofInt k.bits a|||BitVec.ofInt k.bits b).toNat))):=
 Z3s hx hy fun w=>by simp[eqGuard,binOp,Op.intBits]
theorem Z6D{s t:TypeId}{ku:IntKind}(hu0: ∃d,P.underlying s=some d)(hu:P.underlying t=some (.int k))(hx:H x (.is (.int ku a))):Ob P L Φ H ⟨dst,.convert s t x,ty,pos,after,g⟩ (.is (.int k (k.wrap a))):=
 Z25 fun E w ρ hp=>by
  have h1:ρ x= .int ku a:=hp.x x _ (by simp[Op.operands]) hx;obtain⟨d,hd⟩:=hu0
  simp[execOp,h1,convert,run_underlying hd,run_underlying hu,Conv.intToInt]
theorem Z4w{t e:TypeId}{n:Nat}{cs:Array Value}{i:Int}{v:Value}(hu:P.underlying t=some (.array n e))(hs:szOf P e=some none)(he:(P.info? e).map (·.size)=some 1)(hx:H x (.is (.agg cs)))(hy:H y (.is (.int k i)))(h0:0<=i)(h1:i<n)(hv:cs[i.toNat]? =some v):
   Ob P L Φ H ⟨dst,.index t x y,ty,pos,after,g⟩ (.is v):=
 Z25 fun E w ρ hp=>by
   have e1:ρ x= .agg cs:=hp.x x _ (by simp[Op.operands]) hx;have e2:ρ y= .int k i:=hp.x y _ (by simp[Op.operands]) hy;have hag:(isAgg e).run P w= .ok false w:=by
     unfold szOf at hs;cases hue:P.underlying e with
     |none=>simp[hue]at hs
     |some d=>
       rw[hue]at hs;cases d<;>first|(simp[isAgg,run_underlying hue];done)|(cases hi:P.info? e<;>simp[hi]at hs)
   cases hi:P.info? e with
   |none=>simp[hi]at he
   |some ie=>
     simp only[hi,Option.map_some,Option.some.injEq]at he
     simp[execOp,e1,e2,Instr.index,asIntOf,run_underlying hu,h0,h1,sizeOf,typeInfo,hi,he,part,hag,hv]
end
theorem Z1H{n:Int}(h1: -9223372036854775808<=n)(h2:n<9223372036854775808):IntKind.i64.wrap n=n:=by rw[IntKind.wrap_i64];omega
section
variable{xt yt:TypeId}{x y:Operand}{a b:Int}
theorem Zv{cc:Int}(hx:H x (.is (.int .i64 a)))(hy:H y (.is (.int .i64 b)))(hc:a+b=cc)(h1: -9223372036854775808<=cc)(h2:cc<9223372036854775808):Ob P L Φ H ⟨dst,.binOp .add xt x y yt,ty,pos,after,g⟩ (.is (.int .i64 cc)):=by
 subst hc;have h:=Z6F (P:=P) (L:=L) (Φ:=Φ) (dst:=dst) (ty:=ty) (pos:=pos) (after:=after) (g:=g) (xt:=xt) (yt:=yt) hx hy
 rwa [Z1H h1 h2]at h
theorem ZgB{cc:Int}(hx:H x (.is (.int .i64 a)))(hy:H y (.is (.int .i64 b)))(hc:a-b=cc)(h1: -9223372036854775808<=cc)(h2:cc<9223372036854775808):Ob P L Φ H ⟨dst,.binOp .sub xt x y yt,ty,pos,after,g⟩ (.is (.int .i64 cc)):=by
 subst hc;have h:=Zai (P:=P) (L:=L) (Φ:=Φ) (dst:=dst) (ty:=ty) (pos:=pos) (after:=after) (g:=g) (xt:=xt) (yt:=yt) hx hy
 rwa [Z1H h1 h2]at h
theorem Zi3{t e:TypeId}{ob:Obj}{n cap:Nat}(hu:P.underlying t=some (.slice e))(hx:H x (.newSl ob n cap)):Ob P L Φ H ⟨dst,.call {callee:=.builtin .len,args:= #[x],argTypes:= #[t]},ty,pos,after,g⟩ (.is (.int .i64 n)):=
 Z25 fun E w ρ hp=>by
  obtain⟨bb,h1,_,_⟩:=hp.x x _ (by simp[Op.operands,Call.operands]) hx
  simp[execOp,resolve,invoke,builtin,Builtin.len_,run_underlying hu,h1,goInt]
theorem J.loopF{α:Type}{body:Code}(Kf:α->List (Nat×Ty))(inv:α->Prop)(μ:α->Nat)(x0:α)(ss:List Nat)(h0:Sel K ss (Kf x0))(hi:inv x0)
  (h: ∀x,inv x->J P c (Kf x) L Φ body (Exit.then (fun a w=>∃x',inv x'/\μ x'<μ x/\ ∃E,SA c (Kf x') L Φ E a w) Q)):J P c K L Φ (.loop body) Q:=
 J.sel ss h0 (J.loop Kf (fun _=>L) (fun _=>Φ) inv μ x0 ⟨rfl,rfl,rfl⟩ hi h)
theorem JX.roundF{α:Type}{Kf:α->List (Nat×Ty)}{inv:α->Prop}{μ:α->Nat}{x:α}(x':α)(hi:inv x')(hμ:μ x'<μ x)(ss:List Nat)(hK:Sel K ss (Kf x')):
  JX c K L Φ .normal (Exit.then (fun a w=>∃x',inv x'/\μ x'<μ x/\ ∃E,SA c (Kf x') L Φ E a w) Q):=
 JX.round (Lf:=fun _=>L) (Φf:=fun _=>Φ) x' hi hμ ss hK rfl (fun _ h=>h)
end
structure CallM (P:Program) (f:FuncId) (ety:TypeId) (V0:Value) (Φ0:List (World->Prop)) (As:List Ty) (V1:Value) (R:Ty):Prop where
 enter: ∀args w,(callFunc f args).run P w= .ok (.enter f args) w
 calls: ∀(E:Nat->Prop) (w:World) (b:Nat) (vs:List Value),(∀b,E b->b<w.heap.size)->E b->w.heap[b]? =some (.cells V0.cells ety (0,0))->(∀F∈Φ0,Pers E w F)->TyAll E w As vs->
   Calls P f (.pointer (some ⟨b,0,none⟩)::vs).toArray w fun e w'=>∃v,e= .returned v/\Keeps (fun q=>q=b) w w'/\w'.heap[b]? =some (.cells V1.cells ety (0,0))/\R.p E v w'
section
theorem Zd8{f:FuncId}{ety:TypeId}{V0 V1:Value}{Φ0:List (World->Prop)}{As:List Ty}{R:Ty}(hc:CallM P f ety V0 Φ0 As V1 R){M M':List Own}{b:Nat}(hu:Upd M ⟨b,ety,.is V0⟩ ⟨b,ety,.is V1⟩ M')(hΦ: ∀F∈Φ0,F∈Φ)
   {E:Nat->Prop}{w:World}{vs:List Value}(hw: ∀b,E b->b<w.heap.size)(hf: ∀F∈Φ,Pers E w F)(ht:TyAll E w As vs)(hM: ∀m∈M,m.at E w)(hnd:(M.map (·.b)).Nodup):
   Runs P ((callFunc f (.pointer (some ⟨b,0,none⟩)::vs).toArray).run P w) fun v w'=>Keeps (fun b=>b∈M.map (·.b)) w w'/\R.p E v w'/\ ∀m∈M',m.at E w':=by
 rw[hc.enter];have hE:=(hM _ hu.mem).1;refine Calls.mono (hc.calls E w b vs hw hE (Z4u (hM _ hu.mem) rfl) (fun F hF=>hf F (hΦ F hF)) ht) ?_;rintro e w' ⟨v,rfl,hk,hb,hR⟩;have hev:Ev E w E w':=Ev.of_keeps (hk.mono fun q _ e=>by rw[e];exact hE);exact⟨hk.mono fun q _ e=>by rw[e];exact List.mem_map_of_mem hu.mem,hR,hu.all hnd (fun m hm hne=>Own.keep (hM m hm) hev (hk.blk _ (Z1d (hM m hm).2.choose_spec.1) hne)) ⟨hE,V1,hb,rfl⟩⟩
theorem Z9f{f:FuncId}{p:Operand}{xs:List Operand}{ats:Array TypeId}{ety:TypeId}{V0 V1:Value}{Φ0:List (World->Prop)}{As:List Ty}{R:Ty}{M M':List Own}{b:Nat}(hf:H (.func f) (.is (.func (.func f) #[] #[])))(hp':H p (.is (.pointer (some ⟨b,0,none⟩))))(hc:CallM P f ety V0 Φ0 As V1 R)
   (hu:Upd M ⟨b,ety,.is V0⟩ ⟨b,ety,.is V1⟩ M')(hΦ: ∀F∈Φ0,F∈Φ)(ha:Args L Φ H xs As):
   ObM P L Φ H M ⟨dst,.call {callee:=.value (.func f),args:=(p::xs).toArray,argTypes:=ats},ty,pos,after,g⟩ R M':=fun E w ρ hp hM hnd=>by
 have h1:ρ (.func f)= .func (.func f) #[] #[]:=hp.x _ _ (by simp[Op.operands,Call.operands]) hf;have h2:ρ p= .pointer (some ⟨b,0,none⟩):=hp.x p _ (by simp[Op.operands,Call.operands]) hp';have hall:=ha.all (ρ:=ρ) (Z2B hp) fun x T hx=>hp.x x T (by simp[Op.operands,Call.operands,hx]);have h3:=Zd8 hc hu hΦ hp.wf hp.f hall hM hnd;simp only[execOp,resolve,h1,Deferred.ofValue,invoke,Sem.run_bind,Sem.run_pure,Result.andThen_ok,List.map_toArray,List.map_cons,h2]
 simpa using h3
theorem ZiC{f:FuncId}{cal:Operand}{xs:List Operand}{ats:Array TypeId}{ety:TypeId}{V0 V1:Value}{Φ0:List (World->Prop)}{As:List Ty}{R:Ty}{M M':List Own}{b:Nat}(hf:H cal (.is (.func (.func f) #[.pointer (some ⟨b,0,none⟩)] #[])))(hc:CallM P f ety V0 Φ0 As V1 R)
   (hu:Upd M ⟨b,ety,.is V0⟩ ⟨b,ety,.is V1⟩ M')(hΦ: ∀F∈Φ0,F∈Φ)(ha:Args L Φ H xs As):
   ObM P L Φ H M ⟨dst,.call {callee:=.value cal,args:=xs.toArray,argTypes:=ats},ty,pos,after,g⟩ R M':=fun E w ρ hp hM hnd=>by
 have h1:ρ cal= .func (.func f) #[.pointer (some ⟨b,0,none⟩)] #[]:=hp.x _ _ (by simp[Op.operands,Call.operands]) hf;have hall:=ha.all (ρ:=ρ) (Z2B hp) fun x T hx=>hp.x x T (by simp[Op.operands,Call.operands,hx]);have h3:=Zd8 hc hu hΦ hp.wf hp.f hall hM hnd;simp only[execOp,resolve,h1,Deferred.ofValue,invoke,Sem.run_bind,Sem.run_pure,Result.andThen_ok,List.map_toArray]
 simpa using h3
def PostM(X:Nat->Prop)(W:World)(b:Nat)(ety:TypeId)(V1:Value)(R:Ty):Ending->World->Prop:=fun e w'=>∃v,e= .returned v/\Keeps (fun q=>q=b) W w'/\w'.heap[b]? =some (.cells V1.cells ety (0,0))/\R.p X v w'
variable{R:Ty}
theorem JX.retMOf{b:Nat}{ety:TypeId}{V1:Value}(ho:R.out=true)(hm:(⟨b,ety,.is V1⟩:Own)∈L)(hr: ∀a w E,SA ⟨n,X,fun q=>q=b,W,[]⟩ K L Φ E a w->∃v,(results fn a.tmps).run P w= .ok v w/\R.p E v w):JX ⟨n,X,fun q=>q=b,W,[]⟩ K L Φ .ret (bodyPost P fn (PostM X W b ety V1 R)):=by
 refine⟨?_⟩;intro E a w hs;obtain⟨v,h1,h2⟩:=hr a w E hs;exact⟨hs.d,v,h1,v,rfl,hs.keeps,Z4u (hs.l _ hm) rfl,Ty.weak (fun b _=>hs.x b) ho h2⟩
theorem JX.retM1is{b:Nat}{ety:TypeId}{V1:Value}{t:Nat}{V V':Value}(hres:fn.results= #[.tmp t])(hm:(⟨b,ety,.is V1⟩:Own)∈L)(h:look K t=some (.is V'))(he:V'=V):JX ⟨n,X,fun q=>q=b,W,[]⟩ K L Φ .ret (bodyPost P fn (PostM X W b ety V1 (.is V))):=by
 subst he;exact JX.retMOf rfl hm fun a w E hs=>⟨_,results_tmp hres _ _ _,hs.k t _ h⟩
theorem JX.retM0{b:Nat}{ety:TypeId}{V1:Value}(hres:fn.results= #[])(hm:(⟨b,ety,.is V1⟩:Own)∈L):JX ⟨n,X,fun q=>q=b,W,[]⟩ K L Φ .ret (bodyPost P fn (PostM X W b ety V1 (.is (.tuple #[])))):=
 JX.retMOf rfl hm fun a w E hs=>⟨_,results_none hres _ _ _,rfl⟩
theorem CallM.of{f:FuncId}{x:Code}{ety:TypeId}{V0 V1:Value}{Φ0:List (World->Prop)}{As:List Ty}(hf:P.funcs[f]? =some fn)(hb:fn.body=some x)(hn:fn.ntmps=n)(hl:Nat.ble (As.length+1) n=true)(he: ∀args w,(callFunc f args).run P w= .ok (.enter f args) w)
   (h: ∀(E:Nat->Prop) (W:World) (b:Nat),J P ⟨n,E,fun q=>q=b,W,[]⟩ ((0,.is (.pointer (some ⟨b,0,none⟩)))::params 1 As) [⟨b,ety,.is V0⟩] Φ0 x (bodyPost P fn (PostM E W b ety V1 R))):CallM P f ety V0 Φ0 As V1 R:=
 ⟨he,fun E w b vs hw hE hb0 hΦ ht=>by
   refine calls_of_wp hf hb ?_;rw[hn];refine(h E w b).out E _ w ?_;have h0:TyAll E w (.is (.pointer (some ⟨b,0,none⟩))::As) (.pointer (some ⟨b,0,none⟩)::vs):=⟨rfl,ht⟩;have hs:=Z4h (n:=n) hw h0 (Nat.le_of_ble_eq_true hl);refine⟨hs.n,hs.d,hw,hs.k,?_,by simp,hΦ,fun _ h=>h,hw,.refl _ _,fun o ho=>?_⟩
   · intro o ho
     rcases List.mem_cons.1 ho with rfl|ho
     · exact⟨hE,V0,hb0,rfl⟩
     · cases ho
   · rcases List.mem_cons.1 ho with rfl|ho
     · exact .inl rfl
     · cases ho⟩
end
section
variable{Φ':List (World->Prop)}
theorem JX.roundS{α:Type}{Kf:α->List (Nat×Ty)}{inv:α->Prop}{μ:α->Nat}{x:α}(x':α)(hi:inv x')(hμ:μ x'<μ x)(ss:List Nat)(hK:Sel K ss (Kf x'))(hL:L'.Sublist L)(hΦ:Φ'.Sublist Φ):
  JX c K L Φ .normal (Exit.then (fun a w=>∃x',inv x'/\μ x'<μ x/\ ∃E,SA c (Kf x') L' Φ' E a w) Q):=
 ⟨fun E a w h=>(JX.roundF (L:=L') (Φ:=Φ') x' hi hμ ss hK).out E a w (h.sub (fun _ _ h=>h) (fun _ ho=>hL.subset ho) ((hL.map _).nodup h.ld) (fun _ h=>hΦ.subset h))⟩
end
def RowAt(cs:List Value)(b o:Nat)(w:World):Prop:=∀j v,cs[j]? =some v->w.cell? ⟨b,o+j,none⟩=some v
theorem Zed{E:Nat->Prop}{w:World}{b o:Nat}(h:Pers E w fun w=>∃k n,w.cell? ⟨b,o,none⟩=some (.int k n)): ¬E b:=by
 intro hE;obtain⟨k,n,hc⟩:=h.now;unfold World.cell? at hc;cases hb:w.heap[b]? with
 |none=>simp[hb]at hc
 |some ob=>
   cases ob with
   |cells cs t fr=>
     have ho:o<cs.size:=by
       simp[hb]at hc
       exact(Array.getElem?_eq_some_iff.1 hc).1
     have hk:Keeps E w (w.setRow b (cs.setIfInBounds o (.bool true))):=by
       refine⟨rfl,rfl,rfl,by rw[Zb7];exact Nat.le_refl _,fun q _ hq=>Z2K w b _ (fun e=>hq (by rw[e];exact hE)),fun q cs' t' fr' hq=>?_⟩
       by_cases e:q=b
       · subst e
         rw[hb]at hq;injection hq with hq
         injection hq with h1 h2 h3
         subst h1 h2 h3;exact⟨_,Z3X w q _ _ _ _ hb,by simp⟩
       · exact⟨cs',(Z2K w b _ e).trans hq,rfl⟩
     obtain⟨k',n',hc'⟩:=h _ hk;rw[Z1I (Z3X w b _ _ _ _ hb),Array.getElem?_setIfInBounds_self_of_lt ho]at hc';injection hc' with hc'
     cases hc'
   |_=>simp[hb]at hc
inductive Ex where
 |mk (k vk vn:Int) (vs tb nm:ByteArray) (sl:Int) (kids:List Ex)
def exCells(k vk vn:Int)(vs tb nm:ByteArray)(sl:Int)(a:Option Addr)(len cap:Nat):List Value:=
 [.int .i64 k,.int .i64 vk,.int .i64 vn,.string vs,.string tb,.string nm,.int .i64 sl,.slice a len cap]
mutual
def ExR:Ex->Value->World->Prop
 | .mk k vk vn vs tb nm sl kids,v,w=>∃a len cap,v= .agg (exCells k vk vn vs tb nm sl a len cap).toArray/\kids.length=len/\(len≠0->∃b o,a=some ⟨b,o,none⟩/\KidsAt kids b o w)
def KidsAt:List Ex->Nat->Nat->World->Prop
 |[],_,_,_=>True
 |x::xs,b,o,w=>(∃cs:List Value,cs.length=8/\ExR x (.agg cs.toArray) w/\RowAt cs b o w)/\KidsAt xs b (o+8) w
end
def KidsR(kids:List Ex)(a:Option Addr)(len:Nat)(w:World):Prop:=kids.length=len/\(len≠0->∃b o,a=some ⟨b,o,none⟩/\KidsAt kids b o w)
def ExsR(kids:List Ex)(v:Value)(w:World):Prop:=∃a len cap,v= .slice a len cap/\KidsR kids a len w
theorem Z5J{k vk vn:Int}{vs tb nm:ByteArray}{sl:Int}{kids:List Ex}{v:Value}{w:World}:ExR (.mk k vk vn vs tb nm sl kids) v w↔ ∃a len cap,v= .agg (exCells k vk vn vs tb nm sl a len cap).toArray/\KidsR kids a len w:=by
 rw[ExR];rfl
theorem Z5E{x:Ex}{cs:List Value}{w:World}(h:ExR x (.agg cs.toArray) w): ∃k n,cs[0]? =some (.int k n):=by
 cases x with
 |mk k vk vn vs tb nm sl kids=>
   obtain⟨a,len,cap,e,_⟩:=Z5J.1 h;injection e with e
   injection e with e
   subst e;exact⟨_,_,rfl⟩
theorem Z9x: ∀(kids:List Ex) (b o:Nat) (w:World) (i:Nat) (x:Ex),KidsAt kids b o w->kids[i]? =some x->∃cs:List Value,cs.length=8/\ExR x (.agg cs.toArray) w/\RowAt cs b (o+8*i) w
 |[],_,_,_,_,_,_,h=>by simp at h
 |y::ys,b,o,w,0,x,h,hi=>by
   rw[KidsAt]at h
   simp at hi
   subst hi;exact h.1
 |y::ys,b,o,w,i+1,x,h,hi=>by
   rw[KidsAt]at h;obtain⟨cs,h1,h2,h3⟩:=Z9x ys b (o+8) w i x h.2 (by simpa using hi);exact⟨cs,h1,h2,by rw[show o+8*(i+1)=o+8+8*i by omega];exact h3⟩
theorem ZbC{E:Nat->Prop}{w:World}{kids:List Ex}{b o len i:Nat}{x:Ex}(h:Pers E w (KidsR kids (some ⟨b,o,none⟩) len))(hi:kids[i]? =some x):
   ∃cs:List Value,cs.length=8/\RowAt cs b (o+8*i) w/\Pers E w (ExR x (.agg cs.toArray)):=by
 have at_: ∀w',Keeps E w w'->∃cs:List Value,cs.length=8/\ExR x (.agg cs.toArray) w'/\RowAt cs b (o+8*i) w':=fun w' hk=>by
   obtain⟨hl,hk⟩:=h w' hk;have hne:len≠0:=fun e=>by rw[e]at hl;rw[List.length_eq_zero_iff.1 hl]at hi;simp at hi
   obtain⟨b',o',e,hK⟩:=hk hne;injection e with e
   injection e with e1 e2
   subst e1 e2;exact Z9x kids b o w' i x hK hi
 have hE: ¬E b:=Zed (o:=o+8*i) fun w' hk=>by
   obtain⟨cs,_,h2,h3⟩:=at_ w' hk
   obtain⟨k,n,h0⟩:=Z5E h2;exact⟨k,n,h3 0 _ h0⟩
 obtain⟨cs,h1,h2,h3⟩:=at_ w (.refl _ _)
 have hblk: ∃C t fr,w.heap[b]? =some (.cells C t fr):=by
   obtain⟨k,n,h0⟩:=Z5E h2;have hc:=h3 0 _ h0;unfold World.cell? at hc;cases hb:w.heap[b]? with
   |none=>simp[hb]at hc
   |some ob=>cases ob with
     |cells C t fr=>exact⟨C,t,fr,rfl⟩
     |_=>simp[hb]at hc
 obtain⟨C,t,fr,hC⟩:=hblk;refine⟨cs,h1,h3,fun w' hk=>?_⟩;obtain⟨cs',e1,e2,e3⟩:=at_ w' hk
 have hsame:cs'=cs:=by
   apply List.ext_getElem (by omega);intro j hj hj';have a1:=e3 j _ (List.getElem?_eq_getElem hj);have a2:=h3 j _ (List.getElem?_eq_getElem hj');rw[Z1I (hk.get hC hE)]at a1;rw[Z1I hC]at a2;rw[a1]at a2;injection a2
 rw[<-hsame];exact e2
theorem Z7Y: ∀(kids:List Ex) (css:List (List Value)) (b o:Nat) (w:World),kids.length=css.length->(∀(i:Nat) (x:Ex) (cs:List Value),kids[i]? =some x->css[i]? =some cs->cs.length=8/\ExR x (.agg cs.toArray) w)->RowAt css.flatten b o w->KidsAt kids b o w
 |[],_,_,_,_,_,_,_=>by rw[KidsAt];trivial
 |x::xs,[],_,_,_,h,_,_=>by simp at h
 |x::xs,cs::css,b,o,w,h,hx,hr=>by
   obtain⟨h8,hR⟩:=hx 0 x cs rfl rfl;rw[KidsAt];refine⟨⟨cs,h8,hR,fun j v hj=>hr j v ?_⟩,Z7Y xs css b (o+8) w (by simpa using h) (fun i y c hy hc=>hx (i+1) y c (by simpa using hy) (by simpa using hc)) fun j v hj=>?_⟩
   · rw[List.flatten_cons,List.getElem?_append_left (List.getElem?_eq_some_iff.1 hj).1];exact hj
   · rw[show o+8+j=o+(8+j) by omega]
     refine hr (8+j) v ?_;rw[List.flatten_cons,List.getElem?_append_right (by omega),h8,Nat.add_sub_cancel_left];exact hj
structure V3 where
 k:Int
 n:Int
 s:ByteArray
theorem Sub.fact{V:Value}{R:Value->World->Prop}(h:R V∈Φ):Sub L Φ (.is V) (.rep R):=fun E v w hf e=>by
 rw[show v=V from e];exact hf.2 _ h
theorem Z8k{t:TypeId}{b o:Nat}{cs:List Value}{w:World}(hs:szOf P t=some (some cs.length))(h:RowAt cs b o w):(loadVar t ⟨b,o,none⟩).run P w= .ok (.agg cs.toArray) w:=
 Zag hs fun j v hj=>by rw[Z4t];exact h j v hj
theorem Z1q{t:TypeId}{x:Operand}{b o off i len:Nat}{kids:List Ex}{kid:Ex}{a:Option Addr}(hs:szOf P t=some (some 8))(hx:H x (.is (.pointer (some ⟨b,off,none⟩))))(hF:KidsR kids a len∈Φ)(ha:a=some ⟨b,o,none⟩)(hi:kids[i]? =some kid)(ho:off=o+8*i):
  Ob P L Φ H ⟨dst,.load t x,ty,pos,after,g⟩ (.rep (ExR kid)):=fun E w ρ hp=>by
 subst ha;have h1:ρ x= .pointer (some ⟨b,off,none⟩):=hp.x x _ (by simp[Op.operands]) hx;obtain⟨cs,h8,hr,hR⟩:=ZbC (hp.f _ hF) hi;have hl:=Z8k (P:=P) (t:=t) (w:=w) (by rw[h8];exact hs) (by rw[<-ho]at hr;exact hr);simp only[execOp,h1,Instr.loadAt,Instr.sureAddr,Sem.run_bind,Sem.run_pure,Result.andThen_ok,hl];exact⟨.refl _ _,hR⟩
theorem Z54{a b:List Value}(h:Value.agg a.toArray= .agg b.toArray):a=b:=by
 injection h with h
 injection h
theorem J.openEx{x:Code}{s:Nat}{k vk vn:Int}{vs tb nm:ByteArray}{sl:Int}{kids:List Ex}(h:look K s=some (.rep (ExR (.mk k vk vn vs tb nm sl kids))))
   (hj: ∀a len cap b o,kids.length=len->(len≠0->a=some ⟨b,o,none⟩)->J P c ((s,.is (.agg (exCells k vk vn vs tb nm sl a len cap).toArray))::K) L (KidsR kids a len::ExR (.mk k vk vn vs tb nm sl kids) (.agg (exCells k vk vn vs tb nm sl a len cap).toArray)::Φ) x Q):J P c K L Φ x Q:=by
 refine J.open_ h ?_;rintro v ⟨w,hw⟩;obtain⟨a,len,cap,rfl,hl,hk⟩:=Z5J.1 hw;obtain⟨b,o,hbo⟩: ∃b o,len≠0->a=some ⟨b,o,none⟩:=by
   by_cases hn:len=0
   · exact⟨0,0,fun h=>absurd hn h⟩
   · obtain⟨b,o,e,_⟩:=hk hn;exact⟨b,o,fun _=>e⟩
 refine J.fact (KidsR kids a len) (fun E w hG _=>?_) (hj a len cap b o hl hbo);intro w' hk';obtain⟨a',len',cap',e,hK⟩:=Z5J.1 (hG _ List.mem_cons_self w' hk');have e2:=Z54 e;simp only[exCells,List.cons.injEq,Value.slice.injEq,and_true,true_and]at e2;obtain⟨rfl,rfl,rfl⟩:=e2;exact hK
theorem J.openExs{x:Code}{s:Nat}{kids:List Ex}(h:look K s=some (.rep (ExsR kids)))
   (hj: ∀a len cap b o,kids.length=len->(len≠0->a=some ⟨b,o,none⟩)->J P c ((s,.is (.slice a len cap))::K) L (KidsR kids a len::ExsR kids (.slice a len cap)::Φ) x Q):J P c K L Φ x Q:=by
 refine J.open_ h ?_;rintro v ⟨w,a,len,cap,rfl,hl,hk⟩;obtain⟨b,o,hbo⟩: ∃b o,len≠0->a=some ⟨b,o,none⟩:=by
   by_cases hn:len=0
   · exact⟨0,0,fun h=>absurd hn h⟩
   · obtain⟨b,o,e,_⟩:=hk hn;exact⟨b,o,fun _=>e⟩
 refine J.fact (KidsR kids a len) (fun E w hG _=>?_) (hj a len cap b o hl hbo);intro w' hk';obtain⟨a',len',cap',e,hK⟩:=hG _ List.mem_cons_self w' hk';injection e with e1 e2 e3
 subst e1 e2;exact hK
structure VEq (P:Program) (t ti tj ts:TypeId):Prop where
 ht:P.underlying t=some (.struct (P.fieldsOf t))
 hp:P.stoodInHeld t=false
 hg:P.eqGuardType P.depth t=false
 hf:(P.fieldsOf t).toList.map (fun f=>(f.name== "_",f.type,f.offset))=[(false,ti,0),(false,tj,1),(false,ts,2)]
 h1:P.underlying ti=some (.int .i64)
 h2:P.underlying tj=some (.int .i64)
 h3:P.underlying ts=some .string
section
variable{yt:TypeId}{x y:Operand}
end
theorem Sub.exMk{k vk vn:Int}{vs tb nm:ByteArray}{sl:Int}{kids:List Ex}{a:Option Addr}{len cap:Nat}(h:KidsR kids a len∈Φ):
  Sub L Φ (.is (.agg (exCells k vk vn vs tb nm sl a len cap).toArray)) (.rep (ExR (.mk k vk vn vs tb nm sl kids))):=fun E v w hf e=>by
 rw[show v=_ from e];exact fun w' hk=>Z5J.2 ⟨a,len,cap,rfl,hf.2 _ h w' hk⟩
theorem Z6l{x:Ex}{v:Value}{w:World}(h:ExR x v w): ∃k vk vn vs tb nm sl a len cap,v= .agg (exCells k vk vn vs tb nm sl a len cap).toArray:=by
 cases x with
 |mk k vk vn vs tb nm sl kids=>
   obtain⟨a,len,cap,e,_⟩:=Z5J.1 h;exact⟨_,_,_,_,_,_,_,_,_,_,e⟩
theorem Zg6{E:Nat->Prop}{w:World}{es:List Ex}{css:List (List Value)}{e:TypeId}{n:Nat}(hl:es.length=css.length)(hn:es.length=n)
   (h: ∀(i:Nat) (x:Ex) (cs:List Value),es[i]? =some x->css[i]? =some cs->cs.length=8/\Pers E w (ExR x (.agg cs.toArray)))(hE: ¬E w.heap.size):
   Pers E (w.alloc (.cells css.flatten.toArray e (0,0))) (ExsR es (.slice (some ⟨w.heap.size,0,none⟩) n n)):=fun w' hk=>by
 refine⟨_,_,_,rfl,hn,fun _=>⟨_,_,rfl,Z7Y es css _ _ w' hl (fun i x cs hx hc=>?_) ?_⟩⟩
 · obtain⟨h1,h2⟩:=h i x cs hx hc
   exact⟨h1,h2 w' (((Keeps.alloc w _).mono fun _ _ h=>h.elim).trans hk)⟩
 · intro j v hj
   rw[Z1I (hk.get (Z2i w _) hE),Nat.zero_add]
   simpa using hj
abbrev exZ:List Value:=[.int .i64 0,.int .i64 0,.int .i64 0,.string ⟨#[]⟩,.string ⟨#[]⟩,.string ⟨#[]⟩,.int .i64 0,.slice none 0 0]
theorem Z2b{t e:TypeId}{x:Operand}{ex:Ex}(hsh:SlShape P t e 8 exZ)(hx:H x (.rep (ExR ex))):
   Ob P L Φ H ⟨dst,.buildSlice t 1 #[(0,x)],ty,pos,after,g⟩ (.rep (ExsR [ex])):=fun E w ρ hp=>by
 have h1:Pers E w (ExR ex (ρ x)):=hp.x x _ (by simp[Op.operands]) hx;obtain⟨k,vk,vn,vs,tb,nm,sl,a,len,cap,hv⟩:=Z6l h1.now;rw[hv]at h1;have hb:=Z4G (P:=P) 1 (vs:=[(0,.agg (exCells k vk vn vs tb nm sl a len cap).toArray)]) (cs:=exCells k vk vn vs tb nm sl a len cap) w hsh (by omega) (by omega) rfl rfl rfl;have hr:(execOp ρ ⟨dst,.buildSlice t 1 #[(0,x)],ty,pos,after,g⟩).run P w= .ok (.value (.slice (some ⟨w.heap.size,0,none⟩) 1 1)) (w.alloc (.cells (exCells k vk vn vs tb nm sl a len cap).toArray e)):=by
   simp only[execOp];have hb':(Instr.buildSlice t 1 #[(0,Value.agg (exCells k vk vn vs tb nm sl a len cap).toArray)]).run P w=_:=hb
   simp[hv,hb']
 rw[hr];refine⟨Keeps.alloc w _,?_⟩;have:=Zg6 (E:=E) (w:=w) (es:=[ex]) (css:=[exCells k vk vn vs tb nm sl a len cap]) (e:=e) (n:=1) rfl rfl (fun i y cs hy hc=>?_) (fun he=>absurd (hp.wf _ he) (by omega))
 · simpa [Ty.p] using this
 · match i with
   |0=>simp at hy hc;subst hy hc;exact⟨rfl,h1⟩
   |i+1=>simp at hy
theorem Z6s{t e:TypeId}{x y:Operand}{ex ey:Ex}(hsh:SlShape P t e 8 exZ)(hx:H x (.rep (ExR ex)))(hy:H y (.rep (ExR ey))):
   Ob P L Φ H ⟨dst,.buildSlice t 2 #[(0,x),(1,y)],ty,pos,after,g⟩ (.rep (ExsR [ex,ey])):=fun E w ρ hp=>by
 have h1:Pers E w (ExR ex (ρ x)):=hp.x x _ (by simp[Op.operands]) hx;have h2:Pers E w (ExR ey (ρ y)):=hp.x y _ (by simp[Op.operands]) hy;obtain⟨k,vk,vn,vs,tb,nm,sl,a,len,cap,hv⟩:=Z6l h1.now;obtain⟨k',vk',vn',vs',tb',nm',sl',a',len',cap',hv'⟩:=Z6l h2.now;rw[hv]at h1;rw[hv']at h2;have hb:=Z4G (P:=P) 2 (vs:=[(0,.agg (exCells k vk vn vs tb nm sl a len cap).toArray),(1,.agg (exCells k' vk' vn' vs' tb' nm' sl' a' len' cap').toArray)]) (cs:=exCells k vk vn vs tb nm sl a len cap++exCells k' vk' vn' vs' tb' nm' sl' a' len' cap') w hsh (by omega) (by omega) rfl rfl rfl;have hr:(execOp ρ ⟨dst,.buildSlice t 2 #[(0,x),(1,y)],ty,pos,after,g⟩).run P w= .ok (.value (.slice (some ⟨w.heap.size,0,none⟩) 2 2)) (w.alloc (.cells (exCells k vk vn vs tb nm sl a len cap++exCells k' vk' vn' vs' tb' nm' sl' a' len' cap').toArray e)):=by
   simp only[execOp];have hb':(Instr.buildSlice t 2 #[(0,Value.agg (exCells k vk vn vs tb nm sl a len cap).toArray),(1,Value.agg (exCells k' vk' vn' vs' tb' nm' sl' a' len' cap').toArray)]).run P w=_:=hb
   simp[hv,hv',hb']
 rw[hr];refine⟨Keeps.alloc w _,?_⟩;have:=Zg6 (E:=E) (w:=w) (es:=[ex,ey]) (css:=[exCells k vk vn vs tb nm sl a len cap,exCells k' vk' vn' vs' tb' nm' sl' a' len' cap']) (e:=e) (n:=2) rfl rfl (fun i z cs hz hc=>?_) (fun he=>absurd (hp.wf _ he) (by omega))
 · simpa [Ty.p] using this
 · match i with
   |0=>simp at hz hc;subst hz hc;exact⟨rfl,h1⟩
   |1=>simp at hz hc;subst hz hc;exact⟨rfl,h2⟩
   |i+2=>simp at hz
section
variable{R:Ty}
theorem JX.retCsub{s b m:Nat}{t ety:TypeId}{cs:Array Value}(hres:fn.results= #[.cell s t])(h:look K s=some (.is (.pointer (some ⟨b,0,none⟩))))(hs':szOf P t=some (some m))(hm:⟨b,ety,.is (.agg cs)⟩∈L)(hn:cs.size=m)(ho:R.out=true)(hS:Sub L Φ (.is (.agg cs)) R):
   JX ⟨n,X,noX,W,[]⟩ K L Φ .ret (bodyPost P fn (Post X W R)):=
 JX.retOf ho fun a w E hs=>by
   obtain⟨v,h1,h2⟩:=Z4L (P:=P) hs' (hs.l _ hm) (Z1o hn);have e:a.tmps.getD s undef= .pointer (some ⟨b,0,none⟩):=hs.k s _ h;rw[Array.getD_eq_getD_getElem?]at e;exact⟨v,by simp[results,hres,Array.getD_eq_getD_getElem?,e,asAddr,h1],hS E v w ⟨hs.l,hs.f⟩ h2⟩
theorem JX.ret1sub{t:Nat}{T:Ty}(hres:fn.results= #[.tmp t])(ho:R.out=true)(h:look K t=some T)(hS:Sub L Φ T R):JX ⟨n,X,noX,W,[]⟩ K L Φ .ret (bodyPost P fn (Post X W R)):=
 JX.retOf ho fun _ _ _ hs=>⟨_,results_tmp hres _ _ _,hS _ _ _ ⟨hs.l,hs.f⟩ (hs.k t _ h)⟩
end
def I64(n:Int):Prop:= -9223372036854775808<=n/\n<9223372036854775808
mutual
def exRng:Ex->Prop
 | .mk k vk vn _ _ _ sl kids=>I64 k/\I64 vk/\I64 vn/\I64 sl/\exsRng kids
def exsRng:List Ex->Prop
 |[]=>True
 |x::xs=>exRng x/\exsRng xs
end
theorem Z3G{t e:TypeId}{x i:Operand}{b o m sz:Nat}{k:IntKind}{n:Int}(hu:P.underlying t=some (.array m e))(hs:(P.info? e).map (·.size)=some sz)(hx:H x (.is (.pointer (some ⟨b,o,none⟩))))(hi:H i (.is (.int k n)))(h0:0<=n)(h1:n<m):
   Ob P L Φ H ⟨dst,.indexAddr t x i,ty,pos,after,g⟩ (.is (.pointer (some ⟨b,o+n.toNat*sz,none⟩))):=
 Z25 fun E w ρ hp=>by
   have e1:ρ x= .pointer (some ⟨b,o,none⟩):=hp.x x _ (by simp[Op.operands]) hx;have e2:ρ i= .int k n:=hp.x i _ (by simp[Op.operands]) hi;cases hq:P.info? e with
   |none=>simp[hq]at hs
   |some ie=>
     simp only[hq,Option.map_some,Option.some.injEq]at hs
     simp[execOp,e1,e2,Instr.indexAt,Instr.sureAddr,asIntOf,run_underlying hu,h0,h1,sizeOf,typeInfo,hq,hs,Z4t]
theorem Z1S{x:Ex}: ∀E v w,(Ty.rep (ExR x)).p E v w->∃cs,v= .agg cs/\cs.size=8:=fun E v w h=>by
 obtain⟨k,vk,vn,vs,tb,nm,sl,a,len,cap,e⟩:=Z6l (Pers.now h);exact⟨_,e,rfl⟩
theorem Zm4{x:Ex}:Cnt (.rep (ExR x)) 8:=fun E v w h=>by
 obtain⟨k,vk,vn,vs,tb,nm,sl,a,len,cap,e⟩:=Z6l (Pers.now h);subst e;exact⟨rfl,by intro u hu;simp[exCells,Value.cells]at hu;rcases hu with rfl|rfl|rfl|rfl|rfl|rfl|rfl|rfl<;>rfl⟩
theorem Z1J{t ety:TypeId}{x:Operand}{b:Nat}{ex:Ex}(hs:szOf P t=some (some 8))(hx:H x (.is (.pointer (some ⟨b,0,none⟩))))[hm:HasOwn L b ety (.rep (ExR ex))]:Ob P L Φ H ⟨dst,.load t x,ty,pos,after,g⟩ (.rep (ExR ex)):=fun E w ρ hp=>by
 have h1:ρ x= .pointer (some ⟨b,0,none⟩):=hp.x x _ (by simp[Op.operands]) hx;obtain⟨v,hl,hv⟩:=Z4L (P:=P) hs (hp.l _ hm.mem) Z1S;simp only[execOp,h1,Instr.loadAt,Instr.sureAddr,Sem.run_bind,Sem.run_pure,Result.andThen_ok,hl];exact⟨.refl _ _,hv⟩
abbrev numE(n:Int):Ex:=.mk 1 1 n ⟨#[]⟩ ⟨#[]⟩ ⟨#[]⟩ 0 []
structure ValTy (P:Program) (tV tI tJ tS:TypeId):Prop where
 hV:P.underlying tV=some (.struct (P.fieldsOf tV))
 fV:(P.fieldsOf tV).map (fun f=>(f.type,f.offset))= #[(tI,0),(tJ,1),(tS,2)]
 hI:P.underlying tI=some (.int .i64)
 hJ:P.underlying tJ=some (.int .i64)
 hS:P.underlying tS=some .string
 cV:P.cellsOf tV=3
 cI:P.cellsOf tI=1
 cJ:P.cellsOf tJ=1
 cS:P.cellsOf tS=1
structure ExTy (P:Program) (tE tEs tV tI tJ tS:TypeId):Prop extends ValTy P tV tI tJ tS where
 hE:P.underlying tE=some (.struct (P.fieldsOf tE))
 fE:(P.fieldsOf tE).map (fun f=>(f.type,f.offset))= #[(tI,0),(tV,1),(tS,4),(tS,5),(tI,6),(tEs,7)]
 hEs:P.underlying tEs=some (.slice tE)
 cE:P.cellsOf tE=8
 cEs:P.cellsOf tEs=1
section
variable{H:Type}{enc:TypeId×Value->H}{w:World}{base:Nat}{spare:Nat->Bool}{held:Bool}
end
end Go.Vc
namespace Go.Vc
open Go Go.RowKit Go.WideShapes Go.ChangeShapes
theorem Keeps.below{w w':World}(h:Keeps noX w w'):Below w.heap.size w w':=⟨h.os,h.tape,h.output,h.size,fun k hk=>h.blk k hk id⟩
section
variable{H:Type}{enc:TypeId×Value->H}{P:Program}
theorem Z9T(hl:laidOutB P=true){W W':World}{sp:Nat->Bool}(hb:Below W.heap.size W W'): ∀{ts:List TypeId} {vs:List Value} {ds:List (DataW H)} {ps:List MemPlace},
   (∀t∈ts,P.readableRec t=true/\t<P.types.size)->DataW.TrodAll enc P W 0 (fun _=>true) true ts vs ds ps->(∀p∈ps,p.block<W.heap.size)->(∀p∈ps,sp p.block=true)->DataW.TrodAll enc P W' 0 sp true ts vs ds ps
 |[],[],[],_,_,h,_,_=>h
 |t::ts,_::_,_::_,_,hT,⟨p,q,h1,h2,e⟩,hlt,hs=>by
   subst e;have ht:=hT t List.mem_cons_self;exact⟨p,q,WideElems.Trod_stays hl ht.1 ht.2 h1 (fun x hx=>hb.same (hlt x (List.mem_append_left _ hx))) (fun x hx=>hs x (List.mem_append_left _ hx)),
     Z9T hl hb (fun u hu=>hT u (List.mem_cons_of_mem _ hu)) h2 (fun x hx=>hlt x (List.mem_append_right _ hx)) (fun x hx=>hs x (List.mem_append_right _ hx)),rfl⟩
theorem Zit{f:Func}{s:ChangeSpec}{handsOn again:Bool}{tB:TypeId}{W W':World}{args:Array Value}{ds:List (DataW H)}{before:List MemPlace}
   (hl:laidOutB P=true)(hT: ∀t∈f.params.toList,P.readableRec t=true/\t<P.types.size)(hB:P.underlying tB=some .bool)(hr:f.resultTypes= #[tB])(hv:s.vars=[])
   (hs1:(s.fn H ds).results=[.lit (.bool true)])(hs2:(s.fn H ds).args=ds)(hs3:(s.fn H ds).vars=[])
   (hW:DataW.Whole enc P f.params.toList s.vars false W args.toList ds [] before)(hk:Keeps noX W W'):s.post enc P f false true handsOn again W args (.bool true) W':=by
 have hb:=hk.below;have hlt: ∀p∈before,p.block<W.heap.size:=fun p hp=>hW.lt p hp;have hW':=hW;obtain⟨p,q,hA,hV,rfl,hz,hn⟩:=hW;rw[hv]at hV;obtain⟨_,rfl⟩:=trodVars_none hV;simp only[List.append_nil]at hlt hz;have hA': ∀sp:Nat->Bool,(∀x∈p,sp x.block=true)->DataW.TrodAll enc P W' 0 sp true f.params.toList args.toList ds p:=fun sp hsp=>Z9T hl hb hT hA hlt hsp;have hres: ∀(b:Nat) (sp:Nat->Bool) (hd:Bool),DataW.TrodAll enc P W' b sp hd f.resultTypes.toList ((Value.bool true).resultList f.resultTypes.size) (s.fn H (ds++[])).results []:=fun b sp hd=>by
   rw[List.append_nil,hs1,hr];exact trodAll_mk1 (shut_bool hB _)
 have hold: ∀x∈p,(fun b=>decide (b<W.heap.size)) x.block=true:=fun x hx=>by simpa using hlt x hx
 have hvar: ∀sp:Nat->Bool,DataW.TrodVars enc P W' sp s.vars (s.fn H (ds++[])).vars []:=fun sp=>by
   rw[List.append_nil,hs3,hv]
   rfl
 have harg: ∀sp:Nat->Bool,(∀x∈p,sp x.block=true)->DataW.TrodAll enc P W' 0 sp true f.params.toList args.toList (s.fn H (ds++[])).args p:=fun sp hsp=>by
   rw[List.append_nil,hs2];exact hA' sp hsp
 refine⟨ds,[],p++[],[],p,[],hW',hres _ _ _,harg _ hold,hvar _,World.keptBut_mono (fun x hx=>⟨hx,Or.inr (by simpa using hx)⟩) (hb.frame (· ∈p++[])),fun _=>?_⟩;refine⟨ok_one (by rw[hr]) rfl (okWide_bool_mk hB _),_,_,([]++p)++[],⟨[]++p,[],trodAll_append (harg _ (fun _ _=>rfl)) (hres _ _ _),hvar _,rfl,?_,?_⟩,?_⟩
 · intro b off hp
   have hin:MemPlace.cell b off∈p:=by simpa using hp
   rw[hb.frozen (hlt _ hin)];exact hz b off hin
 · intro ha
   cases ha
 · intro x hx _
   simpa using hx
end
end Go.Vc
namespace Go.Vc
open Go Go.WideShapes
theorem mem1{p:TypeId->Prop}{a:TypeId}(ha:p a): ∀t∈[a],p t:=by simpa using ha
end Go.Vc
namespace Go.Vc
open Go Go.RowKit Go.WideShapes Go.ChangeShapes
section
variable{P:Program}{c:Ctx}{K:List (Nat×Ty)}{L:List Own}{Φ:List (World->Prop)}{Q:Exit->Act->World->Prop}
end
section
variable{P:Program}{L:List Own}{Φ:List (World->Prop)}{H:Know}{o:Oper}
end
structure NullTy (P:Program) (tN tE tEs tVs tV tI tJ tS tU tB:TypeId):Prop extends ExTy P tE tEs tV tI tJ tS where
 hN:P.underlying tN=some (.struct (P.fieldsOf tN))
 fN:(P.fieldsOf tN).map (fun f=>(f.type,f.offset))= #[(tU,0),(tE,1),(tVs,9),(tB,10)]
 hVs:P.underlying tVs=some (.slice tV)
 hU:P.underlying tU=some (.int .u8)
 hB:P.underlying tB=some .bool
 cN:P.cellsOf tN=11
 cVs:P.cellsOf tVs=1
 cU:P.cellsOf tU=1
 cB:P.cellsOf tB=1
def opOf{H:Type}:DataW H->Int
 | .lit (.int _ n)=>n
 |_=>0
section
variable{H:Type}{enc:TypeId×Value->H}{P:Program}{w:World}{base:Nat}{spare:Nat->Bool}{held:Bool}
end
section
variable{P:Program}
theorem ZcN{t tx ty e:TypeId}{i:TypeInfo}{z:Value}(ht:P.underlying t=some (.slice e))(hi:P.info? e=some i)(hz:i.zero=some z)(hzs:z.cells.size=i.size)
   {w:World}{b len cap n:Nat}{cs news:List Value}{x:Value}(hb:w.heap[b]? =some (.cells cs.toArray e (0,0)))(hc:cs.length=cap*i.size)(hl:len<=cap)(hs:Src P i.size tx x n news w)(hfit:(len+n)*i.bytes<=140737488355328)(h63:len+n<=9223372036854775807):
   ∃(b' cap':Nat) (cs':List Value) (w':World),(Builtin.append_ #[t,tx] ty #[.slice (some ⟨b,0,none⟩) len cap,x]).run P w= .ok (.slice (some ⟨b',0,none⟩) (len+n) cap') w'/\cs'.length=cap'*i.size/\len+n<=cap'/\
     cs'.take ((len+n)*i.size)=cs.take (len*i.size)++news/\w'.heap[b']? =some (.cells cs'.toArray e (0,0))/\Keeps (fun q=>q=b) w w'/\(b'=b\/w.heap.size<=b'):=by
 have hnl:=hs.newsLen
 by_cases hroom:len+n<=cap
 · have hm:len*i.size+n*i.size<=cap*i.size:=by rw[<-Nat.add_mul];exact Nat.mul_le_mul_right _ hroom
   have hst:=run_storeCells_at (P:=P) b (len*i.size) e news 0 cs.toArray w hb (by simp;omega) hs.one;refine⟨b,cap,cs.take (len*i.size)++news++cs.drop (len*i.size+news.length),w.setRow b (cs.take (len*i.size)++news++cs.drop (len*i.size+news.length)).toArray,?_,?_,hroom,?_,Z3X w b _ _ _ _ hb,Keeps.setRow w b _ _ _ hb ?_,Or.inl rfl⟩
   · simp only[Nat.add_zero]at hst
     have ha: ∀m,(⟨b,0,none⟩:Addr).add m=⟨b,m,none⟩:=fun m=>by rw[Z4t];simp
     rcases hs.kind with⟨e',hk⟩|hk<;>simp[Builtin.append_,run_underlying ht,run_underlying hk,sizeOf,typeInfo,hi,hs.len,hroom,hs.cells,ha,hst]
   · simp;omega
   · rw[List.take_append_of_le_length (by simp;rw[Nat.add_mul];omega),List.take_of_length_le (by simp;rw[Nat.add_mul];omega)]
   · simp;omega
 · have hold:(Builtin.firstCells i.size len (.slice (some ⟨b,0,none⟩) len cap)).run P w.drew= .ok (cs.take (len*i.size)).toArray w.drew:=by
     have hle:len*i.size<=cap*i.size:=Nat.mul_le_mul_right _ hl;refine run_firstCells_some _ _ _ _ _ _ _ (by simp;omega) fun j v hj=>?_;have hd:w.drew.heap[b]? =some (.cells cs.toArray e (0,0)):=hb;rw[Z4t,Z1I hd,Nat.zero_add];rw[List.getElem?_take]at hj
     split at hj
     · simpa using hj
     · cases hj
   have hg:cap<len+n:=by omega
   have hr:=run_append_grow_src (P:=P) w t tx ty e i z ht hi hz (some ⟨b,0,none⟩) len cap (cs.take (len*i.size)) hold x n news hs hg (by omega) (growslice_fits hg hfit);have hge:=grownCap_ge w (len+n) cap e;refine⟨w.heap.size,grownCap w (len+n) cap e,(cs.take (len*i.size)++news)++(Builtin.zeroCells z.cells (grownCap w (len+n) cap e-(len+n))).toList,_,hr,?_,hge,?_,?_,?_,Or.inr (Nat.le_refl _)⟩
   · have hle:len*i.size<=cap*i.size:=Nat.mul_le_mul_right _ hl
     have:(Builtin.zeroCells z.cells (grownCap w (len+n) cap e-(len+n))).size=(grownCap w (len+n) cap e-(len+n))*i.size:=by simp[Builtin.zeroCells,hzs]
     simp only[List.length_append,List.length_take,Array.length_toList,this,hnl];rw[Nat.min_eq_left (by omega),<-Nat.add_mul,<-Nat.add_mul]
     congr 1
     omega
   · have hle:len*i.size<=cap*i.size:=Nat.mul_le_mul_right _ hl
     rw[List.take_append_of_le_length (by simp[hnl];rw[Nat.add_mul];omega),List.take_of_length_le (by simp[hnl];rw[Nat.add_mul];omega)]
   · have:=Z2i w.drew (.cells ((cs.take (len*i.size)++news).toArray++Builtin.zeroCells z.cells (grownCap w (len+n) cap e-(len+n))) e (0,0))
     rw[show w.drew.heap.size=w.heap.size from rfl]at this;rw[this]
     congr 2
     apply Array.ext'
     simp
   · exact((Keeps.drew w).trans (Keeps.alloc _ _)).mono fun _ _ h=>h.elim
end
section
variable{P:Program}{c:Ctx}{K:List (Nat×Ty)}{L:List Own}{Φ:List (World->Prop)}{Q:Exit->Act->World->Prop}
theorem SA.swap{E:Nat->Prop}{a:Act}{w w':World}{b b' d:Nat}{ety:TypeId}{T:Ty}{u v:Value}(hs:SA c K (⟨b,ety,T⟩::L) Φ E a w)(hk:Keeps (fun q=>q=b) w w')(hb':b'=b\/w.heap.size<=b')
   (hat:w'.heap[b']? =some (.cells u.cells ety (0,0)))(hd:d<c.n): ∃E',SA c ((d,.is v)::K) (⟨b',ety,.is u⟩::L) Φ E' (a.put (some d) v) w':=by
 have hE:E b:=(hs.l _ List.mem_cons_self).1;have hev:Ev E w (fun q=>E q\/q=b') w':=⟨hk.mono fun q _ e=>by rw[e];exact hE,fun q hq=>⟨fun h=>h.elim id fun e=>by
   rcases hb' with h|h
   · rw[e,h];exact hE
   · exact absurd hq (by omega),.inl⟩⟩
 have hne: ∀o∈L,o.b≠b:=fun o ho e=>by
   have:=hs.ld;rw[List.map_cons,List.nodup_cons]at this;exact this.1 (List.mem_map.2 ⟨o,ho,e⟩)
 have hmay:=hs.may _ List.mem_cons_self;refine⟨fun q=>E q\/q=b',hs.put (dst:=some d) (T:=.is v) hev ?_ rfl (fun d' e=>by injection e with e;omega) ?_ ?_ (hs.keeps.step hk fun q e=>by rw[e];exact hmay) ?_⟩
 · rintro q (hq|rfl)
   · have:=hs.wf q hq;have:=hk.size;omega
   · exact Z1d hat
 · intro o ho
   rcases List.mem_cons.1 ho with rfl|ho
   · exact⟨.inr rfl,u,hat,rfl⟩
   · have h:=hs.l o (List.mem_cons_of_mem _ ho)
     exact Own.keep h hev (hk.blk _ (hs.wf _ h.1) (hne o ho))
 · have:=hs.ld
   rw[List.map_cons,List.nodup_cons]at this ⊢;refine⟨fun h=>?_,this.2⟩;obtain⟨m,hm,e⟩:=List.mem_map.1 h;have e':m.b=b':=e;rcases hb' with h|h
   · exact hne m hm (e'.trans h)
   · have:=hs.wf m.b (hs.l m (List.mem_cons_of_mem _ hm)).1
     omega
 · intro o ho
   rcases List.mem_cons.1 ho with rfl|ho
   · rcases hb' with h|h
     · show c.X0 b'\/c.W0.heap.size<=b'
       rw[h];exact hmay
     · have:=hs.keeps.size
       exact .inr (by show c.W0.heap.size<=b';omega)
   · exact hs.may o (List.mem_cons_of_mem _ ho)
def SrcOf(P:Program)(L:List Own)(Φ:List (World->Prop))(size:Nat)(tx:TypeId)(T:Ty)(n:Nat)(news:List Value):Prop:=∀E w v,(∀m∈L,m.at E w)->(∀F∈Φ,Pers E w F)->T.p E v w->Src P size tx v n news w
theorem JO.append{ops:Array Oper}{rest:List Oper}{d:Nat}{ty t tx e:TypeId}{pos:String}{after:Array Edge}{s x:Operand}{i:TypeInfo}{z:Value}{b len cap n:Nat}{cs news:List Value}{TX:Ty}
   (ht:P.underlying t=some (.slice e))(hi:P.info? e=some i)(hz:i.zero=some z)(hzs:z.cells.size=i.size)
   (h0:opTy K s=some (.is (.slice (some ⟨b,0,none⟩) len cap)))(hx:opTy K x=some TX)(hS:SrcOf P (⟨b,e,.is (.agg cs.toArray)⟩::L) Φ i.size tx TX n news)(hc:cs.length=cap*i.size)(hl:len<=cap)(hfit:(len+n)*i.bytes<=140737488355328)(h63:len+n<=9223372036854775807)(hd:Nat.blt d c.n=true)
   (hn: ∀(b' cap':Nat) (cs':List Value),cs'.length=cap'*i.size->len+n<=cap'->cs'.take ((len+n)*i.size)=cs.take (len*i.size)++news->JO P c ((d,.is (.slice (some ⟨b',0,none⟩) (len+n) cap'))::K) (⟨b',e,.is (.agg cs'.toArray)⟩::L) Φ ops rest Q):
   JO P c K (⟨b,e,.is (.agg cs.toArray)⟩::L) Φ ops (⟨some d,.call {callee:=.builtin .append,args:= #[s,x],argTypes:= #[t,tx]},ty,pos,after,none⟩::rest) Q:=by
 refine⟨?_⟩;intro E a w hs;refine wpList_plain rfl fun K' hK=>?_;have e1:a.eval s= .slice (some ⟨b,0,none⟩) len cap:=Z2c hs h0;have e2:=hS E w (a.eval x) hs.l hs.f (Z2c hs hx);have hb:=Z4u (hs.l _ List.mem_cons_self) rfl;obtain⟨b',cap',cs',w',hr,h1,h2,h3,h4,h5,h6⟩:=ZcN (P:=P) (tx:=tx) (ty:=ty) ht hi hz hzs hb hc hl e2 hfit h63;obtain⟨E',hs'⟩:=hs.swap (d:=d) (u:=.agg cs'.toArray) (v:=.slice (some ⟨b',0,none⟩) (len+n) cap') h5 h6 h4 (Nat.le_of_ble_eq_true hd);unfold Oper.wp;have hrun:(execOp a.eval ⟨some d,.call {callee:=.builtin .append,args:= #[s,x],argTypes:= #[t,tx]},ty,pos,after,none⟩).run P w= .ok (.value (.slice (some ⟨b',0,none⟩) (len+n) cap')) w':=by
   simp[execOp,resolve,invoke,builtin,e1,hr]
 rw[hrun];exact hK _ _ ((hn b' cap' cs' h1 h2 h3).out E' _ _ hs')
end
end Go.Vc
