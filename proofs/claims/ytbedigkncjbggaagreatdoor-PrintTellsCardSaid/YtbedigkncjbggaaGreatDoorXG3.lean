/- The program logic, part 4. No condition. -/
import Derived.Test.YtbedigkncjbggaaGreatDoorXG2
import Derived.MapKept
import Derived.Below
import Derived.Laws.IdiomStrings
import Derived.Laws.Strings3
namespace Go.Vc
open Go
variable{P:Program}{c:Ctx}{K K' K0:List (Nat×Ty)}{L L' L0 Lr Lq Lm Lk:List Own}{Φ Φ0:List (World->Prop)}{Q:Exit->Act->World->Prop}{H:Know}{dst:Option Nat}{ty:TypeId}{pos:String}{after:Array Edge}{g:Option (Nat×Bool)}{ops:Array Oper}{rest:List Oper}{fn:Func}{n:Nat}{X:Nat->Prop}{W:World}{op:Op}{f:FuncId}{As:List Ty}{T:Ty}{Z:Type}{Zp:Z->Prop}{L1:Z->List Own}{R:Z->Ty}{Bad:Prop}{ch:List PanicEntry}
section
variable{R:Ty}
end
section
structure JM (P:Program) (c:Ctx) (K:List (Nat×Ty)) (L:List Own) (Φ:List (World->Prop)) (r:Nat) (es:Array MapEntry) (cl:Nat) (ops:Array Oper) (l:List Oper) (Q:Exit->Act->World->Prop):Prop where
 out: ∀E a w,SA c K L Φ E a w->r=w.heap.size->wpList P ops Q l a (w.alloc (.map es cl))
variable{d:Nat}{t:TypeId}{r cl:Nat}{es:Array MapEntry}
end
structure C4 where
 n:ByteArray
 ty:Int
 nn:Bool
 un:Bool
structure I4 where
 n:ByteArray
 t:ByteArray
 col:Int
 h:Bool
theorem ZeA{t:TypeId}{y:Operand}{b o off i j len:Nat}{kids:List Ex}{x:Ex}{a:Option Addr}{u:Value}(hs:szOf P t=some none)(hx:H y (.is (.pointer (some ⟨b,off,none⟩))))(hF:KidsR kids a len∈Φ)(ha:a=some ⟨b,o,none⟩)
  (hi:kids[i]? =some x)(ho:off=o+8*i+j)(hu: ∀a len cap,(exCells x.K x.VK x.VN x.VS x.TB x.NM x.SL a len cap)[j]? =some u):Ob P L Φ H ⟨dst,.load t y,ty,pos,after,g⟩ (.is u):=by
 cases x with
 |mk k vk vn vs tb nm sl ks=>exact Zfx hs hx hF ha hi ho hu
section
structure REq (P:Program) (t tv ti tj ts:TypeId):Prop extends VEq P tv ti tj ts where
 rt:P.underlying t=some (.struct (P.fieldsOf t))
 rp:P.stoodInHeld t=false
 rg:P.eqGuardType P.depth t=false
 rf:(P.fieldsOf t).toList.map (fun f=>(f.name== "_",f.type,f.offset))=[(false,ts,0),(false,ti,1),(false,tv,2),(false,tv,5)]
 rs:(P.info? tv).map (·.size)=some 3
variable{yt:TypeId}{x y:Operand}
end
structure Rd where
 t:ByteArray
 col:Int
 lo:V3
 hi:V3
structure WideTy (P:Program) (tW tR tVs tV tI tJ tS:TypeId):Prop extends ValTy P tV tI tJ tS where
 hR:P.underlying tR=some (.struct (P.fieldsOf tR))
 fR:(P.fieldsOf tR).map (fun f=>(f.type,f.offset))= #[(tS,0),(tI,1),(tV,2),(tV,5)]
 cR:P.cellsOf tR=8
 hW:P.underlying tW=some (.struct (P.fieldsOf tW))
 fW:(P.fieldsOf tW).map (fun f=>(f.type,f.offset))= #[(tR,0),(tV,8),(tV,11),(tVs,14)]
 cW:P.cellsOf tW=15
 hVs:P.underlying tVs=some (.slice tV)
 cVs:P.cellsOf tVs=1
section
variable{H:Type}{enc:TypeId×Value->H}{w:World}{base:Nat}{spare:Nat->Bool}{held:Bool}
end
end Go.Vc
namespace Go.Vc
open Go Go.RowKit
theorem Keeps.of_below{w w':World}(h:Below w.heap.size w w'):Keeps noX w w':=
 ⟨h.os,h.tape,h.output,h.size,fun b hb _=>h.block b hb,fun b cs _ _ hb=>⟨cs,(h.block b (Z1d hb)).trans hb,rfl⟩⟩
theorem Zbq{E:Nat->Prop}{w:World}: ∀{ws vs:List Value},TyAll E w (ws.map Ty.is) vs->vs=ws
 |[],[],_=>rfl
 |_::_,_::_,⟨h1,h2⟩=>by rw[Zbq h2,show _=_ from h1]
 |[],_::_,h=>h.elim
 |_::_,[],h=>h.elim
theorem CallTy.ofShelf{P:Program}{f:FuncId}{ws:List Value}{r:Value}(he: ∀args w,(callFunc f args).run P w= .ok (.enter f args) w)
   (h: ∀w,Calls P f ws.toArray w fun e w'=>e= .returned r/\Below w.heap.size w w'):CallTy P f (ws.map Ty.is) (.is r):=
 ⟨he,fun E w vs _ ht=>by
   rw[Zbq ht];exact(h w).mono fun e w' ⟨h1,h2⟩=>⟨r,h1,.of_below h2,rfl⟩⟩
theorem CallTy.ofShelf0{P:Program}{f:FuncId}{ws:List Value}{r:Value}(he: ∀args w,(callFunc f args).run P w= .ok (.enter f args) w)
  (h: ∀w,Calls P f ws.toArray w fun e w'=>e= .returned r/\w'=w):CallTy P f (ws.map Ty.is) (.is r):=
 .ofShelf he fun w=>(h w).mono fun e w' ⟨h1,h2⟩=>⟨h1,h2 ▸ .refl _ _⟩
section
variable{P:Program}{K:List (Nat×Ty)}{L:List Own}{Φ:List (World->Prop)}{fn:Func}{n:Nat}{X:Nat->Prop}{W:World}
theorem JX.ret2sub{t u:Nat}{T T' A B:Ty}(hres:fn.results= #[.tmp t,.tmp u])(ho:(Ty.tup2 A B).out=true)(h:look K t=some T)(hS:Sub L Φ T A)(h':look K u=some T')(hS':Sub L Φ T' B):JX ⟨n,X,noX,W,[]⟩ K L Φ .ret (bodyPost P fn (Post X W (.tup2 A B))):=
 JX.retOf ho fun _ _ _ hs=>⟨_,results_tmp2 hres _ _ _,_,_,rfl,hS _ _ _ ⟨hs.l,hs.f⟩ (hs.k t _ h),hS' _ _ _ ⟨hs.l,hs.f⟩ (hs.k u _ h')⟩
theorem Sub.isEq{V V':Value}(h:V=V'):Sub L Φ (.is V) (.is V'):=h ▸ Sub.rfl'
end
def sb(s:ByteArray)(i:Nat):Int:=((s.data.toList.getD i 0).toNat:Int)
def bC(b:UInt8):List Value:=[.int .u8 b.toNat]
theorem Z4J(b:UInt8):(bC b).length=1:=rfl
section
variable{P:Program}{L:List Own}{Φ:List (World->Prop)}{H:Know}{dst:Option Nat}{ty:TypeId}{pos:String}{after:Array Edge}{g:Option (Nat×Bool)}
theorem Z1F{t:TypeId}{x y:Operand}{s:ByteArray}{k:IntKind}{i:Int}(hu:P.underlying t=some .string)(hx:H x (.is (.string s)))(hy:H y (.is (.int k i)))(h0:0<=i)(h1:i<s.size):
   Ob P L Φ H ⟨dst,.index t x y,ty,pos,after,g⟩ (.is (.int .u8 (sb s i.toNat))):=
 Z25 fun E w ρ hp=>by
   have e1:ρ x= .string s:=hp.x x _ (by simp[Op.operands]) hx;have e2:ρ y= .int k i:=hp.x y _ (by simp[Op.operands]) hy;have h2:i.toNat<s.data.size:=by have:s.size=s.data.size:=rfl;omega
   have e3:(s[i.toNat]'(by have:s.size=s.data.size:=rfl;omega)).toNat=(s.data.toList.getD i.toNat 0).toNat:=by
     rw[List.getD_eq_getElem?_getD,List.getElem?_eq_getElem (by simpa using h2)]
     simp
     rfl
   simp only[execOp,e1,e2];rw[show(do pure (Next.value (<-Instr.index t (.string s) (.int k i))):Sem Next)=(Instr.index t (.string s) (.int k i)).bind fun a=>pure (Next.value a)from rfl];simp only[Sem.run_bind',run_index_string w t s k i hu,dif_pos (⟨h0,h1⟩:0<=i/\i<s.size),Result.andThen_ok,Sem.run_pure];rw[e3]
   rfl
theorem Z4R{t:TypeId}{x lo hi:Operand}{s:ByteArray}{k k':IntKind}{i j:Int}(hu:P.underlying t=some .string)(hx:H x (.is (.string s)))(hl:H lo (.is (.int k i)))(hh:H hi (.is (.int k' j)))(h0:0<=i)(h1:i<=j)(h2:j<=s.size):
   Ob P L Φ H ⟨dst,.slice t x (some lo) (some hi) none,ty,pos,after,g⟩ (.is (.string (s.extract i.toNat j.toNat))):=
 Z25 fun E w ρ hp=>by
   have e1:ρ x= .string s:=hp.x x _ (by simp[Op.operands]) hx;have e2:ρ lo= .int k i:=hp.x lo _ (by simp[Op.operands]) hl;have e3:ρ hi= .int k' j:=hp.x hi _ (by simp[Op.operands]) hh;have h:=run_slice_string (P:=P) w t s k k' i j hu h0 h1 h2
   simp[execOp,e1,e2,e3,run_sliceAt_string w t _ _ _ _ hu,h]
theorem ZfC{t:TypeId}{x lo:Operand}{s:ByteArray}{k:IntKind}{i:Int}(hu:P.underlying t=some .string)(hx:H x (.is (.string s)))(hl:H lo (.is (.int k i)))(h0:0<=i)(h2:i<=s.size):
   Ob P L Φ H ⟨dst,.slice t x (some lo) none none,ty,pos,after,g⟩ (.is (.string (s.extract i.toNat s.size))):=
 Z25 fun E w ρ hp=>by
   have e1:ρ x= .string s:=hp.x x _ (by simp[Op.operands]) hx;have e2:ρ lo= .int k i:=hp.x lo _ (by simp[Op.operands]) hl;have h:=run_slice_string_from_if (P:=P) w t s k i hu;rw[if_pos ⟨h0,h2⟩]at h
   simp[execOp,e1,e2,run_sliceAt_string w t _ _ _ _ hu,h]
theorem Z8t{t:TypeId}{x hi:Operand}{s:ByteArray}{k:IntKind}{j:Int}(hu:P.underlying t=some .string)(hx:H x (.is (.string s)))(hh:H hi (.is (.int k j)))(h0:0<=j)(h2:j<=s.size):
   Ob P L Φ H ⟨dst,.slice t x none (some hi) none,ty,pos,after,g⟩ (.is (.string (s.extract 0 j.toNat))):=
 Z25 fun E w ρ hp=>by
   have e1:ρ x= .string s:=hp.x x _ (by simp[Op.operands]) hx;have e2:ρ hi= .int k j:=hp.x hi _ (by simp[Op.operands]) hh;have h:=run_slice_string_to_if (P:=P) w t s k j hu;rw[if_pos ⟨h0,h2⟩]at h
   simp[execOp,e1,e2,run_sliceAt_string w t _ _ _ _ hu,h]
theorem Z67{xt yt:TypeId}{x y:Operand}{s t:ByteArray}(hx:H x (.is (.string s)))(hy:H y (.is (.string t)))(h:s.size+t.size<=9223372036854775807):
   Ob P L Φ H ⟨dst,.binOp .add xt x y yt,ty,pos,after,g⟩ (.is (.string (s++t))):=
 Z3s hx hy fun w=>by
   have h1: ¬(((s.size+t.size:Nat):Int)>IntKind.i64.max):=by
     have:IntKind.i64.max=9223372036854775807:=rfl
     omega
   simp only[eqGuard,binOp,Op.stringOp,if_neg h1]
   simp
theorem Zkk{bs:List UInt8}{a:Option Addr}{len cap:Nat}{w:World}(h:RowG bC 1 bs a len w):(Conv.bytesToString (.slice a len cap)).run P w= .ok (.string ⟨bs.toArray⟩) w:=by
 obtain⟨hl,hk⟩:=h;cases a with
 |none=>
   have:len=0:=by
     rcases Nat.eq_zero_or_pos len with h|h
     · exact h
     · obtain⟨b,o,e,_⟩:=hk (by omega);cases e
   subst this;have:bs=[]:=List.length_eq_zero_iff.1 hl;subst this
   rfl
 |some a=>
   have hc:(loadCells a len).run P w= .ok ((bs.map fun b=>(b.toNat:Int)).map (Value.int .u8)).toArray w:=by
     have:=run_loadCells_list (P:=P) (w:=w) a ((bs.map fun b=>(b.toNat:Int)).map (Value.int .u8)) (fun j v hj=>by
       have hj':j<bs.length:=by
         have:=(List.getElem?_eq_some_iff.1 hj).1
         simpa using this
       obtain⟨b,o,e,hr⟩:=hk (by omega);injection e with e
       subst e;have:=hr j bs[j] (List.getElem?_eq_getElem hj') 0 (.int .u8 bs[j].toNat) rfl;rw[Nat.one_mul,Nat.add_zero]at this;rw[Z4t];rw[this,<-hj]
       simp[List.getElem?_eq_getElem hj'])
     simp only[List.length_map,hl]at this;exact this
   rw[run_bytesToString w a len cap _ hc,foldl_push_byteCells]
   simp
theorem Zak{s t e:TypeId}{x:Operand}{bs:List UInt8}{a:Option Addr}{len cap:Nat}(hs:P.underlying s=some (.slice e))(he:P.underlying e=some (.int .u8))(hd:P.underlying t=some .string)(hx:H x (.is (.slice a len cap)))(hF:RowG bC 1 bs a len∈Φ):
   Ob P L Φ H ⟨dst,.convert s t x,ty,pos,after,g⟩ (.is (.string ⟨bs.toArray⟩)):=
 Z25 fun E w ρ hp=>by
   have e1:ρ x= .slice a len cap:=hp.x x _ (by simp[Op.operands]) hx;have h1:=run_convert_bytes_string (P:=P) w s t e a len cap hs he hd;rw[Zkk (hp.f _ hF).now]at h1
   simp[execOp,e1,h1]
theorem ZiU{s t e:TypeId}{x:Operand}{b:ByteArray}(hs:P.underlying s=some .string)(hd:P.underlying t=some (.slice e))(he:P.underlying e=some (.int .u8))(hx:H x (.is (.string b))):
   Ob P L Φ H ⟨dst,.convert s t x,ty,pos,after,g⟩ (.rep (SlG bC 1 b.data.toList)):=fun E w ρ hp=>by
 have e1:ρ x= .string b:=hp.x x _ (by simp[Op.operands]) hx;have h:=run_bytes_of_string (P:=P) w s t e b hs hd he;have hrun:(execOp ρ ⟨dst,.convert s t x,ty,pos,after,g⟩).run P w= .ok (.value (.slice (some ⟨w.heap.size,0,none⟩) b.size (grownCap w b.size 0 e))) (w.drew.alloc (.cells (bytesRow b (grownCap w b.size 0 e)) e ((bytesRow b (grownCap w b.size 0 e)).size,(bytesRow b (grownCap w b.size 0 e)).size+1))):=by
   simp[execOp,e1,h]
 rw[hrun];refine⟨(Keeps.drew w).trans (Keeps.alloc _ _),fun w' hk=>⟨_,_,_,rfl,rfl,fun _=>⟨_,_,rfl,fun i u hi j v hj=>?_⟩⟩⟩;have hnE: ¬E w.heap.size:=fun h=>absurd (hp.wf _ h) (Nat.lt_irrefl _);have hb:(w.drew.alloc (.cells (bytesRow b (grownCap w b.size 0 e)) e ((bytesRow b (grownCap w b.size 0 e)).size,(bytesRow b (grownCap w b.size 0 e)).size+1))).heap[w.heap.size]? =some (.cells (bytesRow b (grownCap w b.size 0 e)) e ((bytesRow b (grownCap w b.size 0 e)).size,(bytesRow b (grownCap w b.size 0 e)).size+1)):=Z2i w.drew _;have hb':=hk.get hb hnE;rw[Z1I hb'];have hi':i<b.data.size:=by
   have:=(List.getElem?_eq_some_iff.1 hi).1
   simpa using this
 match j,hj with
 |0,hj=>
   simp only[bC,List.getElem?_cons_zero,Option.some.injEq]at hj;subst hj;unfold bytesRow;simp only[Nat.zero_add,Nat.one_mul,Nat.add_zero];rw[Array.getElem?_append_left (by simpa using hi')];have hu:b.data[i]? =some u:=by simpa using hi
   simp[hu]
 |j+1,hj=>simp[bC]at hj
end
structure CallF (P:Program) (f:FuncId) (Fs:List (World->Prop)) (As:List Ty) (R:Ty):Prop where
 enter: ∀args w,(callFunc f args).run P w= .ok (.enter f args) w
 calls: ∀(E:Nat->Prop) (w:World) (vs:List Value),(∀b,E b->b<w.heap.size)->(∀F∈Fs,Pers E w F)->TyAll E w As vs->
   Calls P f vs.toArray w fun e w'=>∃v,e= .returned v/\Keeps noX w w'/\R.p E v w'
theorem CallF.ofShelf{P:Program}{f:FuncId}{ws:List Value}{r:Value}{Fs:List (World->Prop)}(he: ∀args w,(callFunc f args).run P w= .ok (.enter f args) w)
   (h: ∀w,(∀F∈Fs,F w)->Calls P f ws.toArray w fun e w'=>e= .returned r/\RowKit.Below w.heap.size w w'):CallF P f Fs (ws.map Ty.is) (.is r):=
 ⟨he,fun E w vs _ hf ht=>by
   rw[Zbq ht];exact(h w fun F hF=>(hf F hF).now).mono fun e w' ⟨h1,h2⟩=>⟨r,h1,.of_below h2,rfl⟩⟩
structure CallMR (P:Program) (f:FuncId) (ety:TypeId) (V0:Value) (Φ0:List (World->Prop)) (As:List Ty) (V1:Value) (R:Nat->Ty):Prop where
 enter: ∀args w,(callFunc f args).run P w= .ok (.enter f args) w
 calls: ∀(E:Nat->Prop) (w:World) (b:Nat) (vs:List Value),(∀b,E b->b<w.heap.size)->E b->w.heap[b]? =some (.cells V0.cells ety (0,0))->(∀F∈Φ0,Pers E w F)->TyAll E w As vs->
   Calls P f (.pointer (some ⟨b,0,none⟩)::vs).toArray w fun e w'=>∃v,e= .returned v/\Keeps (fun q=>q=b) w w'/\w'.heap[b]? =some (.cells V1.cells ety (0,0))/\(R b).p E v w'
def MethV(P:Program)(b:Nat)(fv:Value)(ety:TypeId)(V0:Value)(Φ0:List (World->Prop))(As:List Ty)(V1:Value)(R:Ty):Prop:=
 ∃f,fv= .func (.func f) #[.pointer (some ⟨b,0,none⟩)] #[]/\CallM P f ety V0 Φ0 As V1 R
section
variable{P:Program}{L:List Own}{Φ:List (World->Prop)}{H:Know}{dst:Option Nat}{ty:TypeId}{pos:String}{after:Array Edge}{g:Option (Nat×Bool)}
theorem ZN{f:FuncId}{xs:List Operand}{ats:Array TypeId}{Fs:List (World->Prop)}{As:List Ty}{R:Ty}(hf:H (.func f) (.is (.func (.func f) #[] #[])))(hc:CallF P f Fs As R)(hΦ: ∀F∈Fs,F∈Φ)(ha:Args L Φ H xs As):
   Ob P L Φ H ⟨dst,.call {callee:=.value (.func f),args:=xs.toArray,argTypes:=ats},ty,pos,after,g⟩ R:=fun E w ρ hp=>by
 have h1:ρ (.func f)= .func (.func f) #[] #[]:=hp.x _ _ (by simp[Op.operands,Call.operands]) hf;have hall:=ha.all (ρ:=ρ) (Z2B hp) fun x T hx=>hp.x x T (by simp[Op.operands,Call.operands,hx]);have h2:Runs P ((callFunc f (xs.map ρ).toArray).run P w) fun v w'=>Keeps noX w w'/\R.p E v w':=by
   rw[hc.enter];refine Calls.mono (hc.calls E w _ hp.wf (fun F hF=>hp.f F (hΦ F hF)) hall) ?_;rintro e w' ⟨v,rfl,h⟩;exact h
 simp only[execOp,resolve,h1,Deferred.ofValue,invoke,Sem.run_bind,Sem.run_pure,Result.andThen_ok,List.map_toArray]
 simpa using h2
theorem Zhr{f:FuncId}{p:Operand}{xs:List Operand}{ats:Array TypeId}{ety:TypeId}{V0 V1:Value}{Φ0:List (World->Prop)}{As:List Ty}{R:Nat->Ty}{M M':List Own}{b:Nat}(hf:H (.func f) (.is (.func (.func f) #[] #[])))(hp':H p (.is (.pointer (some ⟨b,0,none⟩))))(hc:CallMR P f ety V0 Φ0 As V1 R)
   (hu:Upd M ⟨b,ety,.is V0⟩ ⟨b,ety,.is V1⟩ M')(hΦ: ∀F∈Φ0,F∈Φ)(ha:Args L Φ H xs As):
   ObM P L Φ H M ⟨dst,.call {callee:=.value (.func f),args:=(p::xs).toArray,argTypes:=ats},ty,pos,after,g⟩ (R b) M':=fun E w ρ hp hM hnd=>by
 have h1:ρ (.func f)= .func (.func f) #[] #[]:=hp.x _ _ (by simp[Op.operands,Call.operands]) hf;have h2:ρ p= .pointer (some ⟨b,0,none⟩):=hp.x p _ (by simp[Op.operands,Call.operands]) hp';have hall:=ha.all (ρ:=ρ) (Z2B hp) fun x T hx=>hp.x x T (by simp[Op.operands,Call.operands,hx]);have hE:=(hM _ hu.mem).1;have h3:Runs P ((callFunc f (.pointer (some ⟨b,0,none⟩)::xs.map ρ).toArray).run P w) fun v w'=>Keeps (fun b=>b∈M.map (·.b)) w w'/\(R b).p E v w'/\ ∀m∈M',m.at E w':=by
   rw[hc.enter];refine Calls.mono (hc.calls E w b _ hp.wf hE (Z4u (hM _ hu.mem) rfl) (fun F hF=>hp.f F (hΦ F hF)) hall) ?_;rintro e w' ⟨v,rfl,hk,hb,hR⟩;have hev:Ev E w E w':=Ev.of_keeps (hk.mono fun q _ e=>by rw[e];exact hE);exact⟨hk.mono fun q _ e=>by rw[e];exact List.mem_map_of_mem hu.mem,hR,hu.all hnd (fun m hm hne=>Own.keep (hM m hm) hev (hk.blk _ (Z1d (hM m hm).2.choose_spec.1) hne)) ⟨hE,V1,hb,rfl⟩⟩
 simp only[execOp,resolve,h1,Deferred.ofValue,invoke,Sem.run_bind,Sem.run_pure,Result.andThen_ok,List.map_toArray,List.map_cons,h2]
 simpa using h3
theorem Zig{cal:Operand}{xs:List Operand}{ats:Array TypeId}{fv:Value}{ety:TypeId}{V0 V1:Value}{Φ0:List (World->Prop)}{As:List Ty}{R:Ty}{M M':List Own}{b:Nat}(hf:H cal (.is fv))(hc:MethV P b fv ety V0 Φ0 As V1 R)
   (hu:Upd M ⟨b,ety,.is V0⟩ ⟨b,ety,.is V1⟩ M')(hΦ: ∀F∈Φ0,F∈Φ)(ha:Args L Φ H xs As):
   ObM P L Φ H M ⟨dst,.call {callee:=.value cal,args:=xs.toArray,argTypes:=ats},ty,pos,after,g⟩ R M':=by
 obtain⟨f,rfl,hc⟩:=hc;exact ZiC hf hc hu hΦ ha
theorem JX.normal_ret{c:Ctx}{K:List (Nat×Ty)}{fn:Func}{N:Ending->World->Prop}(h:JX c K L Φ .ret (bodyPost P fn N)):JX c K L Φ .normal (bodyPost P fn N):=⟨h.out⟩
variable{fn:Func}{R:Ty}{n:Nat}
theorem CallF.of{f:FuncId}{x:Code}{Fs:List (World->Prop)}{As:List Ty}(hf:P.funcs[f]? =some fn)(hb:fn.body=some x)(hn:fn.ntmps=n)(hl:Nat.ble As.length n=true)(he: ∀args w,(callFunc f args).run P w= .ok (.enter f args) w)
   (h: ∀(E:Nat->Prop) (W:World),J P ⟨n,E,noX,W,[]⟩ (params 0 As) [] Fs x (bodyPost P fn (Post E W R))):CallF P f Fs As R:=
 ⟨he,fun E w vs hw hΦ ht=>by
   refine calls_of_wp hf hb ?_;rw[hn];have hs:=Z4h (n:=n) hw ht (Nat.le_of_ble_eq_true hl);refine(h E w).out E _ w ⟨hs.n,hs.d,hw,hs.k,hs.l,hs.ld,hΦ,fun _ h=>h,hw,.refl _ _,hs.may⟩⟩
theorem CallMR.of{f:FuncId}{x:Code}{ety:TypeId}{V0 V1:Value}{Φ0:List (World->Prop)}{As:List Ty}{R:Nat->Ty}(hf:P.funcs[f]? =some fn)(hb:fn.body=some x)(hn:fn.ntmps=n)(hl:Nat.ble (As.length+1) n=true)(he: ∀args w,(callFunc f args).run P w= .ok (.enter f args) w)
   (h: ∀(E:Nat->Prop) (W:World) (b:Nat),J P ⟨n,E,fun q=>q=b,W,[]⟩ ((0,.is (.pointer (some ⟨b,0,none⟩)))::params 1 As) [⟨b,ety,.is V0⟩] Φ0 x (bodyPost P fn (PostM E W b ety V1 (R b)))):CallMR P f ety V0 Φ0 As V1 R:=
 ⟨he,fun E w b vs hw hE hb0 hΦ ht=>by
   refine calls_of_wp hf hb ?_;rw[hn];refine(h E w b).out E _ w ?_;have h0:TyAll E w (.is (.pointer (some ⟨b,0,none⟩))::As) (.pointer (some ⟨b,0,none⟩)::vs):=⟨rfl,ht⟩;have hs:=Z4h (n:=n) hw h0 (Nat.le_of_ble_eq_true hl);refine⟨hs.n,hs.d,hw,hs.k,?_,by simp,hΦ,fun _ h=>h,hw,.refl _ _,fun o ho=>?_⟩
   · intro o ho
     rcases List.mem_cons.1 ho with rfl|ho
     · exact⟨hE,V0,hb0,rfl⟩
     · cases ho
   · rcases List.mem_cons.1 ho with rfl|ho
     · exact .inl rfl
     · cases ho⟩
variable{K:List (Nat×Ty)}{X:Nat->Prop}{W:World}
theorem JX.retM0e{b:Nat}{ety:TypeId}{V1 V1':Value}(hres:fn.results= #[])(hm:(⟨b,ety,.is V1'⟩:Own)∈L)(hV:V1'=V1):JX ⟨n,X,fun q=>q=b,W,[]⟩ K L Φ .ret (bodyPost P fn (PostM X W b ety V1 (.is (.tuple #[])))):=by
 subst hV;exact JX.retM0 hres hm
theorem JX.retM1e{b:Nat}{ety:TypeId}{V1 V1':Value}{t:Nat}{V V':Value}(hres:fn.results= #[.tmp t])(hm:(⟨b,ety,.is V1'⟩:Own)∈L)(h:look K t=some (.is V'))(he:V'=V)(hV:V1'=V1):JX ⟨n,X,fun q=>q=b,W,[]⟩ K L Φ .ret (bodyPost P fn (PostM X W b ety V1 (.is V))):=by
 subst hV;exact JX.retM1is hres hm h he
theorem JX.retMC1is{b:Nat}{ety:TypeId}{V1 V1':Value}{s u b' m:Nat}{t ety':TypeId}{cs:Array Value}{V B B':Value}(hres:fn.results= #[.cell s t,.tmp u])(hm:(⟨b,ety,.is V1'⟩:Own)∈L)(h:look K s=some (.is (.pointer (some ⟨b',0,none⟩))))(hs':szOf P t=some (some m))(hm':⟨b',ety',.is (.agg cs)⟩∈L)(hn:cs.size=m)(h':look K u=some (.is B'))(he: .agg cs=V)(hB:B'=B)(hV:V1'=V1):
   JX ⟨n,X,fun q=>q=b,W,[]⟩ K L Φ .ret (bodyPost P fn (PostM X W b ety V1 (.tup2 (.is V) (.is B)))):=by
 subst he hV hB;exact JX.retMOf rfl hm fun a w E hs=>by
   obtain⟨v,h1,h2⟩:=Z4L (P:=P) hs' (hs.l _ hm') (Z1o hn);have e:a.tmps.getD s undef= .pointer (some ⟨b',0,none⟩):=hs.k s _ h;have e2:a.tmps.getD u undef=B':=hs.k u _ h';rw[Array.getD_eq_getD_getElem?]at e e2;exact⟨.tuple #[v,B'],by simp[results,hres,Array.getD_eq_getD_getElem?,e,e2,asAddr,h1],v,B',rfl,h2,rfl⟩
end
structure T3 where
 k:Int
 t:ByteArray
 n:Int
def T3.cells(t:T3):List Value:=[.int .i64 t.k,.string t.t,.int .i64 t.n]
theorem T3.len(t:T3):t.cells.length=3:=rfl
def t3D:T3:=⟨0,⟨#[]⟩,0⟩
abbrev tv(t:T3):Value:=.agg #[.int .i64 t.k,.string t.t,.int .i64 t.n]
structure TEq (P:Program) (t ti ts tj:TypeId):Prop where
 ht:P.underlying t=some (.struct (P.fieldsOf t))
 hp:P.stoodInHeld t=false
 hg:P.eqGuardType P.depth t=false
 hf:(P.fieldsOf t).toList.map (fun f=>(f.name== "_",f.type,f.offset))=[(false,ti,0),(false,ts,1),(false,tj,2)]
 h1:P.underlying ti=some (.int .i64)
 h2:P.underlying ts=some .string
 h3:P.underlying tj=some (.int .i64)
section
variable{P:Program}
variable{L:List Own}{Φ:List (World->Prop)}{H:Know}{dst:Option Nat}{ty:TypeId}{pos:String}{after:Array Edge}{g:Option (Nat×Bool)}{yt:TypeId}{x y:Operand}
end
def dr(s:ByteArray)(i:Nat):List UInt8:=s.data.toList.drop i
def by_(s:ByteArray)(i:Nat):UInt8:=s.data.toList.getD i 0
theorem Zmz(s:ByteArray)(i:Nat):sb s i=((by_ s i).toNat:Int):=rfl
theorem Z18(s:ByteArray):s.data.toList.length=s.size:=by rw[Array.length_toList];rfl
theorem Z1D{s:ByteArray}{i:Nat}(h:i<s.size):dr s i=by_ s i::dr s (i+1):=by
 unfold dr by_;rw[List.drop_eq_getElem_cons (by rw[Z18];exact h)];rw[List.getD_eq_getElem?_getD,List.getElem?_eq_getElem (by rw[Z18];exact h)]
 rfl
theorem Z5h{s:ByteArray}{i:Nat}(h:s.size<=i):dr s i=[]:=List.drop_eq_nil_of_le (by rw[Z18];exact h)
theorem Z5i(s:ByteArray)(i:Nat):(dr s i).length=s.size-i:=by unfold dr;rw[List.length_drop,Z18]
theorem Z51(s:ByteArray)(i n:Nat):(dr s i).drop n=dr s (i+n):=by unfold dr;rw[List.drop_drop]
theorem Z1t(s:ByteArray)(i n:Nat):(s.extract i (i+n)).data.toList=(dr s i).take n:=by
 unfold dr;rw[ByteArray.data_extract]
 simp[List.extract_eq_take_drop]
section
variable{P:Program}{c:Ctx}{K:List (Nat×Ty)}{L L':List Own}{Φ:List (World->Prop)}{Q:Exit->Act->World->Prop}
theorem SA.freezeM{E:Nat->Prop}{a:Act}{w:World}{b:Nat}{e:TypeId}{cs:List Value}(hs:SA c K (⟨b,e,.is (.agg cs.toArray)⟩::L) Φ E a w)(h0: ∀q,c.X0 q->∃o∈L,o.b=q)(hK: ∀s T,look K s=some T->T.out=true)(hL: ∀o∈L,o.T.out=true):
   ∃E',SA c K L (HeapIs b cs e::Φ) E' a w:=by
 have hb:=Z4u (hs.l _ List.mem_cons_self) rfl;have hld:=hs.ld;rw[List.map_cons,List.nodup_cons]at hld;have hbW:c.W0.heap.size<=b:=(hs.may _ List.mem_cons_self).resolve_left (fun h=>by
   obtain⟨o,ho,e⟩:=h0 b h;exact hld.1 (List.mem_map.2 ⟨o,ho,e⟩))
 have hsub: ∀q,q<w.heap.size->(E q/\q≠b)->E q:=fun q _ h=>h.1;refine⟨fun q=>E q/\q≠b,hs.n,hs.d,fun q h=>hs.wf q h.1,fun s T h=>Ty.weak hsub (hK s T h) (hs.k s T h),fun o ho=>?_,hld.2,fun F hF=>?_,fun q hq=>⟨hs.x q hq,fun e=>?_⟩,hs.xs,hs.keeps,fun o ho=>hs.may o (List.mem_cons_of_mem _ ho)⟩
 · obtain⟨h1,v,h2,h3⟩:=hs.l o (List.mem_cons_of_mem _ ho)
   exact⟨⟨h1,fun e=>hld.1 (List.mem_map.2 ⟨o,ho,e⟩)⟩,v,h2,Ty.weak hsub (hL o ho) h3⟩
 · rcases List.mem_cons.1 hF with rfl|hF
   · intro w' hk
     exact hk.get hb fun h=>h.2 rfl
   · exact Pers.weak (hs.f F hF) hsub
 · have:=hs.xs q hq
   omega
theorem J.freezeM{x:Code}{b:Nat}{e:TypeId}{cs:List Value}(h0: ∀q,c.X0 q->∃o∈L,o.b=q)(hK:K.all (fun p=>p.2.out)=true)(hL:L.all (fun o=>o.T.out)=true)(h:J P c K L (HeapIs b cs e::Φ) x Q):J P c K (⟨b,e,.is (.agg cs.toArray)⟩::L) Φ x Q:=
 ⟨fun E a w hs=>by
  obtain⟨E',hs'⟩:=hs.freezeM h0 (Z9J hK) (fun o ho=>List.all_eq_true.1 hL o ho);exact h.out E' a w hs'⟩
theorem J.freezeOM{α:Type}{en:α->List Value}{sz:Nat}{xs:List α}{cap:Nat}{x:Code}{st:Option (Nat×List Value)}{e:TypeId}(hen: ∀x,(en x).length=sz)(hG:Grows en sz xs st cap)(hTl:Tl e L st L')(h0: ∀q,c.X0 q->∃o∈L',o.b=q)(hK:K.all (fun p=>p.2.out)=true)(hL:L'.all (fun o=>o.T.out)=true)
   (h:J P c K L' (RowG en sz xs (adO st) xs.length::Φ) x Q):J P c K L Φ x Q:=by
 refine J.subL (L':=ownO st e L') (fun o ho=>(hTl.perm.mem_iff).1 ho) (fun hn=>((hTl.perm.map _).nodup_iff).2 hn) ?_;cases st with
 |none=>
   have hG:xs=[]:=hG;subst hG;exact J.fact _ (fun E w _ _=>fun w' _=>⟨rfl,fun h=>absurd rfl h⟩) h
 |some p=>
   obtain⟨b,cs⟩:=p;obtain⟨h1,h2,h3⟩:=hG;refine J.freezeM (b:=b) (e:=e) (cs:=cs) h0 hK hL ?_;refine J.fact (RowG en sz xs (adO (some (b,cs))) xs.length) (fun E w hF _=>fun w' hk=>?_) (J.subΦ (fun F hF=>?_) h)
   · have hh:=hF _ List.mem_cons_self w' hk
     obtain⟨a,len,cap',e1,hr⟩:=Z52 hen rfl h3 hh cap;injection e1 with e1 e2 e3
     subst e1 e2;exact hr
   · rcases List.mem_cons.1 hF with rfl|hF
     · exact List.mem_cons_self
     · exact List.mem_cons_of_mem _ (List.mem_cons_of_mem _ hF)
theorem JO.subF{ops:Array Oper}{l:List Oper}{Φ':List (World->Prop)}(hΦ: ∀F∈Φ',F∈Φ)(h:JO P c K L Φ' ops l Q):JO P c K L Φ ops l Q:=
 ⟨fun E a w hs=>h.out E a w (hs.sub (fun _ _=>id) (fun _=>id) hs.ld hΦ)⟩
theorem JO.openSl{α:Type}{enc:α->List Value}{sz:Nat}{ops:Array Oper}{l:List Oper}{s:Nat}{xs:List α}(h:look K s=some (.rep (SlG enc sz xs)))
   (hj: ∀a len cap b o,xs.length=len->(len≠0->a=some ⟨b,o,none⟩)->JO P c ((s,.is (.slice a len cap))::K) L (RowG enc sz xs a len::Φ) ops l Q):JO P c K L Φ ops l Q:=by
 refine JO.open_ h ?_;rintro v ⟨w,a,len,cap,rfl,hl,hk⟩;obtain⟨b,o,hbo⟩: ∃b o,len≠0->a=some ⟨b,o,none⟩:=by
   by_cases hn:len=0
   · exact⟨0,0,fun h=>absurd hn h⟩
   · obtain⟨b,o,e,_⟩:=hk hn;exact⟨b,o,fun _=>e⟩
 refine JO.fact (RowG enc sz xs a len) (fun E w hG _=>?_) (JO.subF (fun F hF=>?_) (hj a len cap b o hl hbo))
 · intro w' hk'
   obtain⟨a',len',cap',e,hK⟩:=hG _ List.mem_cons_self w' hk';injection e with e1 e2 e3
   subst e1 e2 e3;exact hK
 · rcases List.mem_cons.1 hF with rfl|hF
   · exact List.mem_cons_self
   · exact List.mem_cons_of_mem _ (List.mem_cons_of_mem _ hF)
end
end Go.Vc
