/- The program logic, part 5. No condition. -/
import Derived.Test.YtbedigkncjbggaaGreatDoorXG3
import Derived.Laws.MakeOwn
import Derived.Lib.Replace
import Derived.Lib.CountLaws
namespace Go.Vc
open Go
variable{P:Program}{c:Ctx}{K K' K0:List (Nat×Ty)}{L L' L0 Lr Lq Lm Lk:List Own}{Φ Φ0:List (World->Prop)}{Q:Exit->Act->World->Prop}{H:Know}{dst:Option Nat}{ty:TypeId}{pos:String}{after:Array Edge}{g:Option (Nat×Bool)}{ops:Array Oper}{rest:List Oper}{fn:Func}{n:Nat}{X:Nat->Prop}{W:World}{op:Op}{f:FuncId}{As:List Ty}{T:Ty}{Z:Type}{Zp:Z->Prop}{L1:Z->List Own}{R:Z->Ty}{Bad:Prop}{ch:List PanicEntry}
section
variable{d i s:Nat}{b:Bool}
def yv:Value->Option Bool
 | .bool b=>some b
 |_=>none
theorem Zef{a:Act}{v:Value}(hi:(ops[i]?).bind (·.dst)=some s)(hs:s<a.tmps.size)(hv:a.tmps.getD s undef=v):yielded ops a.tmps i=yv v:=by
 unfold yielded;rw[hi];have:a.tmps[s]? =some v:=by
   rw[Array.getD_eq_getD_getElem?]at hv;rw[Array.getElem?_eq_getElem hs]at hv ⊢;exact congrArg some hv
 simp only[Option.bind_some,this];cases v<;>rfl
theorem JO.gDo{o:Oper}(hg:o.guard=some (i,b))(hi:(ops[i]?).bind (·.dst)=some s)(hn:Nat.blt s c.n=true)(hk:look K s=some (.is (.bool b)))(h:JO P c K L Φ ops ({o with guard:=none}::rest) Q):JO P c K L Φ ops (o::rest) Q:=
 ⟨fun E a w hs=>by
  have h1:=h.out E a w hs;have hy:=Zef (ops:=ops) (i:=i) hi (by rw[hs.n];exact Nat.le_of_ble_eq_true hn) (hs.k s _ hk);unfold wpList at h1 ⊢;rw[if_pos (by simp[Region.wanted])]at h1;rw[if_pos (by simp[Region.wanted,hg,hy,yv])];exact h1⟩
theorem SA.undef_{E:Nat->Prop}{a:Act}{w:World}{dst:Option Nat}(hs:SA c K L Φ E a w)(hd: ∀d,dst=some d->d<c.n):SA c (putK dst (.is undef) K) L Φ E (a.put dst undef) w:=
 hs.put (.refl _ _) hs.wf rfl hd hs.l hs.ld hs.keeps hs.may
theorem JO.gSkip(hi:(ops[i]?).bind (·.dst)=some s)(hn:Nat.blt s c.n=true)(hk:look K s=some (.is (.bool !b)))(hd:Nat.blt d c.n=true)(h:JO P c ((d,.is undef)::K) L Φ ops rest Q):JO P c K L Φ ops (⟨some d,op,ty,pos,after,some (i,b)⟩::rest) Q:=
 ⟨fun E a w hs=>by
  have hy:=Zef (ops:=ops) (i:=i) hi (by rw[hs.n];exact Nat.le_of_ble_eq_true hn) (hs.k s _ hk);unfold wpList;rw[if_neg (by simp[Region.wanted,hy,yv])];exact h.out E _ _ (hs.undef_ (dst:=some d) (fun d' e=>by injection e with e;subst e;exact Nat.le_of_ble_eq_true hd))⟩
end
section
variable{xt yt:TypeId}{x y:Operand}{k:IntKind}{a b:Int}{v:Bool}
end
theorem ZfW{α:Type}{enc:α->List Value}{sz:Nat}{xs:List α}(hsz: ∀x,(enc x).length=sz){cs:List Value}{b n:Nat}{e:TypeId}{w:World}(hn:xs.length=n)(hc:cs.take (n*sz)=xs.flatMap enc)(h:HeapIs b cs e w):RowG enc sz xs (some ⟨b,0,none⟩) n w:=by
 obtain⟨a,len,cap,e1,hr⟩:=Z52 hsz hn hc h 0;injection e1 with e1 e2 e3
 subst e1 e2;exact hr
theorem SA.newS{E:Nat->Prop}{a:Act}{w:World}{d:Nat}{t:TypeId}{u:Value}{n:Nat}(hs:SA c K L Φ E a w)(hd:d<c.n):
   ∃E',SA c ((d,.is (.slice (some ⟨w.heap.size,0,none⟩) n n))::K) (⟨w.heap.size,t,.is u⟩::L) Φ E' (a.put (some d) (.slice (some ⟨w.heap.size,0,none⟩) n n)) (w.alloc (.cells u.cells t)):=by
 have hk:=Keeps.alloc w (.cells u.cells t);have hev:Ev E w (fun b=>E b\/b=w.heap.size) (w.alloc (.cells u.cells t)):=⟨hk.of_noX,fun b hb=>⟨fun h=>h.elim id (fun e=>absurd hb (by omega)),.inl⟩⟩;refine⟨fun b=>E b\/b=w.heap.size,hs.put (dst:=some d) (T:=.is (.slice (some ⟨w.heap.size,0,none⟩) n n)) hev ?_ rfl (fun d' e=>by injection e with e;omega) ?_ ?_ (hs.keeps.step hk fun _=>False.elim) ?_⟩
 · rintro b (hb|rfl)
   · rw[Z2t];have:=hs.wf b hb;omega
   · rw[Z2t];omega
 · intro o ho
   rcases List.mem_cons.1 ho with rfl|ho
   · exact⟨.inr rfl,u,Z2i w _,rfl⟩
   · exact Own.keep0 (hs.l o ho) hev hk
 · rw[List.map_cons,List.nodup_cons]
   refine⟨fun h=>?_,hs.ld⟩;obtain⟨m,hm,e⟩:=List.mem_map.1 h;have:=hs.wf _ (hs.l m hm).1;rw[e]at this;exact absurd this (Nat.lt_irrefl _)
 · intro o ho
   rcases List.mem_cons.1 ho with rfl|ho
   · exact .inr hs.keeps.size
   · exact hs.may o ho
theorem Z7{xt yt:TypeId}{x y:Operand}{s t u:ByteArray}(hx:H x (.is (.string s)))(hy:H y (.is (.string t)))(h:s.size+t.size<=9223372036854775807)(hu:s++t=u):
 Ob P L Φ H ⟨dst,.binOp .add xt x y yt,ty,pos,after,g⟩ (.is (.string u)):=hu ▸ Z67 hx hy h
end Go.Vc
set_option maxRecDepth 20000
namespace Go.Vc
open Go
variable{P:Program}{c:Ctx}{K K' K0:List (Nat×Ty)}{L L' L0 Lr Lq Lm Lk:List Own}{Φ Φ0:List (World->Prop)}{Q:Exit->Act->World->Prop}{H:Know}{dst:Option Nat}{ty:TypeId}{pos:String}{after:Array Edge}{g:Option (Nat×Bool)}{ops:Array Oper}{rest:List Oper}{fn:Func}{n:Nat}{X:Nat->Prop}{W:World}{op:Op}{f:FuncId}{As:List Ty}{T:Ty}{Z:Type}{Zp:Z->Prop}{L1:Z->List Own}{R:Z->Ty}{Bad:Prop}{ch:List PanicEntry}
theorem Z70{s t:TypeId}{x:Operand}{k ku:IntKind}{a cc:Int}(hu0: ∃d,P.underlying s=some d)(hu:P.underlying t=some (.int k))(hx:H x (.is (.int ku a)))(hc:k.wrap a=cc):
 Ob P L Φ H ⟨dst,.convert s t x,ty,pos,after,g⟩ (.is (.int k cc)):=hc ▸ Z6D hu0 hu hx
end Go.Vc
set_option maxRecDepth 20000
namespace Go.Vc
open Go
variable{P:Program}{c:Ctx}{K K' K0:List (Nat×Ty)}{L L' L0 Lr Lq Lm Lk:List Own}{Φ Φ0:List (World->Prop)}{Q:Exit->Act->World->Prop}{H:Know}{dst:Option Nat}{ty:TypeId}{pos:String}{after:Array Edge}{g:Option (Nat×Bool)}{ops:Array Oper}{rest:List Oper}{fn:Func}{n:Nat}{X:Nat->Prop}{W:World}{op:Op}{f:FuncId}{As:List Ty}{T:Ty}{Z:Type}{Zp:Z->Prop}{L1:Z->List Own}{R:Z->Ty}{Bad:Prop}{ch:List PanicEntry}
def repL(c:UInt8)(new:List UInt8)(s:List UInt8):List UInt8:=s.flatMap fun b=>if b==c then new else[b]
theorem Z6I(c:UInt8)(new:List UInt8)(b:UInt8)(s:List UInt8):repL c new (b::s)=(if b==c then new else[b])++repL c new s:=rfl
theorem Zbh(c:UInt8)(s:List UInt8):Lib.index (c::s) [c]=0:=by
 unfold Lib.index
 simp[List.isPrefixOf]
theorem Zaf{b c:UInt8}(h:(b==c)=false)(s:List UInt8):Lib.index (b::s) [c]=if Lib.index s [c]== -1 then-1 else Lib.index s [c]+1:=by
 conv=>lhs;unfold Lib.index
 have:(c==b)=false:=by
   rw[beq_eq_false_iff_ne]at h ⊢;exact fun e=>h e.symm
 simp[List.isPrefixOf,this]
theorem Za3(c:UInt8)(s:List UInt8):Lib.count (c::s) [c]=Lib.count s [c]+1:=by
 rw[Lib.count_hit (i:=0) (by simp) (Zbh c s)];show 1+Lib.count s [c]=_
 omega
theorem Z9d{b c:UInt8}(h:(b==c)=false)(s:List UInt8):Lib.count (b::s) [c]=Lib.count s [c]:=by
 have hi:=Zaf h s
 by_cases hm:Lib.index s [c]= -1
 · rw[hm]at hi
   rw[Lib.count_miss (by simpa using hi),Lib.count_miss hm]
 · have hge:=Lib.index_ge s [c]
   obtain⟨k,hk⟩: ∃k:Nat,Lib.index s [c]=k:=⟨(Lib.index s [c]).toNat,by omega⟩;rw[if_neg (by simpa using hm),hk]at hi;rw[Lib.count_hit (i:=k+1) (by simp) (by rw[hi];rfl),Lib.count_hit (by simp) hk,show k+1+[c].length=(k+[c].length)+1 by omega,List.drop_succ_cons]
theorem ZhU{b c:UInt8}(h:(b==c)=false)(new:List UInt8): ∀(k:Nat) (s:List UInt8),Lib.replaceK [c] new k (b::s)=b::Lib.replaceK [c] new k s
 |0,_=>rfl
 |k+1,s=>by
   have hi:=Zaf h s
   by_cases hm:Lib.index s [c]= -1
   · rw[hm]at hi
     rw[Lib.replaceK,if_pos (by rw[hi];rfl),Lib.replaceK,if_pos (by rw[hm];rfl)]
   · have hge:=Lib.index_ge s [c]
     obtain⟨j,hj⟩: ∃j:Nat,Lib.index s [c]=j:=⟨(Lib.index s [c]).toNat,by omega⟩;rw[if_neg (by simpa using hm),hj]at hi;rw[Lib.replaceK_hit [c] new k _ (j+1) (by rw[hi];rfl),Lib.replaceK_hit [c] new k _ j hj,show j+1+[c].length=(j+[c].length)+1 by omega,List.drop_succ_cons,List.take_succ_cons]
     rfl
theorem ZeB(c:UInt8)(new:List UInt8): ∀s:List UInt8,Lib.replaceK [c] new (Lib.count s [c]) s=repL c new s
 |[]=>rfl
 |b::s=>by
   have ih:=ZeB c new s
   by_cases h:(b==c)=true
   · have e:b=c:=by simpa using h
     subst e;rw[Za3,Lib.replaceK_hit [b] new _ _ 0 (Zbh b s),Z6I,if_pos h,<-ih]
     rfl
   · have h:(b==c)=false:=by simpa using h
     rw[Z9d h,ZhU h,ih,Z6I,if_neg (by rw[h];simp)]
     rfl
theorem Zch(c:UInt8)(new s:List UInt8)(h:([c]==new)=false):Lib.replaceAll s [c] new=repL c new s:=by
 unfold Lib.replaceAll Lib.replace Lib.replaceNum;rw[if_neg (by rw[h];simp),if_pos (Or.inl (by decide))];exact ZeB c new s
theorem ZaM(c:UInt8): ∀s:List UInt8,Lib.count s [c]<=s.length
 |[]=>Nat.zero_le _
 |b::s=>by
   have ih:=ZaM c s
   by_cases h:(b==c)=true
   · have e:b=c:=by simpa using h
     subst e;rw[Za3,List.length_cons]
     omega
   · rw[Z9d (by simpa using h),List.length_cons]
     omega
theorem Z6d(c:UInt8){new:List UInt8}(hn:new.length<=2): ∀s:List UInt8,(repL c new s).length<=2*s.length
 |[]=>Nat.zero_le _
 |b::s=>by
   have ih:=Z6d c hn s;rw[Z6I,List.length_append,List.length_cons]
   split<;>simp<;>omega
def SlC{α:Type}(enc:α->List Value)(sz:Nat)(xs:List α)(v:Value)(w:World):Prop:=∃a len cap,v= .slice a len cap/\len<=cap/\RowG enc sz xs a len w
section
variable{α:Type}{enc:α->List Value}{sz:Nat}
theorem Sub.slNilC:Sub L Φ (.is (.slice none 0 0)) (.rep (SlC enc sz [])):=fun E v w hf e=>by
 rw[show v=_ from e];exact fun w' _=>⟨none,0,0,rfl,Nat.le_refl _,rfl,fun h=>absurd rfl h⟩
theorem Sub.slFactC{xs:List α}{a:Option Addr}{len cap:Nat}(h:RowG enc sz xs a len∈Φ)(hc:len<=cap):Sub L Φ (.is (.slice a len cap)) (.rep (SlC enc sz xs)):=fun E v w hf e=>by
 rw[show v=_ from e];exact fun w' hk=>⟨a,len,cap,rfl,hc,hf.2 _ h w' hk⟩
theorem ZgQ{xs:List α}{st:Option (Nat×List Value)}{cap:Nat}(h:Grows enc sz xs st cap): ∃cap',xs.length<=cap'/\sliceO st xs.length cap= .slice (adO st) xs.length cap':=by
 cases st with
 |none=>
   have:xs=[]:=h;subst this;exact⟨0,Nat.le_refl _,rfl⟩
 |some p=>exact⟨cap,h.2.1,rfl⟩
theorem Sub.slOC{xs:List α}{cap:Nat}{st:Option (Nat×List Value)}(hG:Grows enc sz xs st cap)(h:RowG enc sz xs (adO st) xs.length∈Φ):Sub L Φ (.is (sliceO st xs.length cap)) (.rep (SlC enc sz xs)):=by
 obtain⟨cap',hc,e⟩:=ZgQ hG;rw[e];exact Sub.slFactC h hc
theorem J.openSlC{x:Code}{s:Nat}{xs:List α}(h:look K s=some (.rep (SlC enc sz xs)))
   (hj: ∀a len cap b o,xs.length=len->(len≠0->a=some ⟨b,o,none⟩)->len<=cap->J P c ((s,.is (.slice a len cap))::K) L (RowG enc sz xs a len::Φ) x Q):J P c K L Φ x Q:=by
 refine J.open_ h ?_;rintro v ⟨w,a,len,cap,rfl,hc,hl,hk⟩;obtain⟨b,o,hbo⟩: ∃b o,len≠0->a=some ⟨b,o,none⟩:=by
   by_cases hn:len=0
   · exact⟨0,0,fun h=>absurd hn h⟩
   · obtain⟨b,o,e,_⟩:=hk hn;exact⟨b,o,fun _=>e⟩
 refine J.fact (RowG enc sz xs a len) (fun E w hG _=>?_) (J.subΦ (Φ':=RowG enc sz xs a len::Φ) (fun F hF=>?_) (hj a len cap b o hl hbo hc))
 · intro w' hk'
   obtain⟨a',len',cap',e,_,hK⟩:=hG _ List.mem_cons_self w' hk';injection e with e1 e2 e3
   subst e1 e2;exact hK
 · rcases List.mem_cons.1 hF with rfl|hF
   · exact List.mem_cons_self
   · exact List.mem_cons_of_mem _ (List.mem_cons_of_mem _ hF)
end
theorem JO.buildOwn{d:Nat}{t e ty:TypeId}{pos:String}{after:Array Edge}{n sz:Nat}{xs:List (Nat×Operand)}{vs:List (Nat×Value)}{z cs:List Value}(hsh:SlShape P t e sz z)(hn:0<n)(hsm:n*sz<=16777216)(hp:PartsIs (Kn K) xs vs)(hzl:z.length=sz)
   (hok:fillOK (fun i=>some (i*sz,sz)) (n*sz) vs=true)(hc:fillV (fun i=>some (i*sz,sz)) (zeros z (n*sz)) vs=cs)(hd:Nat.blt d c.n=true)
   (hj: ∀b,JO P c ((d,.is (sliceO (some (b,cs)) n n))::K) (ownO (some (b,cs)) e L) Φ ops rest Q):JO P c K L Φ ops (⟨some d,.buildSlice t n xs.toArray,ty,pos,after,none⟩::rest) Q:=by
 refine⟨?_⟩;intro E a w hs;refine wpList_plain rfl fun K' hK=>?_;have hm:=hp.map (ρ:=a.eval) (w:=w) (E:=E) fun x T _ hT=>Z2c hs hT;have hb:=Z4G n w hsh hn hsm hzl hok hc;obtain⟨E',h⟩:=hs.newS (t:=e) (u:=.agg cs.toArray) (n:=n) (Nat.le_of_ble_eq_true hd);unfold Oper.wp;have hrun:(execOp a.eval ⟨some d,.buildSlice t n xs.toArray,ty,pos,after,none⟩).run P w= .ok (.value (.slice (some ⟨w.heap.size,0,none⟩) n n)) (w.alloc (.cells cs.toArray e)):=by
   simp only[execOp];rw[show(xs.toArray.map fun(i,x)=>(i,a.eval x))=vs.toArray by rw[List.map_toArray];exact congrArg List.toArray hm]
   simp[hb]
 rw[hrun];exact hK _ _ ((hj _).out E' _ _ h)
theorem Z6n{α:Type}{enc:α->List Value}{sz:Nat}{P:Program}{L:List Own}{Φ:List (World->Prop)}{tx e':TypeId}{xs:List α}{a:Option Addr}{len cap:Nat}(hsz: ∀x,(enc x).length=sz)(hp:0<sz)(h1: ∀x,∀u∈enc x,u.oneCell'=true)(hk:P.underlying tx=some (.slice e'))(hF:RowG enc sz xs a len∈Φ):SrcOf P L Φ sz tx (.is (.slice a len cap)) xs.length (xs.flatMap enc):=fun E w v hL hΦ h=>
 Zm7 hsz hp h1 hk E w v hL hΦ (by rw[show v=_ from h];exact fun w' hk=>⟨a,len,cap,rfl,hΦ _ hF w' hk⟩)
abbrev adS(a:Option Addr)(l m sz:Nat):Option Addr:=if m=l then a else a.map (·.add (l*sz))
theorem Zkg{t e:TypeId}{sz:Nat}{w:World}(hu:P.underlying t=some (.slice e))(hs:elSize P t=some sz):P.underlying t=some (.slice (P.elem t))/\(sizeOf (P.elem t)).run P w= .ok sz w:=by
 have hel:P.elem t=e:=by unfold Program.elem;rw[hu]
 refine⟨by rw[hel];exact hu,?_⟩;unfold elSize at hs;rw[hu]at hs;rw[hel];simp only at hs;cases hi':P.info? e with
 |none=>rw[hi']at hs;cases hs
 |some i=>rw[hi',Option.map_some,Option.some.injEq]at hs;simp[Go.sizeOf,typeInfo,hi',hs]
theorem Z6X{t e:TypeId}{x lo:Operand}{a:Option Addr}{len cap sz:Nat}{k:IntKind}{n:Int}(hu:P.underlying t=some (.slice e))(hs:elSize P t=some sz)(hx:H x (.is (.slice a len cap)))(hl:H lo (.is (.int k n)))(h0:0<=n)(h1:n<=len):
   Ob P L Φ H ⟨dst,.slice t x (some lo) none none,ty,pos,after,g⟩ (.is (.slice (adS a n.toNat cap sz) (len-n.toNat) (cap-n.toNat))):=
 Z25 fun E w ρ hp=>by
   have e1:ρ x= .slice a len cap:=hp.x x _ (by simp[Op.operands]) hx;have e2:ρ lo= .int k n:=hp.x lo _ (by simp[Op.operands]) hl;obtain⟨hu',hsz⟩:=Zkg (w:=w) hu hs;simp only[execOp,e1,e2,Option.map_some,Option.map_none];have h:=run_slice_l (P:=P) w t a len cap hu' k n h0 h1;have hsl:(Instr.sliceAt t (.slice a len cap) (some (.int k n)) none none).run P w= .ok (.slice (adS a n.toNat cap sz) (len-n.toNat) (cap-n.toNat)) w:=by
     rw[run_sliceAt_slice (P:=P) w t _ _ _ _ hu',h,hsz,Result.andThen_ok]
     rfl
   simp[hsl]
section
variable{xt yt:TypeId}{x y:Operand}{k k':IntKind}{a b v:Int}
theorem Z63(hx:H x (.is (.int k a)))(hy:H y (.is (.int k b)))(h:k.wrap (a-b)=v):Ob P L Φ H ⟨dst,.binOp .sub xt x y yt,ty,pos,after,g⟩ (.is (.int k v)):=h ▸ Zai hx hy
theorem Zg7(hx:H x (.is (.int k a)))(hy:H y (.is (.int k b)))(hb:b≠0)(h:k.wrap (a.tdiv b)=v):Ob P L Φ H ⟨dst,.binOp .quo xt x y yt,ty,pos,after,g⟩ (.is (.int k v)):=h ▸ ZiA hx hy hb
end
theorem wrap_u64(n:Int):IntKind.u64.wrap n=n % 18446744073709551616:=by
 first|exact IntKind.wrap_u64 n|(unfold IntKind.wrap;rfl)|simp[IntKind.wrap]
theorem wrap_u8(n:Int):IntKind.u8.wrap n=n % 256:=by
 first|exact IntKind.wrap_u8 n|(unfold IntKind.wrap;rfl)|simp[IntKind.wrap]
structure CallMT (P:Program) (f:FuncId) (ety:TypeId) (T0:Ty) (Φ0:List (World->Prop)) (As:List Ty) (T1 R:Ty):Prop where
 enter: ∀args w,(callFunc f args).run P w= .ok (.enter f args) w
 calls: ∀(E:Nat->Prop) (w:World) (b:Nat) (vs:List Value),(∀b,E b->b<w.heap.size)->(⟨b,ety,T0⟩:Own).at E w->(∀F∈Φ0,Pers E w F)->TyAll E w As vs->
   Calls P f (.pointer (some ⟨b,0,none⟩)::vs).toArray w fun e w'=>∃v,e= .returned v/\Keeps (fun q=>q=b) w w'/\(⟨b,ety,T1⟩:Own).at E w'/\R.p E v w'
section
variable{R T1:Ty}
end
theorem Upd.same{M M':List Own}{o o':Own}(h:Upd M o o' M')(e:o'.b=o.b):M'.map (·.b)=M.map (·.b):=by
 induction h with
 |here=>simp[e]
 |there _ ih=>simp[ih e]
theorem SA.coerO{E:Nat->Prop}{a:Act}{w:World}{b:Nat}{e:TypeId}{T T':Ty}(hu:Upd L ⟨b,e,T⟩ ⟨b,e,T'⟩ L')(hS:Sub L Φ T T')(hs:SA c K L Φ E a w)(hno:T.isOb=false:=by rfl)(hno1:T'.isOb=false:=by rfl):SA c K L' Φ E a w:=by
 have hat:(⟨b,e,T'⟩:Own).at E w:=by
  obtain⟨h1,v,h2,h3⟩:=hs.l _ hu.mem;exact⟨h1,v,h2.trans (by rw[show(⟨b,e,T⟩:Own).T=T from rfl,show(⟨b,e,T'⟩:Own).T=T' from rfl,Ty.obj_cells hno,Ty.obj_cells hno1]),hS E v w ⟨hs.l,hs.f⟩ h3⟩
 have hmap:L'.map (·.b)=L.map (·.b):=hu.same rfl;refine⟨hs.n,hs.d,hs.wf,hs.k,hu.all hs.ld (fun m hm _=>hs.l m hm) hat,by rw[hmap];exact hs.ld,hs.f,hs.x,hs.xs,hs.keeps,fun o ho=>?_⟩;have:o.b∈L.map (·.b):=by rw[<-hmap];exact List.mem_map_of_mem ho
 obtain⟨m,hm,e'⟩:=List.mem_map.1 this;rw[<-e'];exact hs.may m hm
theorem JO.coerO{ops:Array Oper}{l:List Oper}{b:Nat}{e:TypeId}{T T':Ty}(hu:Upd L ⟨b,e,T⟩ ⟨b,e,T'⟩ L')(hS:Sub L Φ T T')(h:JO P c K L' Φ ops l Q)(hno:T.isOb=false:=by rfl)(hno1:T'.isOb=false:=by rfl):JO P c K L Φ ops l Q:=⟨fun E a w hs=>h.out E a w (hs.coerO hu hS hno hno1)⟩
section
variable{α:Type}{en:α->List Value}{sz:Nat}
end
def FreshW(N:Nat)(e:TypeId)(a:Option Addr)(len cap sz:Nat)(w:World):Prop:=len≠0->∃b cs,a=some ⟨b,0,none⟩/\N<=b/\w.heap[b]? =some (.cells cs e (0,0))/\cs.size=cap*sz
def capO(st:Option (Nat×List Value))(cap:Nat):Nat:=match st with|none=>0|some _=>cap
section
variable{α:Type}{en:α->List Value}{sz:Nat}
theorem Grows.sl{xs:List α}{st:Option (Nat×List Value)}{cap:Nat}(h:Grows en sz xs st cap):sliceO st xs.length cap= .slice (adO st) xs.length (capO st cap)/\xs.length<=capO st cap:=by
 cases st with
 |none=>
   have:xs=[]:=h;subst this;exact⟨rfl,Nat.le_refl _⟩
 |some p=>exact⟨rfl,h.2.1⟩
end
structure EndL {Z:Type} (L0:List Own) (Zp:Z->Prop) (L1:Z->List Own) (R:Z->Ty) (E:Nat->Prop) (w:World) (z:Z) (E':Nat->Prop) (v:Value) (w':World):Prop where
 zp:Zp z
 k:Keeps (fun q=>q∈L0.map (·.b)) w w'
 same: ∀b,b<w.heap.size->(E' b↔E b)
 wf: ∀b,E' b->b<w'.heap.size
 l: ∀o∈L1 z,o.at E' w'
 nd:((L1 z).map (·.b)).Nodup
 inn: ∀o∈L1 z,o.b∈L0.map (·.b)\/w.heap.size<=o.b
 r:(R z).p E' v w'
structure CallL (P:Program) (f:FuncId) {Z:Type} (L0:List Own) (Φ0:List (World->Prop)) (As:List Ty) (Zp:Z->Prop) (L1:Z->List Own) (R:Z->Ty):Prop where
 enter: ∀args w,(callFunc f args).run P w= .ok (.enter f args) w
 calls: ∀(E:Nat->Prop) (w:World) (vs:List Value),(∀b,E b->b<w.heap.size)->(∀o∈L0,o.at E w)->(L0.map (·.b)).Nodup->(∀F∈Φ0,Pers E w F)->TyAll E w As vs->
   Calls P f vs.toArray w fun e w'=>∃v z E',e= .returned v/\EndL L0 Zp L1 R E w z E' v w'
theorem Zar(hc:CallL P f L0 Φ0 As Zp L1 R)(hΦ: ∀F∈Φ0,F∈Φ){E:Nat->Prop}{w:World}{vs:List Value}(hw: ∀b,E b->b<w.heap.size)(hf: ∀F∈Φ,Pers E w F)(ht:TyAll E w As vs)(hM: ∀m∈L0,m.at E w)(hnd:(L0.map (·.b)).Nodup):
  Runs P ((callFunc f vs.toArray).run P w) fun v w'=>∃z E',EndL L0 Zp L1 R E w z E' v w':=by
 rw[hc.enter];refine Calls.mono (hc.calls E w vs hw hM hnd (fun F hF=>hf F (hΦ F hF)) ht) ?_;rintro e w' ⟨v,z,E',rfl,h⟩;exact⟨z,E',h⟩
theorem JO.stepL{ops:Array Oper}{o:Oper}{rest:List Oper}(hg:o.guard=none)(hd: ∀d,o.dst=some d->d<c.n)(hL:L.Perm (L0++Lr))
   (h: ∀E w ρ,Pre L Φ (Kn K) o E w ρ->(L0.map (·.b)).Nodup->Runs P ((execOp ρ o).run P w) fun v w'=>∃z E',EndL L0 Zp L1 R E w z E' v w')
   (hn: ∀z,Zp z->JO P c (putK o.dst (R z) K) (L1 z++Lr) Φ ops rest Q):JO P c K L Φ ops (o::rest) Q:=by
 refine⟨?_⟩;intro E a w hs;refine wpList_plain hg fun K' hK=>?_;unfold Oper.wp;have hnd:((L0++Lr).map (·.b)).Nodup:=((hL.map _).nodup_iff).1 hs.ld;rw[List.map_append,List.nodup_append]at hnd;refine Runs.upon (h E w a.eval ⟨hs.wf,hs.l,hs.f,fun x T' _ hx=>Z2c hs hx⟩ hnd.1) fun v w' ⟨z,E',he⟩=>hK _ _ ((hn z he.zp).out E' _ _ ?_);have hin: ∀o∈L0,o∈L:=fun o ho=>hL.mem_iff.2 (List.mem_append_left _ ho);have hir: ∀o∈Lr,o∈L:=fun o ho=>hL.mem_iff.2 (List.mem_append_right _ ho);have hsub: ∀b,b∈L0.map (·.b)->E b:=fun b hb=>by obtain⟨m,hm,rfl⟩:=List.mem_map.1 hb;exact(hs.l m (hin m hm)).1
 have hmay: ∀b,b∈L0.map (·.b)->c.X0 b\/c.W0.heap.size<=b:=fun b hb=>by obtain⟨m,hm,rfl⟩:=List.mem_map.1 hb;exact hs.may m (hin m hm)
 have hev:Ev E w E' w':=⟨he.k.mono (fun b _=>hsub b),he.same⟩;refine hs.put hev he.wf he.r hd ?_ ?_ (hs.keeps.step he.k hmay) ?_
 · intro o ho
   rcases List.mem_append.1 ho with ho|ho
   · exact he.l o ho
   · have h1:=hs.l o (hir o ho)
     exact Own.keep h1 hev (he.k.blk _ (hs.wf _ h1.1) fun hm=>hnd.2.2 _ hm _ (List.mem_map_of_mem ho) rfl)
 · rw[List.map_append,List.nodup_append]
   refine⟨he.nd,hnd.2.1,fun b hb b' hb' e=>?_⟩;subst e;obtain⟨m,hm,rfl⟩:=List.mem_map.1 hb;obtain⟨m',hm',e'⟩:=List.mem_map.1 hb';rcases he.inn m hm with h1|h1
   · exact hnd.2.2 _ h1 _ hb' rfl
   · have:=hs.wf m'.b (hs.l m' (hir m' hm')).1
     have e2:m'.b=m.b:=e'
     omega
 · intro o ho
   rcases List.mem_append.1 ho with ho|ho
   · rcases he.inn o ho with h1|h1
     · exact hmay _ h1
     · exact .inr (Nat.le_trans hs.keeps.size h1)
   · exact hs.may o (hir o ho)
theorem JO.callL{ops:Array Oper}{rest:List Oper}{dst:Option Nat}{ty:TypeId}{pos:String}{after:Array Edge}{xs:List Operand}{ats:Array TypeId}(hc:CallL P f L0 Φ0 As Zp L1 R)(hd: ∀d,dst=some d->d<c.n)(hL:L.Perm (L0++Lr))(hΦ: ∀F∈Φ0,F∈Φ)(ha:Args L Φ (Kn K) xs As)
  (hn: ∀z,Zp z->JO P c (putK dst (R z) K) (L1 z++Lr) Φ ops rest Q):JO P c K L Φ ops (⟨dst,.call {callee:=.value (.func f),args:=xs.toArray,argTypes:=ats},ty,pos,after,none⟩::rest) Q:=by
 refine JO.stepL rfl hd hL (fun E w ρ hp hnd=>?_) hn;have h1:ρ (.func f)= .func (.func f) #[] #[]:=hp.x (.func f) (.is (.func (.func f) #[] #[])) (by simp[Op.operands,Call.operands]) rfl;have hall:=ha.all (ρ:=ρ) (Z2B hp) fun x T hx=>hp.x x T (by simp[Op.operands,Call.operands,hx]);have h3:=Zar hc hΦ hp.wf hp.f hall (fun m hm=>hp.l m (hL.mem_iff.2 (List.mem_append_left _ hm))) hnd;simp only[execOp,resolve,h1,Deferred.ofValue,invoke,Sem.run_bind,Sem.run_pure,Result.andThen_ok,List.map_toArray]
 simpa using h3
def PostL(X:Nat->Prop)(W:World)(L0:List Own)(Zp:Z->Prop)(L1:Z->List Own)(R:Z->Ty):Ending->World->Prop:=fun e w'=>∃v z E',e= .returned v/\EndL L0 Zp L1 R X W z E' v w'
theorem JX.retLOf(z:Z)(hz:Zp z)(hL:L.Perm (L1 z++Lr))(hol:(L1 z).all (fun o=>o.T.out)=true)(hor:(R z).out=true)(hL0: ∀b,b∈L0.map (·.b)->X b)
   (hr: ∀a w E,SA ⟨n,X,fun q=>q∈L0.map (·.b),W,[]⟩ K L Φ E a w->∃v,(results fn a.tmps).run P w= .ok v w/\(R z).p E v w):JX ⟨n,X,fun q=>q∈L0.map (·.b),W,[]⟩ K L Φ .ret (bodyPost P fn (PostL X W L0 Zp L1 R)):=by
 refine⟨?_⟩;intro E a w hs;obtain⟨v,h1,h2⟩:=hr a w E hs;have hin: ∀o∈L1 z,o∈L:=fun o ho=>hL.mem_iff.2 (List.mem_append_left _ ho);have hnd:((L1 z++Lr).map (·.b)).Nodup:=((hL.map _).nodup_iff).1 hs.ld;rw[List.map_append,List.nodup_append]at hnd;have hsub: ∀b,b<w.heap.size->(X b\/b∈(L1 z).map (·.b))->E b:=fun b _ hb=>by
   rcases hb with hb|hb
   · exact hs.x b hb
   · obtain⟨m,hm,rfl⟩:=List.mem_map.1 hb
     exact(hs.l m (hin m hm)).1
 refine⟨hs.d,v,h1,v,z,fun b=>X b\/b∈(L1 z).map (·.b),rfl,hz,hs.keeps,fun b hb=>⟨fun h=>?_,.inl⟩,fun b hb=>?_,fun o ho=>?_,hnd.1,fun o ho=>hs.may o (hin o ho),Ty.weak hsub hor h2⟩
 · rcases h with h|h
   · exact h
   · obtain⟨m,hm,rfl⟩:=List.mem_map.1 h
     rcases hs.may m (hin m hm)with h3|h3
     · exact hL0 _ h3
     · exact absurd hb (Nat.not_lt.2 h3)
 · rcases hb with hb|hb
   · exact hs.wf b (hs.x b hb)
   · obtain⟨m,hm,rfl⟩:=List.mem_map.1 hb
     exact hs.wf _ (hs.l m (hin m hm)).1
 · obtain⟨h3,V,h4,h5⟩:=hs.l o (hin o ho)
   exact⟨.inr (List.mem_map_of_mem ho),V,h4,Ty.weak hsub (List.all_eq_true.1 hol o ho) h5⟩
theorem JX.retL0(hres:fn.results= #[])(z:Z)(hz:Zp z)(hL:L.Perm (L1 z++Lr))(hol:(L1 z).all (fun o=>o.T.out)=true)(hL0: ∀b,b∈L0.map (·.b)->X b)(hR:R z= .is (.tuple #[])):JX ⟨n,X,fun q=>q∈L0.map (·.b),W,[]⟩ K L Φ .ret (bodyPost P fn (PostL X W L0 Zp L1 R)):=
 JX.retLOf z hz hL hol (by rw[hR];rfl) hL0 fun a w E hs=>⟨_,results_none hres _ _ _,by rw[hR];rfl⟩
theorem JX.retL1{t:Nat}{T:Ty}(hres:fn.results= #[.tmp t])(z:Z)(hz:Zp z)(hL:L.Perm (L1 z++Lr))(hol:(L1 z).all (fun o=>o.T.out)=true)(hor:(R z).out=true)(hL0: ∀b,b∈L0.map (·.b)->X b)(h:look K t=some T)(hR:Sub L Φ T (R z)):JX ⟨n,X,fun q=>q∈L0.map (·.b),W,[]⟩ K L Φ .ret (bodyPost P fn (PostL X W L0 Zp L1 R)):=
 JX.retLOf z hz hL hol hor hL0 fun a w E hs=>⟨_,results_tmp hres _ _ _,hR E _ w ⟨hs.l,hs.f⟩ (hs.k t _ h)⟩
theorem CallL.of{x:Code}(hf:P.funcs[f]? =some fn)(hb:fn.body=some x)(hn:fn.ntmps=n)(hl:Nat.ble As.length n=true)(he: ∀args w,(callFunc f args).run P w= .ok (.enter f args) w)
   (h: ∀(E:Nat->Prop) (W:World),(∀b,b∈L0.map (·.b)->E b)->J P ⟨n,E,fun q=>q∈L0.map (·.b),W,[]⟩ (params 0 As) L0 Φ0 x (bodyPost P fn (PostL E W L0 Zp L1 R))):CallL P f L0 Φ0 As Zp L1 R:=
 ⟨he,fun E w vs hw hM hnd hΦ ht=>by
   refine calls_of_wp hf hb ?_;rw[hn];refine(h E w (fun b hb=>by obtain⟨m,hm,rfl⟩:=List.mem_map.1 hb;exact(hM m hm).1)).out E _ w ?_;have hs:=Z4h (n:=n) hw ht (Nat.le_of_ble_eq_true hl);exact⟨hs.n,hs.d,hw,hs.k,hM,hnd,hΦ,fun _ h=>h,hw,.refl _ _,fun o ho=>.inl (List.mem_map_of_mem ho)⟩⟩
end Go.Vc
