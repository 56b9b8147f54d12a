/- The program logic, part 3. No condition. -/
import Derived.Test.YtbedigkncjbggaaGreatDoorXG1
namespace Go.Vc
open Go
variable{P:Program}{c:Ctx}{K' K0:List (Nat×Ty)}{L L' L0 Lr Lq Lm Lk:List Own}{Φ Φ0:List (World->Prop)}{Q:Exit->Act->World->Prop}{H:Know}{dst:Option Nat}{ty:TypeId}{pos:String}{after:Array Edge}{g:Option (Nat×Bool)}{ops:Array Oper}{rest:List Oper}{fn:Func}{n:Nat}{X:Nat->Prop}{W:World}{f:FuncId}{As:List Ty}{T:Ty}{Z:Type}{Zp:Z->Prop}{L1:Z->List Own}{R:Z->Ty}{Bad:Prop}{ch:List PanicEntry}
section
theorem ZbU{t tx ty e:TypeId}{i:TypeInfo}{z:Value}(ht:P.underlying t=some (.slice e))(hi:P.info? e=some i)(hz:i.zero=some z)(hzs:z.cells.size=i.size)
   {w:World}{a:Option Addr}{n:Nat}{news:List Value}{x:Value}(hs:Src P i.size tx x n news w)(hn:n≠0)(hfit:n*i.bytes<=140737488355328)(h63:n<=9223372036854775807):
   ∃(cap':Nat) (cs':List Value) (w':World),(Builtin.append_ #[t,tx] ty #[.slice a 0 0,x]).run P w= .ok (.slice (some ⟨w.heap.size,0,none⟩) n cap') w'/\cs'.length=cap'*i.size/\n<=cap'/\
     cs'.take (n*i.size)=news/\w'.heap[w.heap.size]? =some (.cells cs'.toArray e (0,0))/\Keeps noX w w':=by
 have hnl:=hs.newsLen;have hold:(Builtin.firstCells i.size 0 (.slice a 0 0)).run P w.drew= .ok ([]:List Value).toArray w.drew:=by
   cases a with
   |none=>rfl
   |some a=>exact run_firstCells_some _ _ _ _ _ _ _ (by simp) fun j v hj=>by simp at hj
 have hg:0<0+n:=by omega
 have hr:=run_append_grow_src (P:=P) w t tx ty e i z ht hi hz a 0 0 [] hold x n news hs hg (by omega) (growslice_fits hg (by rw[Nat.zero_add];exact hfit));have hge:=grownCap_ge w (0+n) 0 e;simp only[Nat.zero_add,List.nil_append]at hr hge;refine⟨grownCap w n 0 e,news++(Builtin.zeroCells z.cells (grownCap w n 0 e-n)).toList,_,hr,?_,hge,?_,?_,((Keeps.drew w).trans (Keeps.alloc _ _))⟩
 · have:(Builtin.zeroCells z.cells (grownCap w n 0 e-n)).size=(grownCap w n 0 e-n)*i.size:=by simp[Builtin.zeroCells,hzs]
   simp only[List.length_append,Array.length_toList,this,hnl];rw[<-Nat.add_mul]
   congr 1
   omega
 · rw[List.take_append_of_le_length (by omega),List.take_of_length_le (by omega)]
 · have:=Z2i w.drew (.cells (news.toArray++Builtin.zeroCells z.cells (grownCap w n 0 e-n)) e (0,0))
   rw[show w.drew.heap.size=w.heap.size from rfl]at this;rw[this]
   congr 2
   apply Array.ext'
   simp
theorem Z6A{t tx ty e:TypeId}{i:TypeInfo}(ht:P.underlying t=some (.slice e))(hi:P.info? e=some i){w:World}{a:Option Addr}{news:List Value}{x:Value}(hs:Src P i.size tx x 0 news w):
  (Builtin.append_ #[t,tx] ty #[.slice a 0 0,x]).run P w= .ok (.slice a 0 0) w:=by
 have hnl:news=[]:=List.length_eq_zero_iff.1 (by have:=hs.newsLen;omega);have hc:=hs.cells;rw[hnl]at hc;cases a with
 |none=>rcases hs.kind with⟨e',hk⟩|hk<;>simp[Builtin.append_,run_underlying ht,run_underlying hk,sizeOf,typeInfo,hi,hs.len,hc]
 |some a=>rcases hs.kind with⟨e',hk⟩|hk<;>simp[Builtin.append_,run_underlying ht,run_underlying hk,sizeOf,typeInfo,hi,hs.len,hc,storeCells]
variable{K:List (Nat×Ty)}
theorem SA.fresh{E:Nat->Prop}{a:Act}{w w':World}{d:Nat}{ety:TypeId}{u v:Value}(hs:SA c K L Φ E a w)(hk:Keeps noX w w')(hat:w'.heap[w.heap.size]? =some (.cells u.cells ety (0,0)))(hd:d<c.n):
   ∃E',SA c ((d,.is v)::K) (⟨w.heap.size,ety,.is u⟩::L) Φ E' (a.put (some d) v) w':=by
 have hev:Ev E w (fun b=>E b\/b=w.heap.size) w':=⟨hk.of_noX,fun b hb=>⟨fun h=>h.elim id (fun e=>absurd hb (by omega)),.inl⟩⟩;refine⟨fun b=>E b\/b=w.heap.size,hs.put (dst:=some d) (T:=.is v) hev ?_ rfl (fun d' e=>by injection e with e;omega) ?_ ?_ (hs.keeps.step hk fun _=>False.elim) ?_⟩
 · rintro b (hb|rfl)
   · have:=hs.wf b hb;have:=hk.size;omega
   · exact Z1d hat
 · intro o ho
   rcases List.mem_cons.1 ho with rfl|ho
   · exact⟨.inr rfl,u,hat,rfl⟩
   · exact Own.keep0 (hs.l o ho) hev hk
 · rw[List.map_cons,List.nodup_cons]
   refine⟨fun h=>?_,hs.ld⟩;obtain⟨m,hm,e⟩:=List.mem_map.1 h;have h1:=hs.wf m.b (hs.l m hm).1;have e':m.b=w.heap.size:=e
   omega
 · intro o ho
   rcases List.mem_cons.1 ho with rfl|ho
   · exact .inr hs.keeps.size
   · exact hs.may o ho
theorem JO.append0{ops:Array Oper}{rest:List Oper}{d:Nat}{ty t tx e:TypeId}{pos:String}{after:Array Edge}{s x:Operand}{i:TypeInfo}{z:Value}{n:Nat}{news:List Value}{TX T0:Ty}
   (ht:P.underlying t=some (.slice e))(hi:P.info? e=some i)(hz:i.zero=some z)(hzs:z.cells.size=i.size)
   (h0:opTy K s=some T0)(hT0: ∀E v w,T0.p E v w->∃a,v= .slice a 0 0)(hx:opTy K x=some TX)(hS:SrcOf P L Φ i.size tx TX n news)(hfit:n*i.bytes<=140737488355328)(h63:n<=9223372036854775807)(hd:Nat.blt d c.n=true)
   (hn0:n=0->∀a,JO P c ((d,.is (.slice a 0 0))::K) L Φ ops rest Q)
   (hn1:n≠0->∀(b' cap':Nat) (cs':List Value),cs'.length=cap'*i.size->n<=cap'->cs'.take (n*i.size)=news->JO P c ((d,.is (.slice (some ⟨b',0,none⟩) n cap'))::K) (⟨b',e,.is (.agg cs'.toArray)⟩::L) Φ ops rest Q):
   JO P c K L Φ ops (⟨some d,.call {callee:=.builtin .append,args:= #[s,x],argTypes:= #[t,tx]},ty,pos,after,none⟩::rest) Q:=by
 refine⟨?_⟩;intro E a w hs;refine wpList_plain rfl fun K' hK=>?_;obtain⟨ad,e1⟩:=hT0 E _ w (Z2c hs h0);have e2:=hS E w (a.eval x) hs.l hs.f (Z2c hs hx);unfold Oper.wp
 by_cases h:n=0
 · subst h
   have hr:=Z6A (P:=P) (ty:=ty) (a:=ad) ht hi e2;have hrun:(execOp a.eval ⟨some d,.call {callee:=.builtin .append,args:= #[s,x],argTypes:= #[t,tx]},ty,pos,after,none⟩).run P w= .ok (.value (.slice ad 0 0)) w:=by
     simp[execOp,resolve,invoke,builtin,e1,hr]
   rw[hrun];have hs':SA c ((d,.is (.slice ad 0 0))::K) L Φ E (a.put (some d) (.slice ad 0 0)) w:=hs.put (dst:=some d) (T:=.is (.slice ad 0 0)) (Ev.of_keeps (.refl _ _)) hs.wf rfl (fun d' e=>by injection e with e;subst e;exact Nat.le_of_ble_eq_true hd) hs.l hs.ld hs.keeps hs.may;exact hK _ _ ((hn0 rfl ad).out E _ _ hs')
 · obtain⟨cap',cs',w',hr,h1,h2,h3,h4,h5⟩:=ZbU (P:=P) (tx:=tx) (ty:=ty) (a:=ad) ht hi hz hzs e2 h hfit h63
   obtain⟨E',hs'⟩:=hs.fresh (d:=d) (u:=.agg cs'.toArray) (v:=.slice (some ⟨w.heap.size,0,none⟩) n cap') h5 h4 (Nat.le_of_ble_eq_true hd);have hrun:(execOp a.eval ⟨some d,.call {callee:=.builtin .append,args:= #[s,x],argTypes:= #[t,tx]},ty,pos,after,none⟩).run P w= .ok (.value (.slice (some ⟨w.heap.size,0,none⟩) n cap')) w':=by
     simp[execOp,resolve,invoke,builtin,e1,hr]
   rw[hrun];exact hK _ _ ((hn1 h _ cap' cs' h1 h2 h3).out E' _ _ hs')
def HeapIs(b:Nat)(cs:List Value)(e:TypeId)(w:World):Prop:=w.heap[b]? =some (.cells cs.toArray e (0,0))
theorem SA.freeze{E:Nat->Prop}{a:Act}{w:World}{b:Nat}{e:TypeId}{cs:List Value}(hs:SA c K (⟨b,e,.is (.agg cs.toArray)⟩::L) Φ E a w)(h0: ∀q,¬c.X0 q)(hK: ∀s T,look K s=some T->T.out=true)(hL: ∀o∈L,o.T.out=true):
   ∃E',SA c K L (HeapIs b cs e::Φ) E' a w:=by
 have hb:=Z4u (hs.l _ List.mem_cons_self) rfl;have hbW:c.W0.heap.size<=b:=(hs.may _ List.mem_cons_self).resolve_left (h0 b);have hsub: ∀q,q<w.heap.size->(E q/\q≠b)->E q:=fun q _ h=>h.1;have hld:=hs.ld;rw[List.map_cons,List.nodup_cons]at hld;refine⟨fun q=>E q/\q≠b,hs.n,hs.d,fun q h=>hs.wf q h.1,fun s T h=>Ty.weak hsub (hK s T h) (hs.k s T h),fun o ho=>?_,hld.2,fun F hF=>?_,fun q hq=>⟨hs.x q hq,fun e=>?_⟩,hs.xs,hs.keeps,fun o ho=>hs.may o (List.mem_cons_of_mem _ ho)⟩
 · obtain⟨h1,v,h2,h3⟩:=hs.l o (List.mem_cons_of_mem _ ho)
   exact⟨⟨h1,fun e=>hld.1 (List.mem_map.2 ⟨o,ho,e⟩)⟩,v,h2,Ty.weak hsub (hL o ho) h3⟩
 · rcases List.mem_cons.1 hF with rfl|hF
   · intro w' hk
     exact hk.get hb fun h=>h.2 rfl
   · exact Pers.weak (hs.f F hF) hsub
 · have:=hs.xs q hq
   omega
end
section
variable{K:List (Nat×Ty)}
theorem Z9J: ∀{K:List (Nat×Ty)},K.all (fun p=>p.2.out)=true->∀s T,look K s=some T->T.out=true
 |[],_,s,T,h=>by cases h
 |(t,U)::K,ha,s,T,h=>by
   simp only[List.all_cons,Bool.and_eq_true]at ha;unfold look at h;cases hb:Nat.beq t s
   · rw[hb]at h
     exact Z9J ha.2 s T h
   · rw[hb]at h
     injection h with h
     subst h;exact ha.1
end
structure ApTy (P:Program) (t e:TypeId) (sz bytes:Nat):Prop where
 ht:P.underlying t=some (.slice e)
 hi:(P.info? e).map (fun i=>(i.size,i.bytes,i.zero.map (·.cells.size)))=some (sz,bytes,some sz)
theorem ApTy.get{P:Program}{t e:TypeId}{sz bytes:Nat}(h:ApTy P t e sz bytes): ∃i z,P.info? e=some i/\i.zero=some z/\z.cells.size=i.size/\i.size=sz/\i.bytes=bytes:=by
 have h1:=h.hi;cases hq:P.info? e with
 |none=>rw[hq]at h1;cases h1
 |some i=>
   rw[hq,Option.map_some,Option.some.injEq,Prod.mk.injEq,Prod.mk.injEq]at h1;obtain⟨h2,h3,h4⟩:=h1;cases hz:i.zero with
   |none=>rw[hz]at h4;cases h4
   |some z=>rw[hz,Option.map_some,Option.some.injEq]at h4;exact⟨i,z,rfl,hz,h4.trans h2.symm,h2,h3⟩
section
variable{K:List (Nat×Ty)}
theorem JO.ap{ops:Array Oper}{rest:List Oper}{d:Nat}{ty t tx e:TypeId}{pos:String}{after:Array Edge}{s x:Operand}{sz bytes:Nat}{b len cap n:Nat}{cs news:List Value}{TX:Ty}
   (hT:ApTy P t e sz bytes)(h0:opTy K s=some (.is (.slice (some ⟨b,0,none⟩) len cap)))(hx:opTy K x=some TX)(hS:SrcOf P (⟨b,e,.is (.agg cs.toArray)⟩::L) Φ sz tx TX n news)(hc:cs.length=cap*sz)(hl:len<=cap)(hfit:(len+n)*bytes<=140737488355328)(h63:len+n<=9223372036854775807)(hd:Nat.blt d c.n=true)
   (hn: ∀(b' cap':Nat) (cs':List Value),cs'.length=cap'*sz->len+n<=cap'->cs'.take ((len+n)*sz)=cs.take (len*sz)++news->JO P c ((d,.is (.slice (some ⟨b',0,none⟩) (len+n) cap'))::K) (⟨b',e,.is (.agg cs'.toArray)⟩::L) Φ ops rest Q):
   JO P c K (⟨b,e,.is (.agg cs.toArray)⟩::L) Φ ops (⟨some d,.call {callee:=.builtin .append,args:= #[s,x],argTypes:= #[t,tx]},ty,pos,after,none⟩::rest) Q:=by
 obtain⟨i,z,hi,hz,hzs,rfl,rfl⟩:=hT.get;exact JO.append hT.ht hi hz hzs h0 hx hS hc hl hfit h63 hd hn
theorem JO.ap0{ops:Array Oper}{rest:List Oper}{d:Nat}{ty t tx e:TypeId}{pos:String}{after:Array Edge}{s x:Operand}{sz bytes:Nat}{n:Nat}{news:List Value}{TX T0:Ty}
   (hT:ApTy P t e sz bytes)(h0:opTy K s=some T0)(hT0: ∀E v w,T0.p E v w->∃a,v= .slice a 0 0)(hx:opTy K x=some TX)(hS:SrcOf P L Φ sz tx TX n news)(hfit:n*bytes<=140737488355328)(h63:n<=9223372036854775807)(hd:Nat.blt d c.n=true)
   (hn0:n=0->∀a,JO P c ((d,.is (.slice a 0 0))::K) L Φ ops rest Q)
   (hn1:n≠0->∀(b' cap':Nat) (cs':List Value),cs'.length=cap'*sz->n<=cap'->cs'.take (n*sz)=news->JO P c ((d,.is (.slice (some ⟨b',0,none⟩) n cap'))::K) (⟨b',e,.is (.agg cs'.toArray)⟩::L) Φ ops rest Q):
   JO P c K L Φ ops (⟨some d,.call {callee:=.builtin .append,args:= #[s,x],argTypes:= #[t,tx]},ty,pos,after,none⟩::rest) Q:=by
 obtain⟨i,z,hi,hz,hzs,rfl,rfl⟩:=hT.get;exact JO.append0 hT.ht hi hz hzs h0 hT0 hx hS hfit h63 hd hn0 hn1
end
def RowG{α:Type}(enc:α->List Value)(sz:Nat)(xs:List α)(a:Option Addr)(len:Nat)(w:World):Prop:=xs.length=len/\(len≠0->∃b o,a=some ⟨b,o,none⟩/\ ∀i x,xs[i]? =some x->RowAt (enc x) b (o+sz*i) w)
def SlG{α:Type}(enc:α->List Value)(sz:Nat)(xs:List α)(v:Value)(w:World):Prop:=∃a len cap,v= .slice a len cap/\RowG enc sz xs a len w
section
variable{α:Type}{enc:α->List Value}{sz:Nat}
theorem Z5v{xs:List α}{b o len i:Nat}{x:α}{w:World}(h:RowG enc sz xs (some ⟨b,o,none⟩) len w)(hi:xs[i]? =some x):RowAt (enc x) b (o+sz*i) w:=by
 obtain⟨hl,hk⟩:=h;have hne:len≠0:=fun e=>by rw[e]at hl;rw[List.length_eq_zero_iff.1 hl]at hi;simp at hi
 obtain⟨b',o',e,hK⟩:=hk hne;injection e with e
 injection e with e1 e2
 subst e1 e2;exact hK i x hi
theorem Z3W{t:TypeId}{x:Operand}{b o off i len:Nat}{xs:List α}{y:α}{a:Option Addr}{cs:List Value}(hs:szOf P t=some (some cs.length))(hx:H x (.is (.pointer (some ⟨b,off,none⟩))))(hF:RowG enc sz xs a len∈Φ)(ha:a=some ⟨b,o,none⟩)(hi:xs[i]? =some y)(ho:off=o+sz*i)(hc:enc y=cs):
  Ob P L Φ H ⟨dst,.load t x,ty,pos,after,g⟩ (.is (.agg cs.toArray)):=
 Z6b hx fun E w hf=>Z8k (cs:=cs) hs (by rw[ho,<-hc];exact Z5v (by subst ha;exact(hf.2 _ hF).now) hi)
theorem Z82{t:TypeId}{x:Operand}{b o off i j n len:Nat}{xs:List α}{y:α}{a:Option Addr}{cs:List Value}(hs:szOf P t=some (some cs.length))(hx:H x (.is (.pointer (some ⟨b,off,none⟩))))(hF:RowG enc sz xs a len∈Φ)(ha:a=some ⟨b,o,none⟩)(hi:xs[i]? =some y)(ho:off=o+sz*i+j)(hc:((enc y).drop j).take n=cs):
   Ob P L Φ H ⟨dst,.load t x,ty,pos,after,g⟩ (.is (.agg cs.toArray)):=
 Z6b hx fun E w hf=>Z8k (cs:=cs) hs fun k u hk=>by
   have hr:=Z5v (by subst ha;exact(hf.2 _ hF).now) hi;rw[<-hc,List.getElem?_take]at hk
   split at hk
   · rw[List.getElem?_drop]at hk
     have:=hr (j+k) u hk;rw[ho]
     rwa [show o+sz*i+(j+k)=o+sz*i+j+k by omega]at this
   · cases hk
theorem ZK{t:TypeId}{x:Operand}{b o off i j len:Nat}{xs:List α}{y:α}{u:Value}{a:Option Addr}(hs:szOf P t=some none)(hx:H x (.is (.pointer (some ⟨b,off,none⟩))))(hF:RowG enc sz xs a len∈Φ)(ha:a=some ⟨b,o,none⟩)(hi:xs[i]? =some y)(ho:off=o+sz*i+j)(hu:(enc y)[j]? =some u):
  Ob P L Φ H ⟨dst,.load t x,ty,pos,after,g⟩ (.is u):=
 Z6b hx fun E w hf=>Z6y hs (by rw[ho];exact Z5v (by subst ha;exact(hf.2 _ hF).now) hi j u hu)
variable{K:List (Nat×Ty)}
theorem J.openSl{x:Code}{s:Nat}{xs:List α}(h:look K s=some (.rep (SlG enc sz xs)))
   (hj: ∀a len cap b o,xs.length=len->(len≠0->a=some ⟨b,o,none⟩)->J P c ((s,.is (.slice a len cap))::K) L (RowG enc sz xs a len::Φ) x Q):J P c K L Φ x Q:=by
 refine J.open_ h ?_;rintro v ⟨w,a,len,cap,rfl,hl,hk⟩;obtain⟨b,o,hbo⟩: ∃b o,len≠0->a=some ⟨b,o,none⟩:=by
   by_cases hn:len=0
   · exact⟨0,0,fun h=>absurd hn h⟩
   · obtain⟨b,o,e,_⟩:=hk hn;exact⟨b,o,fun _=>e⟩
 refine J.fact (RowG enc sz xs a len) (fun E w hG _=>?_) (J.subΦ (Φ':=RowG enc sz xs a len::Φ) (fun F hF=>?_) (hj a len cap b o hl hbo))
 · intro w' hk'
   obtain⟨a',len',cap',e,hK⟩:=hG _ List.mem_cons_self w' hk';injection e with e1 e2 e3
   subst e1 e2;exact hK
 · rcases List.mem_cons.1 hF with rfl|hF
   · exact List.mem_cons_self
   · exact List.mem_cons_of_mem _ (List.mem_cons_of_mem _ hF)
end
section
variable{α:Type}{enc:α->List Value}{sz:Nat}
theorem Zf8{xs:List α}(hsz: ∀x,(enc x).length=sz): ∀(i:Nat) (x:α),xs[i]? =some x->∀(j:Nat) (u:Value),(enc x)[j]? =some u->(xs.flatMap enc)[sz*i+j]? =some u:=by
 induction xs with
 |nil=>intro i x hx;simp at hx
 |cons y ys ih=>
   intro i x hx j u hj;have hjs:j<sz:=by have:=(List.getElem?_eq_some_iff.1 hj).1;rwa [hsz]at this
   rw[List.flatMap_cons];cases i with
   |zero=>
     simp only[List.getElem?_cons_zero,Option.some.injEq]at hx;subst hx;rw[List.getElem?_append_left (by rw[hsz];omega),show sz*0+j=j by omega];exact hj
   |succ i=>
     have e:sz*(i+1)=sz*i+sz:=by rw[Nat.mul_add,Nat.mul_one]
     rw[List.getElem?_append_right (by rw[hsz];omega),hsz,show sz*(i+1)+j-sz=sz*i+j by omega];exact ih i x (by simpa using hx) j u hj
theorem Z6m{xs:List α}(hsz: ∀x,(enc x).length=sz):(xs.flatMap enc).length=xs.length*sz:=by
 induction xs with
 |nil=>simp
 |cons y ys ih=>rw[List.flatMap_cons,List.length_append,hsz,ih,List.length_cons,Nat.add_mul,Nat.one_mul];omega
theorem Zcq{xs:List α}(hsz: ∀x,(enc x).length=sz)(hp:0<sz){j:Nat}{u:Value}(h:(xs.flatMap enc)[j]? =some u): ∃x,xs[j / sz]? =some x/\(enc x)[j % sz]? =some u:=by
 have hj:j<xs.length*sz:=by have:=(List.getElem?_eq_some_iff.1 h).1;rwa [Z6m hsz]at this
 have hi:j / sz<xs.length:=by rwa [Nat.div_lt_iff_lt_mul hp]
 have hm:j % sz<(enc xs[j / sz]).length:=by rw[hsz];exact Nat.mod_lt _ hp
 refine⟨xs[j / sz],List.getElem?_eq_getElem hi,?_⟩;rw[List.getElem?_eq_getElem hm];have h1:=Zf8 (xs:=xs) hsz (j / sz) _ (List.getElem?_eq_getElem hi) (j % sz) _ (List.getElem?_eq_getElem hm);rw[Nat.div_add_mod,h]at h1;exact h1.symm
theorem Zm7{L:List Own}{Φ:List (World->Prop)}{tx e':TypeId}{xs:List α}(hsz: ∀x,(enc x).length=sz)(hp:0<sz)(h1: ∀x,∀u∈enc x,u.oneCell'=true)(hk:P.underlying tx=some (.slice e')):SrcOf P L Φ sz tx (.rep (SlG enc sz xs)) xs.length (xs.flatMap enc):=fun E w v _ _ h=>by
 obtain⟨a,len,cap,rfl,hl,hr⟩:=Pers.now h;have hlen:=Z6m (xs:=xs) hsz;have hone: ∀u∈xs.flatMap enc,u.oneCell'=true:=fun u hu=>by
   obtain⟨y,_,hy⟩:=List.mem_flatMap.1 hu;exact h1 y u hy
 by_cases h0:len=0
 · have hv:xs=[]:=List.length_eq_zero_iff.1 (by omega)
   subst hv h0;cases a with
   |none=>exact Src.ofNil w hk cap
   |some a=>exact Src.ofSlice w hk a 0 cap [] (by simp) (fun j u hj=>by simp at hj) (fun u hu=>by cases hu)
 · obtain⟨b,o,rfl,hR⟩:=hr h0
   rw[hl]at hlen ⊢;refine Src.ofSlice w hk ⟨b,o,none⟩ len cap _ hlen (fun j u hj=>?_) hone;obtain⟨x,hx,hu⟩:=Zcq hsz hp hj;have:=hR _ x hx _ u hu;rw[Z4t]
   rwa [show o+sz*(j / sz)+j % sz=o+j by rw[Nat.add_assoc,Nat.div_add_mod]]at this
theorem Z52{xs:List α}(hsz: ∀x,(enc x).length=sz){cs:List Value}{b n:Nat}{e:TypeId}{w:World}(hn:xs.length=n)(hc:cs.take (n*sz)=xs.flatMap enc)(h:HeapIs b cs e w)(cap:Nat):SlG enc sz xs (.slice (some ⟨b,0,none⟩) n cap) w:=by
 refine⟨_,_,_,rfl,hn,fun _=>⟨b,0,rfl,fun i x hx j u hj=>?_⟩⟩;have hu:=Zf8 hsz i x hx j u hj;rw[<-hc,List.getElem?_take]at hu
 split at hu
 · rw[Z1I (h:w.heap[b]? =some (.cells cs.toArray e (0,0))),Nat.zero_add]
   simpa using hu
 · cases hu
variable{K:List (Nat×Ty)}
end
section
variable{H:Type}{enc:TypeId×Value->H}{w:World}{base:Nat}{spare:Nat->Bool}{held:Bool}
end
section
variable{K:List (Nat×Ty)}
theorem J.freeze{x:Code}{b:Nat}{e:TypeId}{cs:List Value}(h0: ∀q,¬c.X0 q)(hK:K.all (fun p=>p.2.out)=true)(hL:L.all (fun o=>o.T.out)=true)(h:J P c K L (HeapIs b cs e::Φ) x Q):J P c K (⟨b,e,.is (.agg cs.toArray)⟩::L) Φ x Q:=
 ⟨fun E a w hs=>by
  obtain⟨E',hs'⟩:=hs.freeze h0 (Z9J hK) (fun o ho=>List.all_eq_true.1 hL o ho);exact h.out E' a w hs'⟩
theorem SA.cell{E:Nat->Prop}{a:Act}{w:World}{b:Nat}{e:TypeId}{v:Value}(hv:v.cells= #[v])(hs:SA c K (⟨b,e,.is v⟩::L) Φ E a w):SA c K (⟨b,e,.is (.agg #[v])⟩::L) Φ E a w:=
 ⟨hs.n,hs.d,hs.wf,hs.k,fun o ho=>by
   rcases List.mem_cons.1 ho with rfl|ho
   · obtain⟨h1,u,h2,h3⟩:=hs.l _ List.mem_cons_self
     rw[show u=v from h3]at h2;exact⟨h1,.agg #[v],h2.trans (by show some (Obj.cells v.cells e (0,0))=_;rw[hv];rfl),rfl⟩
   · exact hs.l o (List.mem_cons_of_mem _ ho),hs.ld,hs.f,hs.x,hs.xs,hs.keeps,fun o ho=>by
   rcases List.mem_cons.1 ho with rfl|ho
   · exact hs.may ⟨b,e,.is v⟩ List.mem_cons_self
   · exact hs.may o (List.mem_cons_of_mem _ ho)⟩
theorem J.freeze1{x:Code}{b:Nat}{e:TypeId}{v:Value}(hv:v.cells= #[v])(h0: ∀q,¬c.X0 q)(hK:K.all (fun p=>p.2.out)=true)(hL:L.all (fun o=>o.T.out)=true)(h:J P c K L (HeapIs b [v] e::Φ) x Q):J P c K (⟨b,e,.is v⟩::L) Φ x Q:=
 ⟨fun E a w hs=>by
  obtain⟨E',hs'⟩:=(hs.cell hv).freeze (cs:=[v]) h0 (Z9J hK) (fun o ho=>List.all_eq_true.1 hL o ho);exact h.out E' a w hs'⟩
end
theorem Zcy{t e:TypeId}{x:Operand}{b off:Nat}{cs:List Value}{u:Value}(hs:szOf P t=some none)(hx:H x (.is (.pointer (some ⟨b,off,none⟩))))(hF:HeapIs b cs e∈Φ)(hu:cs[off]? =some u):
  Ob P L Φ H ⟨dst,.load t x,ty,pos,after,g⟩ (.is u):=
 Z6b hx fun E w hf=>Z6y hs (by rw[Z1I (show w.heap[b]? =some (.cells cs.toArray e (0,0))from(hf.2 _ hF).now)];simpa using hu)
section
variable{K:List (Nat×Ty)}
end
def Fn1{α:Type}(P:Program)(fv:Value)(G:World->Prop)(A R:α->Ty):Prop:=
 ∃f fs cs,fv= .func (.func f) fs.toArray cs.toArray/\(∀args w,(callFunc f args).run P w= .ok (.enter f args) w)/\
  ∀(x:α) (E:Nat->Prop) (w:World) (v:Value),(∀b,E b->b<w.heap.size)->Pers E w G->(A x).p E v w->Calls P f (fs++[v]++cs).toArray w fun e w'=>∃r,e= .returned r/\Keeps noX w w'/\(R x).p E r w'
theorem Fn1.of{α:Type}{P:Program}{f:FuncId}{fs cs:List Value}{G:World->Prop}{A R:α->Ty}{TF TC:List Ty}(hc: ∀x,CallTy P f (TF++[A x]++TC) (R x))(hF: ∀E w,Pers E w G->TyAll E w TF fs)(hC: ∀E w,Pers E w G->TyAll E w TC cs)(x0:α):
  Fn1 P (.func (.func f) fs.toArray cs.toArray) G A R:=
 ⟨f,fs,cs,rfl,(hc x0).enter,fun x E w v hw hG hv=>(hc x).calls E w _ hw (((hF E w hG).append (show TyAll E w [A x] [v]from⟨hv,trivial⟩)).append (hC E w hG))⟩
theorem ZiZ{α:Type}{cal x:Operand}{ats:Array TypeId}{fv:Value}{G:World->Prop}{A R:α->Ty}(y:α)(hf:H cal (.is fv))(hc:Fn1 P fv G A R)(hG:G∈Φ)(ha:H x (A y)):
  Ob P L Φ H ⟨dst,.call {callee:=.value cal,args:= #[x],argTypes:=ats},ty,pos,after,g⟩ (R y):=fun E w ρ hp=>by
 obtain⟨f,fs,cs,rfl,he,hk⟩:=hc;have h1:ρ cal= .func (.func f) fs.toArray cs.toArray:=hp.x cal _ (by simp[Op.operands,Call.operands]) hf;have h2:(A y).p E (ρ x) w:=hp.x x _ (by simp[Op.operands,Call.operands]) ha;have h3:=hk y E w (ρ x) hp.wf (hp.f _ hG) h2;simp only[execOp,resolve,h1,Deferred.ofValue,invoke,Sem.run_bind,Sem.run_pure,Result.andThen_ok];rw[show fs.toArray++(#[x].map ρ)++cs.toArray=(fs++[ρ x]++cs).toArray by simp,he];refine Calls.mono h3 ?_;rintro e w' ⟨r,rfl,hk',hR⟩;exact⟨hk',hR⟩
def FunR(fv:Value)(G:World->Prop)(v:Value)(w:World):Prop:=v=fv/\G w
section
variable{K:List (Nat×Ty)}
theorem J.openFun{x:Code}{s:Nat}{fv:Value}{G:World->Prop}(h:look K s=some (.rep (FunR fv G)))(hj:J P c ((s,.is fv)::K) L (G::Φ) x Q):J P c K L Φ x Q:=by
 refine J.open_ h ?_;rintro v ⟨w,rfl,hb⟩;refine J.fact G (fun E w hG _=>?_) (J.subΦ (Φ':=G::Φ) (fun F hF=>?_) hj)
 · exact fun w' hk=>(hG _ List.mem_cons_self w' hk).2
 · rcases List.mem_cons.1 hF with rfl|hF
   · exact List.mem_cons_self
   · exact List.mem_cons_of_mem _ (List.mem_cons_of_mem _ hF)
theorem Sub.funT{fv:Value}{G:World->Prop}(hG: ∀w,G w):Sub L Φ (.is fv) (.rep (FunR fv G)):=fun E v w hf h=>by
 rw[show v=_ from h];exact fun w' _=>⟨rfl,hG w'⟩
end
def ownO(st:Option (Nat×List Value))(e:TypeId)(L:List Own):List Own:=
 match st with
 |none=>L
 |some (b,cs)=>⟨b,e,.is (.agg cs.toArray)⟩::L
def sliceO(st:Option (Nat×List Value))(len cap:Nat):Value:=
 match st with
 |none=>.slice none 0 0
 |some (b,_)=>.slice (some ⟨b,0,none⟩) len cap
def Grows{α:Type}(en:α->List Value)(sz:Nat)(xs:List α)(st:Option (Nat×List Value))(cap:Nat):Prop:=
 match st with
 |none=>xs=[]
 |some (_,cs)=>cs.length=cap*sz/\xs.length<=cap/\cs.take (xs.length*sz)=xs.flatMap en
inductive Tl (e:TypeId):List Own->Option (Nat×List Value)->List Own->Prop
 |here {st:Option (Nat×List Value)} {L:List Own}:Tl e (ownO st e L) st L
 |there {st:Option (Nat×List Value)} {x:Own} {L L':List Own} (h:Tl e L st L'):Tl e (x::L) st (x::L')
 |past {st st':Option (Nat×List Value)} {e':TypeId} {L L':List Own} (h:Tl e L st L'):Tl e (ownO st' e' L) st (ownO st' e' L')
theorem Tl.perm{e:TypeId}{L L':List Own}{st:Option (Nat×List Value)}(h:Tl e L st L'):(ownO st e L').Perm L:=by
 induction h with
 |here=>exact .refl _
 | @there st x L L' _ ih=>
   cases st with
   |none=>exact List.Perm.cons _ ih
   |some p=>exact(List.Perm.swap _ _ _).trans (List.Perm.cons _ ih)
 | @past st st' e' L L' _ ih=>
   cases st' with
   |none=>exact ih
   |some q=>
     cases st with
     |none=>exact List.Perm.cons _ ih
     |some p=>exact(List.Perm.swap _ _ _).trans (List.Perm.cons _ ih)
theorem JO.subL{P:Program}{c:Ctx}{K:List (Nat×Ty)}{L L':List Own}{Φ:List (World->Prop)}{Q:Exit->Act->World->Prop}{ops:Array Oper}{l:List Oper}(hp:L'.Perm L)(h:JO P c K L' Φ ops l Q):JO P c K L Φ ops l Q:=
 ⟨fun E a w hs=>h.out E a w (hs.sub (fun _ _=>id) (fun o ho=>(hp.mem_iff).1 ho) (((hp.map _).nodup_iff).2 hs.ld) (fun _=>id))⟩
section
variable{α:Type}{en:α->List Value}{sz:Nat}{K:List (Nat×Ty)}
theorem JO.apO{ops:Array Oper}{rest:List Oper}{d:Nat}{ty t tx e:TypeId}{pos:String}{after:Array Edge}{s x:Operand}{bytes cap:Nat}{xs ys:List α}{st:Option (Nat×List Value)}{TX:Ty}
   (hT:ApTy P t e sz bytes)(hen: ∀x,(en x).length=sz)(hTl:Tl e L st L')(hG:Grows en sz xs st cap)(h0:opTy K s=some (.is (sliceO st xs.length cap)))(hx:opTy K x=some TX)(hS: ∀L,SrcOf P L Φ sz tx TX ys.length (ys.flatMap en))(hy:ys≠[])(hfit:(xs.length+ys.length)*bytes<=140737488355328)(h63:xs.length+ys.length<=9223372036854775807)(hd:Nat.blt d c.n=true)
   (hn: ∀(st':Option (Nat×List Value)) (cap':Nat),Grows en sz (xs++ys) st' cap'->JO P c ((d,.is (sliceO st' (xs++ys).length cap'))::K) (ownO st' e L') Φ ops rest Q):
   JO P c K L Φ ops (⟨some d,.call {callee:=.builtin .append,args:= #[s,x],argTypes:= #[t,tx]},ty,pos,after,none⟩::rest) Q:=by
 refine JO.subL hTl.perm ?_;have hyl:ys.length≠0:=fun h=>hy (List.length_eq_zero_iff.1 h);cases st with
 |none=>
   have hxs:xs=[]:=hG;subst hxs;simp only[List.length_nil,Nat.zero_add,List.nil_append]at hfit h63 hn;refine JO.ap0 hT h0 (fun E v w h=>⟨none,h⟩) hx (hS _) hfit h63 hd (fun h=>absurd h hyl) fun _ b' cap' cs' h1 h2 h3=>?_;exact hn (some (b',cs')) cap' ⟨h1,h2,h3⟩
 |some p=>
   obtain⟨b,cs⟩:=p;obtain⟨h1,h2,h3⟩:=hG;refine JO.ap hT h0 hx (hS _) h1 h2 hfit h63 hd fun b' cap' cs' k1 k2 k3=>?_;have:=hn (some (b',cs')) cap' ⟨k1,by rw[List.length_append];exact k2,by rw[List.length_append,k3,h3,List.flatMap_append]⟩
   simpa [sliceO,ownO] using this
end
section
variable{K:List (Nat×Ty)}{Φ':List (World->Prop)}
end
theorem Z1M{P:Program}{L:List Own}{Φ:List (World->Prop)}{tx e' e:TypeId}{sz n cap:Nat}{cs:List Value}(hk:P.underlying tx=some (.slice e'))(hl:cs.length=n*sz)(h1:cs.all (·.oneCell')=true):SrcOf P L Φ sz tx (.newSl (.cells cs.toArray e (0,0)) n cap) n cs:=fun E w v _ _ h=>by
 obtain⟨b,rfl,_,hb⟩:=h;refine Src.ofSlice w hk ⟨b,0,none⟩ n cap cs hl (fun j u hj=>?_) (List.all_eq_true.1 h1);rw[Z4t,Z1I hb,Nat.zero_add]
 simpa using hj
def syncOK(ops:Array Oper)(m:Nat):Bool:=
 let B:=Region.before ops
 decide (m<=ops.size)&&((List.range ops.size).all fun j=>decide (j<m)||(List.range j).all fun i=>befHas B j i)&&
 ((ops.toList.take m).all fun o=>match o.guard with|some (g,_)=>decide (g<m)|none=>true)
theorem Oper.wp_exit{o:Oper}{a:Act}{w:World}{K:Act->World->Prop}{N:Act->World->Prop}(hh:o.wp P a w K (Exit.then N Q)):o.wp P a w K Q:=by
 unfold Oper.wp at*
 generalize (execOp a.eval o).run P w=r at*
 cases r with
 |ok n w'=>
   cases n<;>simp only[Oper.upon]at hh ⊢ <;>
     first
       |exact hh
       |exact Calls.mono hh (fun e w'' he=>by cases e<;>first|exact he)
 |halt x w'=>cases x<;>simp only[Oper.upon]at hh ⊢ <;>exact hh
theorem Zfn{m g:Nat}(h:g<m)(tmps:Array Value):yielded (ops.toList.take m).toArray tmps g=yielded ops tmps g:=by
 unfold yielded
 congr 2
 simp[h]
theorem ZfI{m:Nat}{o:Oper}(h:(match o.guard with|some (g,_)=>decide (g<m)|none=>true)=true)(tmps:Array Value):
   Region.wanted o (yielded (ops.toList.take m).toArray tmps)=Region.wanted o (yielded ops tmps):=by
 unfold Region.wanted
 split at h
 · rename_i g b hg
   rw[hg];show(_==some b)=(_==some b);rw[Zfn (of_decide_eq_true h)]
 · rename_i hg
   rw[hg]
theorem Ziy{m i:Nat}{a:Act}{w:World}{K N:Act->World->Prop}{o:Oper}(hi:i<m)(ho:ops[i]? =some o)(hg:(match o.guard with|some (g,_)=>decide (g<m)|none=>true)=true)
   (h:wpOp P (ops.toList.take m).toArray (Exit.then N Q) i K a w):wpOp P ops Q i K a w:=by
 unfold wpOp at*;have ho':(ops.toList.take m).toArray[i]? =some o:=by simp[hi,ho]
 rw[ho']at h;rw[ho];simp only[ZfI hg]at h;simp only
 split
 · rename_i hw
   rw[if_pos hw]at h;exact h.imp Oper.wp_exit fun hl=>⟨hl.1,hl.2⟩
 · rename_i hw
   rw[if_neg hw]at h;exact h
def RegInv(P:Program)(ops:Array Oper)(Q:Exit->Act->World->Prop)(a:Act)(w:World):Prop:=
 ∃I:Array Bool->Act->World->Prop,(∀w',(w'=w\/w'=w.drew)->I (Array.replicate ops.size false) a w')/\
  (∀D a w i o,D.size=ops.size->I D a w->ops[i]? =some o->D.getD i true=false->readyAt ops D i->wpOp P ops Q i (I (D.setIfInBounds i true)) a w)/\
  (∀D a w,D.size=ops.size->(∀i,i<ops.size->D.getD i false=true)->I D a w->Q .normal a w)
theorem Zjn{a:Act}{w:World}(m:Nat)(hb:backOK ops=true)(hs:syncOK ops m=true)(I:Array Bool->Act->World->Prop)
   (h0: ∀w',(w'=w\/w'=w.drew)->I (Array.replicate (ops.toList.take m).toArray.size false) a w')
   (hstep: ∀D a w i o,D.size=(ops.toList.take m).toArray.size->I D a w->(ops.toList.take m).toArray[i]? =some o->D.getD i true=false->readyAt (ops.toList.take m).toArray D i->
     wpOp P (ops.toList.take m).toArray (Exit.then (wpList P ops Q (ops.toList.drop m)) Q) i (I (D.setIfInBounds i true)) a w)
   (hend: ∀D a w,D.size=(ops.toList.take m).toArray.size->(∀i,i<(ops.toList.take m).toArray.size->D.getD i false=true)->I D a w->wpList P ops Q (ops.toList.drop m) a w):
   RegInv P ops Q a w:=by
 unfold syncOK at hs;simp only[Bool.and_eq_true,decide_eq_true_eq]at hs;obtain⟨⟨hms,hso⟩,hgs⟩:=hs;have hsz:(ops.toList.take m).toArray.size=m:=by simp;omega
 rw[hsz]at h0 hstep hend;have hord: ∀j,m<=j->j<ops.size->∀i,i<j->befHas (Region.before ops) j i=true:=by
   intro j hmj hj i hij;have h1:=List.all_eq_true.1 hso j (List.mem_range.2 hj);rw[Bool.or_eq_true]at h1;rcases h1 with h1|h1
   · exact absurd (of_decide_eq_true h1) (by omega)
   · exact List.all_eq_true.1 h1 i (List.mem_range.2 hij)
 have hgd: ∀(D:Array Bool) (i:Nat),i<D.size->D.getD i true=false->D.getD i false=false:=by
   intro D i hi h;simp only[Array.getD_eq_getD_getElem?,Array.getElem?_eq_getElem hi,Option.getD_some]at h ⊢;exact h
 have hgd': ∀(D:Array Bool) (i:Nat),i<D.size->D.getD i false=false->D.getD i true=false:=by
   intro D i hi h;simp only[Array.getD_eq_getD_getElem?,Array.getElem?_eq_getElem hi,Option.getD_some]at h ⊢;exact h
 have hedge: ∀i o,ops[i]? =some o->∀e∈o.after,Region.binds .any e=true->e.on<i:=by
   intro i o ho e he hbe;have hi:i<ops.size:=(Array.getElem?_eq_some_iff.1 ho).1;have hk:=List.all_eq_true.1 hb i (List.mem_range.2 hi);rw[ho]at hk;have hlt:=(Array.all_eq_true_iff_forall_mem.1 hk) e he;rw[hbe]at hlt
   simpa using hlt
 refine⟨(fun D a w=>Closed ops D/\((∃D':Array Bool,D'.size=m/\(∀i,i<m->D'.getD i false=D.getD i false)/\(∀j,m<=j->D.getD j false=false)/\I D' a w)\/
     (∃n,m<=n/\n<=ops.size/\(∀i,i<ops.size->(D.getD i false=true↔i<n))/\wpList P ops Q (ops.toList.drop n) a w))),?_,?_,?_⟩
 · intro w' hw'
   have hno: ∀(n j:Nat),(Array.replicate n false).getD j false=false:=by
     intro n j;rw[Array.getD_eq_getD_getElem?,Array.getElem?_replicate]
     split<;>simp
   exact⟨fun j hj=>absurd hj (by rw[hno];simp),.inl ⟨_,by simp,fun i _=>by rw[hno,hno],fun j _=>hno _ _,h0 w' hw'⟩⟩
 · rintro D a w i o hD ⟨hc,hI⟩ ho hd hr
   have hi:i<ops.size:=(Array.getElem?_eq_some_iff.1 ho).1;have hdf:=hgd D i (by omega) hd;have hgset: ∀j,(D.setIfInBounds i true).getD j false=true↔j=i\/D.getD j false=true:=fun j=>Z2L (by omega);have hc':Closed ops (D.setIfInBounds i true):=by
     intro j hj;rcases(hgset j).1 hj with rfl|hj
     · exact fun o' ho' e he hbe=>(hgset e.on).2 (.inr (hr o' ho' e he hbe))
     · exact fun o' ho' e he hbe=>(hgset e.on).2 (.inr (hc j hj o' ho' e he hbe))
   have row: ∀n,n=i->m<=n->(∀j,j<i->D.getD j false=true)->(∀j,i<=j->j<ops.size->D.getD j false=false)->wpList P ops Q (ops.toList.drop n) a w->
       wpOp P ops Q i (fun a w=>Closed ops (D.setIfInBounds i true)/\((∃D':Array Bool,D'.size=m/\(∀k,k<m->D'.getD k false=(D.setIfInBounds i true).getD k false)/\(∀j,m<=j->(D.setIfInBounds i true).getD j false=false)/\I D' a w)\/
         (∃n,m<=n/\n<=ops.size/\(∀k,k<ops.size->((D.setIfInBounds i true).getD k false=true↔k<n))/\wpList P ops Q (ops.toList.drop n) a w))) a w:=by
     rintro n rfl hmn hlt hge h;refine wpOp_mono (K:=wpList P ops Q (ops.toList.drop (n+1))) (fun a' w' h'=>⟨hc',.inr ⟨n+1,by omega,by omega,fun k hk=>?_,h'⟩⟩) ?_
     · rw[hgset]
       constructor
       · rintro(rfl|h)
         · omega
         · rcases Nat.lt_or_ge k n with hk'|hk'
           · omega
           · rw[hge k hk' hk]at h;cases h
       · intro hkn
         rcases Nat.lt_or_ge k n with hk'|hk'
         · exact .inr (hlt k hk')
         · exact .inl (by omega)
     · have hdrop:ops.toList.drop n=o::ops.toList.drop (n+1):=by
         have hoe:o=ops.toList[n]'(by simpa using hi):=by
           rw[Array.getElem?_eq_getElem hi]at ho;injection ho with ho
           rw[<-ho];simp
         rw[hoe];exact List.drop_eq_getElem_cons (by simpa using hi)
       rw[hdrop]at h;unfold wpOp;rw[ho];exact h
   rcases hI with⟨D',hD',hDD,hDm,hI⟩|⟨n,hmn,hns,hDn,hI⟩
   · rcases Nat.lt_or_ge i m with him|him
     · have hgo:(match o.guard with|some (g,_)=>decide (g<m)|none=>true)=true:=by
         refine List.all_eq_true.1 hgs o ?_;rw[List.mem_take_iff_getElem];refine⟨i,by simp;omega,?_⟩;rw[Array.getElem?_eq_getElem hi]at ho;injection ho with ho
       refine Ziy (N:=wpList P ops Q (ops.toList.drop m)) him ho hgo ?_;refine wpOp_mono (fun a' w' h'=>?_) (hstep D' a w i o hD' hI (by simp[him,ho]) (hgd' D' i (by omega) (by rw[hDD i him];exact hdf)) fun o' ho' e he hbe=>?_)
       · refine⟨hc',.inl ⟨D'.setIfInBounds i true,by simpa using hD',fun k hk=>?_,fun j hj=>?_,h'⟩⟩
         · by_cases e:k=i
           · subst e
             rw[(Z2L (D:=D') (by omega)).2 (.inl rfl),(hgset k).2 (.inl rfl)]
           · have e':i≠k:=fun h=>e h.symm
             simp only[Array.getD_eq_getD_getElem?,Array.getElem?_setIfInBounds_ne e'];have:=hDD k hk
             simpa only[Array.getD_eq_getD_getElem?] using this
         · cases hq:(D.setIfInBounds i true).getD j false with
           |false=>rfl
           |true=>
             rcases(hgset j).1 hq with rfl|hq
             · omega
             · rw[hDm j hj]at hq;cases hq
       · have hoo:ops[i]? =some o':=by simpa [him] using ho'
         have hlt:=hedge i o' hoo e he hbe;rw[hDD e.on (by omega)];exact hr o' hoo e he hbe
     · have hall: ∀j,j<i->D.getD j false=true:=fun j hj=>Z2j hb hc i j hr (hord i him hi j hj)
       have hie:i=m:=by
         rcases Nat.lt_or_ge m i with h|h
         · have:=hall m h
           rw[hDm m (Nat.le_refl _)]at this;cases this
         · omega
       refine row m hie.symm (Nat.le_refl _) hall (fun j hj hjs=>hDm j (by omega)) (hend D' a w hD' (fun k hk=>?_) hI);rw[hDD k hk];exact hall k (by omega)
   · have hin:n<=i:=by
       rcases Nat.lt_or_ge i n with h|h
       · rw[(hDn i hi).2 h]at hdf;cases hdf
       · exact h
     have hall: ∀j,j<i->D.getD j false=true:=fun j hj=>Z2j hb hc i j hr (hord i (by omega) hi j hj);have hie:i=n:=by
       rcases Nat.lt_or_ge n i with h|h
       · have:=(hDn n (by omega)).1 (hall n h)
         omega
       · omega
     refine row n hie.symm hmn hall (fun j hj hjs=>?_) hI;cases hq:D.getD j false with
     |false=>rfl
     |true=>have:=(hDn j hjs).1 hq;omega
 · rintro D a w hD hall ⟨_,hI⟩
   rcases hI with⟨D',hD',hDD,hDm,hI⟩|⟨n,hmn,hns,hDn,hI⟩
   · have hme:m=ops.size:=by
       rcases Nat.lt_or_ge m ops.size with h|h
       · have:=hall m h
         rw[hDm m (Nat.le_refl _)]at this;cases this
       · omega
     have:=hend D' a w hD' (fun k hk=>by rw[hDD k hk];exact hall k (by omega)) hI;rw[List.drop_of_length_le (by simp;omega)]at this;exact this
   · have hne:n=ops.size:=by
       rcases Nat.lt_or_ge n ops.size with h|h
       · have:=(hDn n h).1 (hall n h)
         omega
       · omega
     rw[List.drop_of_length_le (by simp;omega)]at hI;exact hI
theorem Z48{id:Nat}{dr:Bool}{a:Act}{w:World}(m:Nat)(hm:P.follows .mixedOrders=true)(hb:backOK ops=true)(hs:syncOK ops m=true)(I:Array Bool->Act->World->Prop)
   (h0: ∀w',(w'=w\/w'=w.drew)->I (Array.replicate (ops.toList.take m).toArray.size false) a w')
   (hstep: ∀D a w i o,D.size=(ops.toList.take m).toArray.size->I D a w->(ops.toList.take m).toArray[i]? =some o->D.getD i true=false->readyAt (ops.toList.take m).toArray D i->
     wpOp P (ops.toList.take m).toArray (Exit.then (wpList P ops Q (ops.toList.drop m)) Q) i (I (D.setIfInBounds i true)) a w)
   (hend: ∀D a w,D.size=(ops.toList.take m).toArray.size->(∀i,i<(ops.toList.take m).toArray.size->D.getD i false=true)->I D a w->wpList P ops Q (ops.toList.drop m) a w):
   (Code.region id ops dr).wp P Q a w:=by
 obtain⟨I,h1,h2,h3⟩:=Zjn (P:=P) (Q:=Q) m hb hs I h0 hstep hend;exact Z9P hm hb I h1 h2 h3
section
variable{K:List (Nat×Ty)}
theorem J.regionS{id:Nat}{dr:Bool}{ops:Array Oper}(m:Nat)(hmx:P.follows .mixedOrders=true)(hok:(backOK ops&&syncOK ops m&&regOK (ops.toList.take m).toArray)=true)
   (hdn:((ops.toList.take m).toArray.all fun o=>match o.dst with|some d=>decide (d<c.n)|none=>true)=true)
   (h:RT P (ops.toList.take m).toArray Lk Φ 0 (ops.toList.take m) K Lm [] (FinS P c Lk Φ (Exit.then (wpList P ops Q (ops.toList.drop m)) Q))):J P c K (Lm++Lk) Φ (.region id ops dr) Q:=by
 refine⟨?_⟩;intro E a w hsa;simp only[Bool.and_eq_true]at hok;obtain⟨⟨hb,hs⟩,hr⟩:=hok;obtain⟨I,h0,h1,h2⟩:=ZbQ (ops:=(ops.toList.take m).toArray) hr hdn h hsa;exact Z48 m hmx hb hs I h0 h1 h2
end
section
variable{K:List (Nat×Ty)}
theorem J.regS{id:Nat}{dr:Bool}{l:List Oper}(m:Nat)(hmx:P.follows .mixedOrders=true)(hok:(backOK l.toArray&&syncOK l.toArray m&&regOK (l.take m).toArray)=true)
   (hdn:((l.take m).toArray.all fun o=>match o.dst with|some d=>decide (d<c.n)|none=>true)=true)
   (h:RT P (l.take m).toArray L Φ 0 (l.take m) K [] [] (FinS P c L Φ (Exit.then (wpList P l.toArray Q (l.drop m)) Q))):J P c K L Φ (.region id l.toArray dr) Q:=
 J.regionS (Lm:=[]) (Lk:=L) m hmx hok hdn h
theorem FinS.tail0{ops:Array Oper}{l:List Oper}(h:JO P c K L Φ ops l Q):FinS P c L Φ (Exit.then (wpList P ops Q l) Q) K [] []:=h.out
theorem JO.open_{ops:Array Oper}{l:List Oper}{s:Nat}{R:Value->World->Prop}(h:look K s=some (.rep R))(hj: ∀v,(∃w,R v w)->JO P c ((s,.is v)::K) L (R v::Φ) ops l Q):JO P c K L Φ ops l Q:=by
 refine⟨?_⟩;intro E a w hs;have hR:Pers E w (R (slotOf a s)):=hs.k s _ h;refine(hj (slotOf a s) ⟨w,hR.now⟩).out E a w ⟨hs.n,hs.d,hs.wf,fun s' T' hl=>?_,hs.l,hs.ld,fun F hF=>?_,hs.x,hs.xs,hs.keeps,hs.may⟩
 · simp only[look]at hl
   cases hq:Nat.beq s s' with
   |true=>
     rw[hq,cond_true]at hl;injection hl with hl
     subst hl;rw[<-Nat.eq_of_beq_eq_true hq]
     rfl
   |false=>rw[hq,cond_false]at hl;exact hs.k s' T' hl
 · rcases List.mem_cons.1 hF with rfl|hF
   · exact hR
   · exact hs.f F hF
theorem JO.fact{ops:Array Oper}{l:List Oper}(F:World->Prop)(hF: ∀E w,(∀G∈Φ,Pers E w G)->(∀o∈L,o.at E w)->Pers E w F)(hj:JO P c K L (F::Φ) ops l Q):JO P c K L Φ ops l Q:=
 ⟨fun E a w hs=>hj.out E a w ⟨hs.n,hs.d,hs.wf,hs.k,hs.l,hs.ld,fun G hG=>by
  rcases List.mem_cons.1 hG with rfl|hG
  · exact hF E w hs.f hs.l
  · exact hs.f G hG,hs.x,hs.xs,hs.keeps,hs.may⟩⟩
inductive Pk:List Own->Own->List Own->Prop
 |here {o:Own} {L:List Own}:Pk (o::L) o L
 |there {x o:Own} {L L':List Own} (h:Pk L o L'):Pk (x::L) o (x::L')
 |past {st:Option (Nat×List Value)} {e:TypeId} {o:Own} {L L':List Own} (h:Pk L o L'):Pk (ownO st e L) o (ownO st e L')
theorem Pk.perm{o:Own}{L L':List Own}(h:Pk L o L'):(o::L').Perm L:=by
 induction h with
 |here=>exact .refl _
 |there _ ih=>exact(List.Perm.swap _ _ _).trans (List.Perm.cons _ ih)
 | @past st e o L L' _ ih=>
   cases st with
   |none=>exact ih
   |some q=>exact(List.Perm.swap _ _ _).trans (List.Perm.cons _ ih)
inductive Has:List Own->List Own->Prop
 |nil {L:List Own}:Has L []
 |own {L L1 R:List Own} {st:Option (Nat×List Value)} {e:TypeId} (h:Tl e L st L1) (r:Has L1 R):Has L (ownO st e R)
 |cons {L L1 R:List Own} {o:Own} (h:Pk L o L1) (r:Has L1 R):Has L (o::R)
 |all {L:List Own}:Has L L
theorem Zj8(st:Option (Nat×List Value))(e:TypeId)(L M:List Own):ownO st e L++M=ownO st e (L++M):=by cases st<;>rfl
theorem Zis(st:Option (Nat×List Value))(e:TypeId){L M:List Own}(h:L.Perm M):(ownO st e L).Perm (ownO st e M):=by
 cases st with
 |none=>exact h
 |some p=>exact h.cons _
theorem Has.perm{L R:List Own}(h:Has L R): ∃M,L.Perm (R++M):=by
 induction h with
 |nil=>exact⟨_,.refl _⟩
 |all=>exact⟨[],by rw[List.append_nil]⟩
 |own h _ ih=>
   obtain⟨M,hM⟩:=ih;exact⟨M,by rw[Zj8];exact h.perm.symm.trans (Zis _ _ hM)⟩
 |cons h _ ih=>
   obtain⟨M,hM⟩:=ih;exact⟨M,h.perm.symm.trans (List.Perm.cons _ hM)⟩
theorem Has.mem{L R:List Own}(h:Has L R): ∀o∈R,o∈L:=fun o ho=>by
 obtain⟨M,hM⟩:=h.perm;exact(hM.mem_iff).2 (List.mem_append_left _ ho)
theorem Has.nodup{L R:List Own}(h:Has L R)(hn:(L.map (·.b)).Nodup):(R.map (·.b)).Nodup:=by
 obtain⟨M,hM⟩:=h.perm;have h1:=((hM.map (·.b)).nodup_iff).1 hn;rw[List.map_append]at h1;exact(List.nodup_append.1 h1).1
theorem J.has{x:Code}{L':List Own}(h:Has L L')(hj:J P c K L' Φ x Q):J P c K L Φ x Q:=J.subL h.mem h.nodup hj
theorem J.loopG{α:Type}{body:Code}(Kf:α->List (Nat×Ty))(Lf:α->List Own)(Ff:α->World->Prop)(inv:α->Prop)(μ:α->Nat)(x0:α)(ss:List Nat)(h0:Sel K ss (Kf x0))(hL:Lf x0=L)(hF: ∀w,Ff x0 w)(hi:inv x0)
  (h: ∀x,inv x->J P c (Kf x) (Lf x) (Ff x::Φ) body (Exit.then (fun a w=>∃x',inv x'/\μ x'<μ x/\ ∃E,SA c (Kf x') (Lf x') (Ff x'::Φ) E a w) Q)):J P c K L Φ (.loop body) Q:=
 J.sel ss h0 (J.fact (Ff x0) (fun _ _ _ _=>fun w _=>hF w) (J.loop Kf Lf (fun x=>Ff x::Φ) inv μ x0 ⟨rfl,hL,rfl⟩ hi h))
theorem JX.roundG{Φ':List (World->Prop)}{α:Type}{Kf:α->List (Nat×Ty)}{Lf:α->List Own}{Ff:α->World->Prop}{inv:α->Prop}{μ:α->Nat}{x:α}(x':α)(hi:inv x')(hμ:μ x'<μ x)(ss:List Nat)(hK:Sel K ss (Kf x'))(hL:Has L (Lf x'))(hΦ: ∀G∈Φ',G∈Φ)
   (hF: ∀E w,(∀G∈Φ,Pers E w G)->Pers E w (Ff x')):JX c K L Φ .normal (Exit.then (fun a w=>∃x',inv x'/\μ x'<μ x/\ ∃E,SA c (Kf x') (Lf x') (Ff x'::Φ') E a w) Q):=
 ⟨fun E a w hs=>⟨x',hi,hμ,E,by
   have h1:=hs.sub hK.look hL.mem (hL.nodup hs.ld) hΦ;exact⟨h1.n,h1.d,h1.wf,h1.k,h1.l,h1.ld,fun G hG=>by
     rcases List.mem_cons.1 hG with rfl|hG
     · exact hF E w hs.f
     · exact h1.f G hG,h1.x,h1.xs,h1.keeps,h1.may⟩⟩⟩
end
def adO(st:Option (Nat×List Value)):Option Addr:=match st with|none=>none|some (b,_)=>some ⟨b,0,none⟩
theorem Z88{α:Type}{en:α->List Value}{sz:Nat}{xs:List α}{st:Option (Nat×List Value)}{cap:Nat}(h:Grows en sz xs st cap): ∃cap',sliceO st xs.length cap= .slice (adO st) xs.length cap':=by
 cases st with
 |none=>have h:xs=[]:=h;subst h;exact⟨0,rfl⟩
 |some p=>exact⟨cap,rfl⟩
section
variable{K:List (Nat×Ty)}
theorem J.freezeO{α:Type}{en:α->List Value}{sz:Nat}{xs:List α}{cap:Nat}{x:Code}{st:Option (Nat×List Value)}{e:TypeId}(hen: ∀x,(en x).length=sz)(hG:Grows en sz xs st cap)(hTl:Tl e L st L')(h0: ∀q,¬c.X0 q)(hK:K.all (fun p=>p.2.out)=true)(hL:L'.all (fun o=>o.T.out)=true)
   (h:J P c K L' (RowG en sz xs (adO st) xs.length::Φ) x Q):J P c K L Φ x Q:=by
 refine J.subL (L':=ownO st e L') (fun o ho=>(hTl.perm.mem_iff).1 ho) (fun hn=>((hTl.perm.map _).nodup_iff).2 hn) ?_;cases st with
 |none=>
   have hG:xs=[]:=hG;subst hG;exact J.fact _ (fun E w _ _=>fun w' _=>⟨rfl,fun h=>absurd rfl h⟩) h
 |some p=>
   obtain⟨b,cs⟩:=p;obtain⟨h1,h2,h3⟩:=hG;refine J.freeze (b:=b) (e:=e) (cs:=cs) h0 hK hL ?_;refine J.fact (RowG en sz xs (adO (some (b,cs))) xs.length) (fun E w hF _=>fun w' hk=>?_) (J.subΦ (fun F hF=>?_) h)
   · have hh:=hF _ List.mem_cons_self w' hk
     obtain⟨a,len,cap',e1,hr⟩:=Z52 hen rfl h3 hh cap;injection e1 with e1 e2 e3
     subst e1 e2;exact hr
   · rcases List.mem_cons.1 hF with rfl|hF
     · exact List.mem_cons_self
     · exact List.mem_cons_of_mem _ (List.mem_cons_of_mem _ hF)
end
structure XC where
 e:Ex
 cs:List Value
 h:cs.length=8
abbrev XC.mk'(e:Ex)(k vk vn:Int)(vs tb nm:ByteArray)(sl:Int)(a:Option Addr)(len cap:Nat):XC:=⟨e,exCells k vk vn vs tb nm sl a len cap,rfl⟩
def XCF(xs:List XC)(w:World):Prop:=∀p∈xs,ExR p.e (.agg p.cs.toArray) w
theorem ZfA{xs:List XC}{a:Option Addr}{w:World}(h:RowG XC.cs 8 xs a xs.length w)(hF:XCF xs w):KidsR (xs.map (·.e)) a xs.length w:=by
 obtain⟨hl,hk⟩:=h;refine⟨by simp,fun hn=>?_⟩;obtain⟨b,o,ha,hr⟩:=hk hn;refine⟨b,o,ha,Z7Y (xs.map (·.e)) (xs.map (·.cs)) b o w (by simp) (fun i x cs hx hc=>?_) fun j v hj=>?_⟩
 · rw[List.getElem?_map]at hx hc
   cases hp:xs[i]? with
   |none=>rw[hp]at hx;cases hx
   |some p=>
     rw[hp]at hx hc;injection hx with hx
     injection hc with hc
     subst hx hc;exact⟨p.h,hF p (List.mem_of_getElem? hp)⟩
 · rw[<-List.flatMap_def]at hj
   obtain⟨x,hx,hu⟩:=Zcq (enc:=XC.cs) (sz:=8) (fun x=>x.h) (by omega) hj;have:=hr _ x hx _ v hu
   rwa [show o+8*(j / 8)+j % 8=o+j by rw[Nat.add_assoc,Nat.div_add_mod]]at this
theorem Z2H(st:Option (Nat×List Value))(len cap:Nat):(sliceO st len cap).cells= #[sliceO st len cap]:=by cases st<;>rfl
theorem Z2T(st:Option (Nat×List Value))(len cap:Nat):(sliceO st len cap).oneCell'=true:=by cases st<;>rfl
instance (priority:=low) HasOwn.past {st:Option (Nat×List Value)} {e:TypeId} {L:List Own} {b:Nat} {ety:TypeId} {T:Ty} [h:HasOwn L b ety T]:HasOwn (ownO st e L) b ety T:=⟨by
 cases st with
 |none=>exact h.mem
 |some p=>exact List.mem_cons_of_mem _ h.mem⟩
inductive Cx (e:TypeId):List Own->Option (Nat×List Value)->(Option (Nat×List Value)->List Own)->List Own->Prop
 |here {st:Option (Nat×List Value)} {L:List Own}:Cx e (ownO st e L) st (fun s=>ownO s e L) L
 |there {st:Option (Nat×List Value)} {x:Own} {L L':List Own} {C:Option (Nat×List Value)->List Own} (h:Cx e L st C L'):Cx e (x::L) st (fun s=>x::C s) (x::L')
 |past {st st':Option (Nat×List Value)} {e':TypeId} {L L':List Own} {C:Option (Nat×List Value)->List Own} (h:Cx e L st C L'):Cx e (ownO st' e' L) st (fun s=>ownO st' e' (C s)) (ownO st' e' L')
theorem Cx.tl{e:TypeId}{L L':List Own}{st:Option (Nat×List Value)}{C:Option (Nat×List Value)->List Own}(h:Cx e L st C L'):Tl e L st L':=by
 induction h with
 |here=>exact .here
 |there _ ih=>exact .there ih
 |past _ ih=>exact .past ih
theorem Cx.back{e:TypeId}{L L':List Own}{st:Option (Nat×List Value)}{C:Option (Nat×List Value)->List Own}(h:Cx e L st C L')(s:Option (Nat×List Value)):(C s).Perm (ownO s e L'):=by
 have key:Tl e (C s) s L':=by
  induction h with
  |here=>exact .here
  |there _ ih=>exact .there ih
  |past _ ih=>exact .past ih
 exact key.perm.symm
section
variable{α:Type}{en:α->List Value}{sz:Nat}{K:List (Nat×Ty)}
theorem JO.apP{ops:Array Oper}{rest:List Oper}{d:Nat}{ty t tx e:TypeId}{pos:String}{after:Array Edge}{s x:Operand}{bytes cap:Nat}{xs:List α}(ys:List α){st:Option (Nat×List Value)}{TX:Ty}{C:Option (Nat×List Value)->List Own}
  (hT:ApTy P t e sz bytes)(hen: ∀x,(en x).length=sz)(hC:Cx e L st C L')(hG:Grows en sz xs st cap)(h0:opTy K s=some (.is (sliceO st xs.length cap)))(hx:opTy K x=some TX)(hS: ∀L,SrcOf P L Φ sz tx TX ys.length (ys.flatMap en))(hy:ys≠[])(hfit:(xs.length+ys.length)*bytes<=140737488355328)(h63:xs.length+ys.length<=9223372036854775807)(hd:Nat.blt d c.n=true)
  (hn: ∀(st':Option (Nat×List Value)) (cap':Nat),Grows en sz (xs++ys) st' cap'->JO P c ((d,.is (sliceO st' (xs++ys).length cap'))::K) (C st') Φ ops rest Q):
  JO P c K L Φ ops (⟨some d,.call {callee:=.builtin .append,args:= #[s,x],argTypes:= #[t,tx]},ty,pos,after,none⟩::rest) Q:=
 JO.apO hT hen hC.tl hG h0 hx hS hy hfit h63 hd fun st' cap' h=>JO.subL (hC.back st') (hn st' cap' h)
end
theorem Z2Q{M M':List Own}{t:TypeId}{p x:Operand}{b off:Nat}{ety:TypeId}{cs cs':List Value}{V:Value}(hV:V.cells= #[V])(hV1:V.oneCell'=true)(hp':H p (.is (.pointer (some ⟨b,off,none⟩))))(hx:H x (.is V))
  (hu:Upd M ⟨b,ety,.is (.agg cs.toArray)⟩ ⟨b,ety,.is (.agg cs'.toArray)⟩ M')(hc:splice cs off [V]=cs')(hl:Nat.ble (off+1) cs.length=true)(hs:(P.info? t).map (·.size)=some 1):
  ObM P L Φ H M ⟨none,.store t p x,ty,pos,after,g⟩ .any M':=
 Zj hp' hx hu (by rw[hV];exact hc) (by rw[hV];rfl) (by rw[hV];simp[hV1]) hl hs
theorem Sub.ex_eq{T:Ty}{x y:Ex}(h:Sub L Φ T (.rep (ExR x)))(e:x=y):Sub L Φ T (.rep (ExR y)):=e ▸ h
theorem Sub.refl(T:Ty):Sub L Φ T T:=fun _ _ _ _ h=>h
section
variable{K:List (Nat×Ty)}
end
theorem Zjm{k vk vn:Int}{vs tb nm:ByteArray}{sl:Int}{st:Option (Nat×List Value)}{n cap:Nat}:Cnt (.is (.agg [.int .i64 k,.int .i64 vk,.int .i64 vn,.string vs,.string tb,.string nm,.int .i64 sl,sliceO st n cap].toArray)) 8:=
 Zh rfl (by simp[Value.cells,Z2T];exact⟨rfl,rfl,rfl,rfl,rfl,rfl,rfl⟩)
def BigOb(P:Program)(L:List Own)(Φ:List (World->Prop))(H:Know)(o:Oper){G:Type}(Tg:G->Ty)(Lg:G->List Own):Prop:=
 ∀E w ρ,Pre L Φ H o E w ρ->(L.map (·.b)).Nodup->Runs P ((execOp ρ o).run P w) fun v w'=>∃(g:G) (E':Nat->Prop),Keeps (fun b=>b∈L.map (·.b)) w w'/\Ev E w E' w'/\(∀b,E' b->b<w'.heap.size)/\(Tg g).p E' v w'/\
  (∀m∈Lg g,m.at E' w')/\((Lg g).map (·.b)).Nodup/\ ∀m∈Lg g,m.b∈L.map (·.b)\/w.heap.size<=m.b
theorem Ob.more{P:Program}{L L':List Own}{Φ:List (World->Prop)}{H H':Know}{o:Oper}{T:Ty}(hL: ∀m∈L,m∈L')(hH: ∀x U,H x U->U= .any\/H' x U)(h:Ob P L Φ H o T):Ob P L' Φ H' o T:=fun E w ρ hp=>
 h E w ρ ⟨hp.wf,fun m hm=>hp.l m (hL m hm),hp.f,fun x U hx hU=>by
  rcases hH x U hU with rfl|h'
  · trivial
  · exact hp.x x U hx h'⟩
def KLe(K1 K2:List (Nat×Ty)):Prop:=∀s T,look K1 s=some T->T= .any\/look K2 s=some T
theorem KLe.op{K1 K2:List (Nat×Ty)}(h:KLe K1 K2): ∀x U,Kn K1 x U->U= .any\/Kn K2 x U:=fun x U hx=>by
 cases x with
 |tmp s=>exact h s U hx
 |const v=>exact .inr hx
 |global g=>exact .inr hx
 |func f=>exact .inr hx
theorem KLe.opG{K1 K2:List (Nat×Ty)}(h:KLe K1 K2)(π:Prop): ∀x U,KnG π K1 x U->U= .any\/KnG π K2 x U:=fun x U hx=>by
 rcases hx with hx|⟨π',hx,hi⟩
 · exact(h.op x U hx).imp id .inl
 · rcases h.op x _ hx with h'|h'
   · cases h'
   · exact .inr (.inr ⟨π',h',hi⟩)
section
variable{K:List (Nat×Ty)}{D:Array Bool}{E:Nat->Prop}{a:Act}{w:World}{i:Nat}{o:Oper}{kd:Kind}
theorem St1.quiet{K1 K2:List (Nat×Ty)}{S':Sd}{M':List Own}(hL: ∀m∈Lq,m∈L)(hK:KLe K1 K2)(hna:isAlloc o=false)(hns: ∀t p x,o.op≠ .store t p x)(h:St1 P ops Lq Φ i o K1 [] [] T M' S' kd):
   M'=[]/\S'=[]/\ ∃kd,St1 P ops L Φ i o K2 [] [] T [] [] kd:=by
 cases h with
 |typed hg h=>exact⟨rfl,rfl,_,.typed hg (h.more hL hK.op)⟩
 |gated π g b d hg hd hk hna h=>
   refine⟨rfl,rfl,_,.gated π g b d hg hd ?_ hna fun hπ=>(h hπ).more hL (hK.opG π)⟩;rcases hk with⟨c',hk,e⟩|⟨π₀,c',hk,e⟩
   · rcases hK d _ hk with h'|h'
     · cases h'
     · exact .inl ⟨c',h',e⟩
   · rcases hK d _ hk with h'|h'
     · cases h'
     · exact .inr ⟨π₀,c',h',e⟩
 |new t n d hd hg ho hz=>simp[isAlloc,ho]at hna
 |sto s ety ty n x hg hdst g hgi hal ho=>exact absurd ho (hns _ _ _)
 |chg hg hl hm h=>
   have hM:M'=[]:=List.map_eq_nil_iff.1 (by rw[hm];rfl);subst hM;refine⟨rfl,rfl,_,.typed hg ?_⟩;refine Ob.more hL hK.op fun E w ρ hp=>?_;exact(h E w ρ hp (fun _ h=>by cases h) (by simp)).mono fun v w' ⟨hk,hT,_⟩=>⟨hk.mono fun _ _ h=>by simp at h,hT⟩
theorem RI.big{Tf:Nat->Ty}{B1:Nat}(hI:RI P ops c K [] L Φ Tf (fun _=>[]) (fun _=>[]) B1 D E a w)(hs:D.size=ops.size)(ho:ordOK ops=true)(hi:ops[i]? =some o)(hd:D.getD i false=false)(hr:readyAt ops D i)
   (hna: ∀(j:Nat) (oj:Oper) (t:TypeId),ops[j]? =some oj->oj.op≠ .alloc t)(hn: ∀d,o.dst=some d->d<c.n){L':List Own}{T':Ty}{E':Nat->Prop}{v:Value}{w':World}(hk:Keeps (fun b=>b∈L.map (·.b)) w w')(hev:Ev E w E' w')(hwf: ∀b,E' b->b<w'.heap.size)(hT:T'.p E' v w')
   (hL: ∀m∈L',m.at E' w')(hmay: ∀m∈L,c.X0 m.b\/c.W0.heap.size<=m.b):
   RI P ops c K [] L' Φ (fun j=>if j=i then T' else Tf j) (fun _=>[]) (fun _=>[]) w'.heap.size (D.setIfInBounds i true) E' (a.put o.dst v) w':=by
 have hi':i<ops.size:=(Array.getElem?_eq_some_iff.1 hi).1;have hgs: ∀j,(D.setIfInBounds i true).getD j false=true↔j=i\/D.getD j false=true:=fun j=>Z2L (by omega);have hdst: ∀j oj d,ops[j]? =some oj->D.getD j false=true->oj.dst=some d->o.dst≠some d:=by
   intro j oj d hj hdone hdj;have hne:i≠j:=fun e=>by subst e;rw[hdone]at hd;cases hd
   intro e;exact((Z4n ho hi hj hne).1 d e).1 hdj
 refine⟨by rw[Z7l];exact hI.n,by rw[Z5K];exact hI.d,hwf,?_,?_,?_,hL,fun F hF=>(hI.f F hF).ev hev,fun _ _ _=>⟨(fun _ h=>by cases h),(fun _ h=>by cases h)⟩,fun j oj d t hj hop=>absurd hop (hna j oj t hj),fun j1 _ o1 _ _ _ t1 _ _ h1 _ p1=>absurd p1 (hna j1 o1 t1 h1),?_,?_,Nat.le_refl _⟩
 · intro j hj
   rcases(hgs j).1 hj with rfl|hj
   · exact fun o' ho' e he hbe=>(hgs e.on).2 (.inr (hr o' ho' e he hbe))
   · exact fun o' ho' e he hbe=>(hgs e.on).2 (.inr (hI.cl j hj o' ho' e he hbe))
 · intro s T' hs hno
   rw[Z1r _ _ _ _ (hno i o hi ((hgs i).2 (.inl rfl)))];exact Ty.mono hev (hI.k s T' hs fun j oj hj hdone=>hno j oj hj ((hgs j).2 (.inr hdone)))
 · intro j oj d hj hdone hdj
   by_cases e:j=i
   · subst e
     rw[hi]at hj;injection hj with hj
     subst hj;rw[if_pos rfl,hdj,Z3y _ _ _ (by rw[hI.n];exact hn d hdj)];exact hT
   · have hdone:D.getD j false=true:=((hgs j).1 hdone).resolve_left e
     rw[if_neg e,Z1r _ _ _ _ (hdst j oj d hj hdone hdj)];exact Ty.mono hev (hI.t j oj d hj hdone hdj)
 · exact fun b hx=>(hev.same b (hI.wf b (hI.x b hx))).2 (hI.x b hx)
 · exact hI.keeps.step hk fun b hb=>by
     obtain⟨m,hm,rfl⟩:=List.mem_map.1 hb;exact hmay m hm
theorem ZlT{l:List Oper}{T T':Nat->Ty}{p:Nat}(hp:T p= .any)(hT: ∀j,j≠p->T' j=T j): ∀n,KLe (kAt l T K n) (kAt l T' K n):=by
 intro n
 induction n with
 |zero=>exact fun s U h=>.inr h
 |succ n ih=>
   intro s U h;simp only[kAt]at h ⊢;cases hd:(l[n]?).bind (·.dst)with
   |none=>rw[hd]at h;exact ih s U h
   |some d=>
     rw[hd]at h;simp only[putK,look]at h ⊢;cases hq:Nat.beq d s with
     |true=>
       rw[hq,cond_true]at h;rw[cond_true];injection h with h
       subst h
       by_cases e:n=p
       · subst e;exact .inl hp
       · exact .inr (by rw[hT n e])
     |false=>
       rw[hq,cond_false]at h;rw[cond_false];exact ih s U h
end
def quietOK(ops:Array Oper)(m:Nat):Bool:=(ops.toList.take m).all fun o=> !isAlloc o&&(match o.op with| .store .. =>false|_=>true)
section
variable{K:List (Nat×Ty)}
end
section
variable{α:Type}{en:α->List Value}{sz:Nat}{d:Nat}{t tx e:TypeId}{s x:Operand}{bytes:Nat}
end
section
variable{K:List (Nat×Ty)}
theorem ZeQ{l:List Oper}{p m:Nat}{op:Oper}(h:l[p]? =some op)(hpm:p<m):l.take p++op::(l.drop (p+1)).take (m-(p+1))=l.take m:=by
 have hp:p<l.length:=(List.getElem?_eq_some_iff.1 h).1;have e:op=l[p]:=by rw[List.getElem?_eq_getElem hp]at h;injection h with h;exact h.symm
 have h1:op::(l.drop (p+1)).take (m-(p+1))=(l.drop p).take (m-p):=by
   rw[List.drop_eq_getElem_cons hp,show m-p=(m-(p+1))+1 by omega,List.take_succ_cons,e]
 rw[h1,show m=p+(m-p) by omega,List.take_add]
 simp
end
theorem Sub.newSlG{L:List Own}{Φ:List (World->Prop)}{α:Type}{en:α->List Value}{sz:Nat}{xs:List α}{cs:List Value}{e:TypeId}{n cap:Nat}(hsz: ∀x,(en x).length=sz)(hn:xs.length=n)(hc:xs.flatMap en=cs):
  Sub L Φ (.newSl (.cells cs.toArray e (0,0)) n cap) (.rep (SlG en sz xs)):=fun E v w _ h=>by
 obtain⟨b,rfl,hE,hb⟩:=h;refine fun w' hk=>Z52 hsz hn ?_ (show HeapIs b cs e w' from hk.get hb hE) cap;rw[hc,List.take_of_length_le (by rw[<-hc,Z6m hsz,hn];exact Nat.le_refl _)]
section
variable{K:List (Nat×Ty)}
theorem JO.openNew{ops:Array Oper}{l:List Oper}{s:Nat}{cs:List Value}{e:TypeId}{n cap:Nat}(h:look K s=some (.newSl (.cells cs.toArray e (0,0)) n cap))(hj: ∀b,JO P c ((s,.is (.slice (some ⟨b,0,none⟩) n cap))::K) L (HeapIs b cs e::Φ) ops l Q):JO P c K L Φ ops l Q:=by
 refine⟨?_⟩;intro E a w hs;obtain⟨b,hv,hE,hb⟩:=hs.k s _ h;refine(hj b).out E a w ⟨hs.n,hs.d,hs.wf,fun s' T' hl=>?_,hs.l,hs.ld,fun F hF=>?_,hs.x,hs.xs,hs.keeps,hs.may⟩
 · simp only[look]at hl
   cases hq:Nat.beq s s' with
   |true=>
     rw[hq,cond_true]at hl;injection hl with hl
     subst hl;rw[<-Nat.eq_of_beq_eq_true hq];exact hv
   |false=>rw[hq,cond_false]at hl;exact hs.k s' T' hl
 · rcases List.mem_cons.1 hF with rfl|hF
   · exact fun w' hk=>hk.get hb hE
   · exact hs.f F hF
theorem JO.openEx{ops:Array Oper}{l:List Oper}{s:Nat}{k vk vn:Int}{vs tb nm:ByteArray}{sl:Int}{kids:List Ex}(h:look K s=some (.rep (ExR (.mk k vk vn vs tb nm sl kids))))
   (hj: ∀a len cap b o,kids.length=len->(len≠0->a=some ⟨b,o,none⟩)->JO P c ((s,.is (.agg (exCells k vk vn vs tb nm sl a len cap).toArray))::K) L (KidsR kids a len::ExR (.mk k vk vn vs tb nm sl kids) (.agg (exCells k vk vn vs tb nm sl a len cap).toArray)::Φ) ops l Q):JO P c K L Φ ops l Q:=by
 refine JO.open_ h ?_;rintro v ⟨w,hw⟩;obtain⟨a,len,cap,rfl,hl,hk⟩:=Z5J.1 hw;obtain⟨b,o,hbo⟩: ∃b o,len≠0->a=some ⟨b,o,none⟩:=by
   by_cases hn:len=0
   · exact⟨0,0,fun h=>absurd hn h⟩
   · obtain⟨b,o,e,_⟩:=hk hn;exact⟨b,o,fun _=>e⟩
 refine JO.fact (KidsR kids a len) (fun E w hG _=>?_) (hj a len cap b o hl hbo);intro w' hk';obtain⟨a',len',cap',e,hK⟩:=Z5J.1 (hG _ List.mem_cons_self w' hk');have e2:=Z54 e;simp only[exCells,List.cons.injEq,Value.slice.injEq,and_true,true_and]at e2;obtain⟨rfl,rfl,rfl⟩:=e2;exact hK
end
theorem Zid{xs:List XC}{b n:Nat}{e:TypeId}{w:World}(hn:xs.length=n)(h:HeapIs b (xs.flatMap XC.cs) e w)(hF:XCF xs w):KidsR (xs.map (·.e)) (some ⟨b,0,none⟩) n w:=by
 subst hn;obtain⟨a,len,cap,e1,hr⟩:=Z52 (xs:=xs) (enc:=XC.cs) (sz:=8) (fun x:XC=>x.h) rfl (List.take_of_length_le (by rw[Z6m (fun x:XC=>x.h)];exact Nat.le_refl _)) h 0;injection e1 with e1 e2 e3
 subst e1 e2;exact ZfA hr hF
theorem ZdW{k vk vn:Int}{vs tb nm:ByteArray}{sl:Int}{cap:Nat}{w:World}:ExR (.mk k vk vn vs tb nm sl []) (.agg (exCells k vk vn vs tb nm sl none 0 cap).toArray) w:=Z5J.2 ⟨none,0,cap,rfl,rfl,fun h=>absurd rfl h⟩
theorem Zfx{t:TypeId}{x:Operand}{b o off i j len:Nat}{kids:List Ex}{k vk vn:Int}{vs tb nm:ByteArray}{sl:Int}{ks:List Ex}{a:Option Addr}{u:Value}(hs:szOf P t=some none)(hx:H x (.is (.pointer (some ⟨b,off,none⟩))))(hF:KidsR kids a len∈Φ)(ha:a=some ⟨b,o,none⟩)
   (hi:kids[i]? =some (.mk k vk vn vs tb nm sl ks))(ho:off=o+8*i+j)(hu: ∀a len cap,(exCells k vk vn vs tb nm sl a len cap)[j]? =some u):Ob P L Φ H ⟨dst,.load t x,ty,pos,after,g⟩ (.is u):=
 Z6b hx fun E w hf=>Z6y hs (by
   subst ha;obtain⟨cs,h8,hr,hR⟩:=ZbC (hf.2 _ hF) hi;obtain⟨a',len',cap',e,_⟩:=Z5J.1 hR.now;have e':=Z54 e;subst e';rw[ho];exact hr j u (hu _ _ _))
structure C3 where
 t:ByteArray
 n:ByteArray
 ty:Int
structure ColTy (P:Program) (tV tS tI:TypeId):Prop where
 hV:P.underlying tV=some (.struct (P.fieldsOf tV))
 fV:(P.fieldsOf tV).map (fun f=>(f.type,f.offset))= #[(tS,0),(tS,1),(tI,2)]
 hI:P.underlying tI=some (.int .i64)
 hS:P.underlying tS=some .string
 cV:P.cellsOf tV=3
 cI:P.cellsOf tI=1
 cS:P.cellsOf tS=1
section
variable{H:Type}{enc:TypeId×Value->H}{w:World}{base:Nat}{spare:Nat->Bool}{held:Bool}
end
def Ex.K:Ex->Int| .mk k _ _ _ _ _ _ _=>k
def Ex.VK:Ex->Int| .mk _ k _ _ _ _ _ _=>k
def Ex.VN:Ex->Int| .mk _ _ k _ _ _ _ _=>k
def Ex.VS:Ex->ByteArray| .mk _ _ _ k _ _ _ _=>k
def Ex.TB:Ex->ByteArray| .mk _ _ _ _ k _ _ _=>k
def Ex.NM:Ex->ByteArray| .mk _ _ _ _ _ k _ _=>k
def Ex.SL:Ex->Int| .mk _ _ _ _ _ _ k _=>k
def Ex.KS:Ex->List Ex| .mk _ _ _ _ _ _ _ k=>k
section
variable{K:List (Nat×Ty)}
theorem JO.openA{ops:Array Oper}{l:List Oper}{s:Nat}{x:Ex}(h:look K s=some (.rep (ExR x)))
  (hj: ∀a len cap b o,x.KS.length=len->(len≠0->a=some ⟨b,o,none⟩)->JO P c ((s,.is (.agg (exCells x.K x.VK x.VN x.VS x.TB x.NM x.SL a len cap).toArray))::K) L (KidsR x.KS a len::ExR x (.agg (exCells x.K x.VK x.VN x.VS x.TB x.NM x.SL a len cap).toArray)::Φ) ops l Q):JO P c K L Φ ops l Q:=by
 cases x with
 |mk k vk vn vs tb nm sl kids=>exact JO.openEx h hj
theorem J.openA{x':Code}{s:Nat}{x:Ex}(h:look K s=some (.rep (ExR x)))
  (hj: ∀a len cap b o,x.KS.length=len->(len≠0->a=some ⟨b,o,none⟩)->J P c ((s,.is (.agg (exCells x.K x.VK x.VN x.VS x.TB x.NM x.SL a len cap).toArray))::K) L (KidsR x.KS a len::ExR x (.agg (exCells x.K x.VK x.VN x.VS x.TB x.NM x.SL a len cap).toArray)::Φ) x' Q):J P c K L Φ x' Q:=by
 cases x with
 |mk k vk vn vs tb nm sl kids=>exact J.openEx h hj
end
section
variable{xt yt:TypeId}{x y:Operand}{a b:Int}
end
end Go.Vc
