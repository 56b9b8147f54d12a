/- The program logic, part 6. No condition. -/
import Derived.Test.YtbedigkncjbggaaGreatDoorXG4
import Derived.Laws.Externs
import Derived.MapKept
import Derived.Maps.RangeRun
namespace Go.Vc
open Go
variable{P:Program}{c:Ctx}{K K' K0:List (Nat×Ty)}{L L' L0 Lr Lq Lm Lk:List Own}{Φ Φ0:List (World->Prop)}{Q:Exit->Act->World->Prop}{H:Know}{dst:Option Nat}{ty:TypeId}{pos:String}{after:Array Edge}{g:Option (Nat×Bool)}{ops:Array Oper}{rest:List Oper}{fn:Func}{n:Nat}{X:Nat->Prop}{W:World}{op:Op}{f:FuncId}{As:List Ty}{T:Ty}{Z:Type}{Zp:Z->Prop}{L1:Z->List Own}{R:Z->Ty}{Bad:Prop}{ch:List PanicEntry}
structure RV where
 row:List V3
 a:Option Addr
 len:Nat
 cap:Nat
theorem ZbG{w:World}{b o:Nat}{u:Value}(h:w.cell? ⟨b,o,none⟩=some u): ∃(cs:Array Value) (t:TypeId) (fr:Nat×Nat),w.heap[b]? =some (.cells cs t fr)/\cs[o]? =some u:=by
 unfold World.cell? at h
 split at h
 · rename_i cs t fr hb
   exact⟨cs,t,fr,hb,by simpa using h⟩
 · cases h
theorem Zf0{xt:TypeId}{x:Operand}{v:Value}{d:TypeDesc}(hu:P.underlying xt=some d)(hd:(match d with| .interface _=>false|_=>true)=true)(hx:H x (.is v)):Ob P L Φ H ⟨dst,.makeInterface xt x,ty,pos,after,g⟩ (.is (.iface xt v)):=
 Z25 fun E w ρ hp=>by
  have h1:ρ x=v:=hp.x x _ (by simp[Op.operands]) hx;cases d<;>first|(cases hd;done)|simp[execOp,h1,Instr.makeInterface,run_underlying hu]
section
variable{V:Value}
end
section
variable{α:Type}{en:α->List Value}{sz:Nat}
end
structure FlI (ops:Array Oper) (m:Nat) (fl:List (Nat×Nat×Nat)) (x:Nat×Nat×Nat):Prop where
 lt:x.1<m
 op: ∃fo,ops[x.1]? =some fo/\fo.op= .move (.tmp x.2.2)/\fo.dst=some x.2.1/\fo.guard=none/\ ∀e∈fo.after,Region.binds .any e=true->e.on∉fl.map (·.1)
def pf(x:Nat×Nat×Nat)(a:Act):Act:=a.put (some x.2.1) (a.eval (.tmp x.2.2))
structure Flo where
 f:Nat
 d:Nat
 deps:List Nat
structure FlsI (ops:Array Oper) (m n:Nat) (fl:List Flo) (base:List Nat) (x:Flo):Prop where
 lt:x.f<m
 dn:x.d<n
 nb:x.d∉base
 op: ∃fo,ops[x.f]? =some fo/\fo.dst=some x.d/\fo.guard=none/\ ∀s∈x.deps,s∈base\/ ∃y∈fl,y.d=s/\ ∃e∈fo.after,Region.binds .any e=true/\e.on=y.f
structure FlA (σ:Nat->Value) (fl:List Flo) (base:List Nat) (n:Nat) (a:Act) (dn:Nat->Prop):Prop where
 b: ∀s∈base,a.eval (.tmp s)=σ s
 v: ∀x∈fl,dn x.f->a.eval (.tmp x.d)=σ x.d
 n:a.tmps.size=n
section
variable{σ:Nat->Value}{x:Flo}{fo:Oper}
end
section
variable{D:Array Bool}{E:Nat->Prop}{a:Act}{w:World}{i:Nat}{o:Oper}{kd:Kind}
end
abbrev MEs:=List (Int×Value×Nat)
def mEnt(e:Int×Value×Nat):MapEntry:={key:=.int .i64 e.1,val:=e.2.1,born:=e.2.2}
abbrev mObj(l:MEs)(cl:Nat):Obj:=.map (l.map mEnt).toArray cl
theorem Zfi{b:Nat}{e:TypeId}{o:Obj}{E:Nat->Prop}{w:World}(h:(⟨b,e,.ob o⟩:Own).at E w):w.heap[b]? =some o:=by
 obtain⟨_,_,h,_⟩:=h;exact h
theorem ZgU{b:Nat}{e:TypeId}{o:Obj}{E:Nat->Prop}{w:World}(h:w.heap[b]? =some o)(hE:E b):(⟨b,e,.ob o⟩:Own).at E w:=⟨hE,undef,h,trivial⟩
theorem Keeps.setOb{w:World}{b:Nat}{o o':Obj}(hb:w.heap[b]? =some o)(hn: ∀cs t fr,o≠ .cells cs t fr):Keeps (fun q=>q=b) w {w with heap:=w.heap.setIfInBounds b o'}:=by
 refine⟨rfl,rfl,rfl,by simp,fun q hq hx=>?_,fun q cs t fr hq=>?_⟩
 · exact(MapKept.heap_set hb).2 q hx
 · by_cases e:q=b
   · subst e
     rw[hb]at hq;injection hq with hq
     exact absurd hq (hn cs t fr)
   · exact⟨cs,((MapKept.heap_set hb).2 q e).trans hq,rfl⟩
theorem Zmj{M M':List Own}{o:Oper}{b:Nat}{e:TypeId}{x x':Obj}{T:Ty}{v:Value}(hu:Upd M ⟨b,e,.ob x⟩ ⟨b,e,.ob x'⟩ M')(hn: ∀cs t fr,x≠ .cells cs t fr)(hT: ∀E w,T.p E v w)
  (h: ∀E w ρ,Pre L Φ H o E w ρ->w.heap[b]? =some x->∃nx,(execOp ρ o).run P w= .ok nx {w with heap:=w.heap.setIfInBounds b x'}/\(nx= .value v\/nx= .skip/\v=undef)):ObM P L Φ H M o T M':=fun E w ρ hp hM hnd=>by
 have hb:=Zfi (hM _ hu.mem);have hE:=(hM _ hu.mem).1;obtain⟨nx,hrun,hnx⟩:=h E w ρ hp hb;have hk:Keeps (fun q=>q=b) w {w with heap:=w.heap.setIfInBounds b x'}:=Keeps.setOb hb hn;have hev:Ev E w E {w with heap:=w.heap.setIfInBounds b x'}:=Ev.of_keeps (hk.mono fun q _ e=>by rw[e];exact hE);rw[hrun];have hfin:Keeps (fun q=>q∈M.map (·.b)) w {w with heap:=w.heap.setIfInBounds b x'}/\T.p E v {w with heap:=w.heap.setIfInBounds b x'}/\ ∀m∈M',m.at E {w with heap:=w.heap.setIfInBounds b x'}:=
  ⟨hk.mono fun q _ e=>by rw[e];exact List.mem_map_of_mem hu.mem,hT _ _,hu.all hnd (fun m hm hne=>Own.keep (hM m hm) hev ((MapKept.heap_set hb).2 m.b hne)) (ZgU (MapKept.heap_set hb).1 hE)⟩
 rcases hnx with rfl|⟨rfl,rfl⟩
 · exact hfin
 · exact hfin
end Go.Vc
namespace Go.Vc
open Go Go.ChangeMaps
section
variable{P:Program}{c:Ctx}{K:List (Nat×Ty)}{L L':List Own}{Φ:List (World->Prop)}{Q:Exit->Act->World->Prop}
variable{ops:Array Oper}{rest:List Oper}{d:Nat}{ty t:TypeId}{pos:String}{after:Array Edge}
theorem SA.newOb{E:Nat->Prop}{a:Act}{w:World}{e:TypeId}{V:Value}(hs:SA c K L Φ E a w)(o:Obj)(hd:d<c.n):
   SA c ((d,.is V)::K) (⟨w.heap.size,e,.ob o⟩::L) Φ (fun b=>E b\/b=w.heap.size) (a.put (some d) V) (w.alloc o):=by
 have hk:=Keeps.alloc w o;have hev:Ev E w (fun b=>E b\/b=w.heap.size) (w.alloc o):=⟨hk.of_noX,fun b hb=>⟨fun h=>h.elim id (fun e=>absurd hb (by omega)),.inl⟩⟩;refine hs.put (dst:=some d) (T:=.is V) hev ?_ rfl (fun d' e=>by injection e with e;omega) ?_ ?_ (hs.keeps.step hk fun _=>False.elim) ?_
 · rintro b (hb|rfl)
   · rw[Z2t];have:=hs.wf b hb;omega
   · rw[Z2t];omega
 · intro m ho
   rcases List.mem_cons.1 ho with rfl|ho
   · exact ZgU (Z2i w _) (.inr rfl)
   · exact Own.keep0 (hs.l m ho) hev hk
 · rw[List.map_cons,List.nodup_cons]
   refine⟨fun h=>?_,hs.ld⟩;obtain⟨m,hm,e'⟩:=List.mem_map.1 h;have h1:=hs.wf m.b (hs.l m hm).1;have e'':m.b=w.heap.size:=e'
   omega
 · intro m ho
   rcases List.mem_cons.1 ho with rfl|ho
   · exact .inr hs.keeps.size
   · exact hs.may m ho
theorem JO.mapMk(hd:Nat.blt d c.n=true)(hn: ∀r,JO P c ((d,.is (.map (some r)))::K) (⟨r,0,.ob (mObj [] 0)⟩::L) Φ ops rest Q):JO P c K L Φ ops (⟨some d,.makeMap t none,ty,pos,after,none⟩::rest) Q:=by
 refine⟨fun E a w hs=>wpList_plain rfl fun K' hK=>?_⟩;unfold Oper.wp;have hrun:(execOp a.eval ⟨some d,.makeMap t none,ty,pos,after,none⟩).run P w= .ok (.value (.map (some w.heap.size))) (w.alloc (.map #[] 0)):=by
   simp[execOp,Instr.makeMap]
 rw[hrun];exact hK _ _ ((hn w.heap.size).out _ _ _ (hs.newOb (e:=0) _ (Nat.le_of_ble_eq_true hd)))
end
section
variable{P:Program}{L:List Own}{Φ:List (World->Prop)}{H:Know}{dst:Option Nat}{ty:TypeId}{pos:String}{after:Array Edge}{g:Option (Nat×Bool)}
theorem Zif{t:Operand}{i:Nat}{xs:Array Value}{v:Value}(hx:H t (.is (.tuple xs)))(hv:xs[i]? =some v):Ob P L Φ H ⟨dst,.extract t i,ty,pos,after,g⟩ (.is v):=
 Z25 fun E w ρ hp=>by
  have h1:ρ t= .tuple xs:=hp.x t _ (by simp[Op.operands]) hx
  simp[execOp,h1,Instr.extract,hv]
end
end Go.Vc
