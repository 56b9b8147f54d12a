/- The document's reader: factors. No condition. -/
import Derived.Test.YtbedigkncjbggaaGreatDoorXQ11
import Derived.Test.YtbedigkncjbggaaGreatDoorXQ1
set_option maxRecDepth 20000
namespace Go.Proofs.YtbedigkncjbggaaGreatDoor
open Go Go.Vc
open Go.Pz
abbrev FK(T:Rk)(b:Nat)(us:List T3)(bad:Bool):Prop:=CallL Tryz.prog Z4H [RB T b us bad] [T.G] [.is (.pointer (some ⟨b,0,none⟩))] (fun z:Ex×List T3×Bool=>∀n,us.length<=n->Rv (factorR (exprR n 0) us) us bad z) (fun z=>[RB T b z.2.1 z.2.2]) (fun z=>.rep (ExR z.1))
def agN(i:Nat):ByteArray:=[Z2y,Z54,Z5x,Z6c].getD i em
abbrev agT:List Value:=[.string Z2y,.string Z54,.string Z5x,.string Z6c]
theorem Zii{i:Nat}(h:i<4):nth (Value.cells (.agg agT.toArray)).toList (0+((i:Nat):Int).toNat*1)=some (.string (agN i)):=by
 match i,h with
 |0,_|1,_|2,_|3,_=>rfl
theorem Zir{i:Nat}(h:i<4){w:ByteArray}(hno: ∀j,j<i->sq w (agN j)=false)(hy:sq w (agN i)=true):aggK w=some (20+(i:Int)):=by
 unfold aggK
 match i,h with
 |0,_=>rw[if_pos (show sq w Z2y=true from hy)];rfl
 |1,_=>rw[if_neg (by rw[show sq w Z2y=false from hno 0 qM];decide),if_pos (show sq w Z54=true from hy)];rfl
 |2,_=>rw[if_neg (by rw[show sq w Z2y=false from hno 0 qM];decide),if_neg (by rw[show sq w Z54=false from hno 1 qM];decide),if_pos (show sq w Z5x=true from hy)];rfl
 |3,_=>rw[if_neg (by rw[show sq w Z2y=false from hno 0 qM];decide),if_neg (by rw[show sq w Z54=false from hno 1 qM];decide),if_neg (by rw[show sq w Z5x=false from hno 2 qM];decide),if_pos (show sq w Z6c=true from hy)];rfl
theorem Zh5{w:ByteArray}(hno: ∀j,j<4->sq w (agN j)=false):aggK w=none:=by
 unfold aggK;rw[if_neg (by rw[show sq w Z2y=false from hno 0 qM];decide),if_neg (by rw[show sq w Z54=false from hno 1 qM];decide),if_neg (by rw[show sq w Z5x=false from hno 2 qM];decide),if_neg (by rw[show sq w Z6c=false from hno 3 qM];decide)]
theorem ZhO{us:List T3}{bad:Bool}(h:((pkT us bad).k==0)=false): ∃t r,us=t::r/\bad=false:=by
 unfold pkT at h;cases bad with
 |true=>cases h
 |false=>
   cases us with
   |nil=>cases h
   |cons t r=>exact⟨t,r,rfl,rfl⟩
theorem ZfW{e:Ps Ex}{us:List T3}{bad:Bool}(hm:isRB 5 Z1s us bad=false)(h:((pkT us bad).k==0)=true)(x:Ex):Rv (factorR e us) us bad (x,us,true):=by
 cases bad with
 |true=>exact Rv.badly (List.suffix_refl _) x
 |false=>
   cases us with
   |nil=>rw[factorR];exact Rv.none x
   |cons t r=>
     have h':(t.k==0)=true:=h;have hm':isT 5 Z1s (t::r)=false:=by simpa [isRB] using hm
     rw[factorR,if_neg (by rw[hm'];decide),if_pos h'];exact Rv.none x
theorem Rv.up{α:Type}{o:Option (α×List T3)}{t:T3}{r:List T3}{bad:Bool}{z:α×List T3×Bool}(h:Rv o r bad z):Rv o (t::r) bad z:=⟨h.1.trans (List.suffix_cons _ _),h.2.1,h.2.2⟩
theorem Zfa{e:Ps Ex}{us:List T3}{bad:Bool}(hm:isRB 5 Z1s us bad=true){z:Ex×List T3×Bool}(hz:Rv (factorR e us.tail) us.tail bad z):Rv (factorR e us) us bad (nd 3 [z.1],z.2.1,z.2.2):=by
 obtain⟨hb,h⟩:=Z2p hm;obtain⟨t,r,rfl,_⟩:=Z5a h;rw[factorR,if_pos h];exact Rv.up (Rv.map hz rfl)
def facR(e:Ps Ex)(t:T3)(r:List T3):Option (Ex×List T3):=
 if t.k==3 then some (lit 1 t.n em,r)
 else if t.k==4 then some (lit 3 0 t.t,r)
 else if t.k==2 then(if isT 5 Z6z r then(nameP r.tail).map fun z=>(.mk 2 0 0 em t.t z.1 0 [],z.2)else some (.mk 2 0 0 em em t.t 0 [],r))
 else if sq t.t Z87 then some (lit 2 1 em,r)
 else if sq t.t Z6J then some (lit 2 0 em,r)
 else if sq t.t Z1M then some (lit 0 0 em,r)
 else if(t.k==5)&&sq t.t s_lp then(e r).bind fun x=>(wantP 5 s_rp x.2).map fun v=>(x.1,v.2)
 else match aggK t.t with
   |none=>none
   |some q=>(wantP 5 s_lp r).bind fun y=>
     if q==20&&isT 5 Z1g y.2 then(wantP 5 s_rp y.2.tail).map fun v=>(nd 20 [],v.2)
     else(e y.2).bind fun x=>(wantP 5 s_rp x.2).map fun v=>(nd q [x.1],v.2)
theorem Z3o{e:Ps Ex}{t:T3}{r:List T3}{z:Ex×List T3×Bool}(hm:isRB 5 Z1s (t::r) false=false)(h0:(t.k==0)=false)(hz:Rv (facR e t r) r false z):Rv (factorR e (t::r)) (t::r) false z:=by
 have hm':isT 5 Z1s (t::r)=false:=by simpa [isRB] using hm
 rw[factorR,if_neg (by rw[hm'];decide),if_neg (by rw[h0];decide)];exact Rv.up hz
theorem Rv.up_tail{α:Type}{o:Option (α×List T3)}{r:List T3}{bad:Bool}{z:α×List T3×Bool}(h:Rv o r.tail bad z):Rv o r bad z:=⟨h.1.trans (List.tail_suffix _),h.2.1,h.2.2⟩
theorem Rv.ite_fc{α:Type}{c:Bool}{p q:Option (α×List T3)}{us:List T3}{bad:Bool}{z:α×List T3×Bool}(h:c=true->bad=true)(hz:Rv q us bad z):Rv (if c then p else q) us bad z:=by
 cases hc:c with
 |false=>exact hz
 |true=>
   have hb:=h hc;subst hb;exact⟨hz.1,hz.2.1,fun h=>by cases h⟩
abbrev gsk(i:Nat)(vs:List T3)(bd:Bool):List T3:=if 0<i then vs else skRB 5 Z1g vs bd
theorem JO.gcallH{P:Program}{c:Ctx}{K:List (Nat×Ty)}{Lr:List Own}{Φ:List (World->Prop)}{Q:Exit->Act->World->Prop}{ops:Array Oper}{rest:List Oper}{op:Op}{d:Nat}{ty:TypeId}{pos:String}{after:Array Edge}{g s:Nat}{b cc:Bool}{T:Ty}{o o2:Own}(hgi:(ops[g]?).bind (·.dst)=some s)(hns:Nat.blt s c.n=true)(hk:Go.Vc.look K s=some (.is (.bool cc)))(hd:Nat.blt d c.n=true)
  (hno:cc≠b->o=o2)(hyes:cc=b->JO P c ((d,T)::K) (o2::Lr) Φ ops rest Q->JO P c K (o::Lr) Φ ops (⟨some d,op,ty,pos,after,none⟩::rest) Q)
  (hj:JO P c ((d,.opt (cc=b) T)::K) (o2::Lr) Φ ops rest Q):JO P c K (o::Lr) Φ ops (⟨some d,op,ty,pos,after,some (g,b)⟩::rest) Q:=
 JO.gcall hgi hns hk hd (fun e=>by rw[hno e]) hyes hj
theorem Sub.leaf0{L:List Own}{Φ:List (World->Prop)}{k vk vn:Int}{vs tb nm:ByteArray}{sl:Int}:Sub L Φ (.is (.agg #[.int .i64 k,.int .i64 vk,.int .i64 vn,.string vs,.string tb,.string nm,.int .i64 sl,.slice none 0 0])) (.rep (ExR (.mk k vk vn vs tb nm sl []))):=Sub.leaf
set_option maxHeartbeats 1000000 in
theorem Z5Q(T:Rk)(b0 o0:Nat)(ha:T.ts.length≠0->T.ad=some ⟨b0,o0,none⟩)(h9:T.ts.length<=2049)(b:Nat)(us:List T3)(hus:us<:+T.ts)(bad:Bool)(hX: ∀vs bd,vs<:+T.ts->vs.length<us.length->EC T b vs bd 0)(hF: ∀vs bd,vs<:+T.ts->vs.length<us.length->FK T b vs bd):CallL Tryz.prog Z4H [RB T b us bad] [T.G] [.is (.pointer (some ⟨b,0,none⟩))] (fun z:Ex×List T3×Bool=>∀n,us.length<=n->Rv (factorR (exprR n 0) us) us bad z) (fun z=>[RB T b z.2.1 z.2.2]) (fun z=>.rep (ExR z.1)):=
CallL.of (fn:=Tryz.f127) Tryz.func127 (n:=125) rfl rfl rfl (fun _ _=>by kernel_rfl) fun E W hb0=>by
 refine vQ ?_;refine JO.alloc Z14 rfl fun b2=>(vP [0,2] ?_);refine Jm rfl ?_;refine JO.callK (Lr:=[_]) (ZZ T b0 o0 ha h9 b _ ?hs _ Z1s) rfl qP qF qA ?_
 case hs=>exact qW
 intro _ _;refine vD ?_;refine vS [0,2,9] ?_;refine yC rfl (fun ht9=>?_) (fun ht9=>?_);rw[Z1e ht9];refine vQ ?_;refine Jm rfl (JO.callK (Lr:=[_]) (hF us.tail bad ((List.tail_suffix us).trans hus) (ZG (Z2p ht9).2).2) rfl qP qF qA ?_);intro z hz;refine vD ?_;refine Jq (Z1T Zy rfl) (JO.open_ (s:=12) (R:=ExsR [z.1]) rfl ?_);rintro _ ⟨_,a12,l12,q12,rfl,_⟩;refine JO.fact (KidsR [z.1] a12 l12) (fun X w hf _ w' hk=>by obtain⟨a,len,cap,e,h⟩:=hf (ExsR [z.1] (.slice a12 l12 q12)) qI w' hk;injection e with e1 e2 e3;subst e1 e2;exact h) ?_;refine Jq (Zd (cs:=[_,_,_,_,_,_,_,_]) Z1a (.cons rfl (.cons rfl .nil)) rfl rfl) (JO.m (Z2 rfl rfl qU (by exact Zb rfl rfl) (by first|exact Zb rfl rfl|exact ZF) Zc) (by rfl) ?_);refine vS [2] ?_;refine vR ?_;refine JX.retLCs (Lr:=[_]) rfl (nd 3 [z.1],z.2.1,z.2.2) ?_ qP rfl rfl hb0 rfl Z8 HasOwn.mem (ZQ rfl) (Sub.exMk qI);intro n hn;exact Zfa ht9 (hz n (by rw[List.length_tail];omega));apply yK
 repeat first|apply yX|apply yB
 rw[Z19 ht9];refine vQ ?_;refine Jm rfl (JO.callK (Lr:=[_]) (Z2v T b0 o0 ha h9 b us hus bad) rfl qP qF qA ?_);intro _ _;refine vD ?_;refine JO.alloc Z1q rfl fun b3=>(JO.m (Z2 rfl rfl qU (by exact Zb rfl rfl) (by first|exact Zb rfl rfl|exact ZF) ZL) (by rfl) ?_);refine vP [0,2,3] ?_;refine Jq (Z0 Z1i rfl) (Jq (Z5 Zx rfl rfl) (Jq (ZP rfl rfl) (vS [0,2,3,18] ?_)));refine yC rfl (fun ht18=>?_) (fun ht18=>?_);refine vQ ?_;refine Jm rfl (Jq (Z4 rfl) (Jq (Z0 Ze rfl) (JO.m (Z9 (cs':=[_,_,_]) rfl rfl qU rfl rfl rfl rfl Z1A) (by rfl) ?_)));refine vP [2] ?_;refine Jq (Zd (cs:=[_,_,_,_,_,_,_,_]) Z1a .nil rfl rfl) (JO.m (Z2 rfl rfl qU (by exact Zb rfl rfl) (by first|exact Zb rfl rfl|exact ZF) Zc) (by rfl) ?_);refine vS [2] ?_;refine vR ?_;refine JX.retLCs (Lr:=[_,_]) rfl (ex0,us,true) ?_ qP rfl rfl hb0 rfl Z8 HasOwn.mem (ZQ rfl) Sub.leaf0;intro n hn;exact ZfW ht9 ht18 _;apply yK
 repeat first|apply yX|apply yB
 obtain⟨t,r,rfl,rfl⟩:=ZhO ht18;have h0:(t.k==0)=false:=ht18;have hne:(t::r)≠[]:=by simp
 have hlt:=Z9W hus hne;have hkt:T.k r=T.k (t::r)+1:=Z5K hus hne;have hr:r<:+T.ts:=(List.suffix_cons t r).trans hus;rw[show pkT (t::r) false=t from rfl];refine vQ ?_;refine Jm rfl (Jq (Z4 rfl) (Jq (Z0 ZK rfl) (Jq (Z5 Zx rfl rfl) (Jq (Zv (cc:=(T.k r:Nat)) rfl rfl (inRK hus hne) qM qM) ?_))));refine Jq (Z4 rfl) (Jq (Z0 ZK rfl) (JO.m (Z9 (cs':=[_,_,_]) rfl rfl qU rfl rfl rfl rfl Z29) (by rfl) ?_));refine vS [0,2,3] ?_;apply yk;refine vQ ?_;refine Jq (Z0 Z1i rfl) (Jq (Z5 Zx rfl rfl) (Jq (ZP rfl rfl) (Ja rfl (vS [0,2,3,30] ?_))));refine yC rfl (fun ht30=>?_) (fun ht30=>?_);refine vQ ?_;refine Jq (Z0 Z8x rfl) (Jq (Z5 Zd7 rfl rfl) (Jq (Zd (cs:=[_,_,_]) Z2G (.cons rfl (.cons rfl .nil)) rfl rfl) (Jq (Zd (cs:=[_,_,_,_,_,_,_,_]) Z1a (.cons rfl (.cons rfl .nil)) rfl rfl) (JO.m (Z2 rfl rfl qU (by exact Zb rfl rfl) (by first|exact Zb rfl rfl|exact ZF) Zc) (by rfl) ?_))));refine vS [2] ?_;refine vR ?_;refine JX.retLCs (Lr:=[_,_]) rfl (lit 1 t.n em,r,false) ?_ qP rfl rfl hb0 rfl Z8 HasOwn.mem (ZQ rfl) Sub.leaf0;intro n hn;refine Z3o ht9 h0 ?_;unfold facR;rw[if_pos ht30];exact Rv.pure _;refine vQ ?_;refine Jq (Z0 Z1i rfl) (Jq (Z5 Zx rfl rfl) (Jq (ZP rfl rfl) (Ja rfl (vS [0,2,3,38] ?_))));refine yC rfl (fun ht38=>?_) (fun ht38=>?_);refine vQ ?_;refine Jq (Z0 Z1x rfl) (Jq (Z5 Zr rfl rfl) (Jq (Zd (cs:=[_,_,_]) Z2G (.cons rfl (.cons rfl .nil)) rfl rfl) (Jq (Zd (cs:=[_,_,_,_,_,_,_,_]) Z1a (.cons rfl (.cons rfl .nil)) rfl rfl) (JO.m (Z2 rfl rfl qU (by exact Zb rfl rfl) (by first|exact Zb rfl rfl|exact ZF) Zc) (by rfl) ?_))));refine vS [2] ?_;refine vR ?_;refine JX.retLCs (Lr:=[_,_]) rfl (lit 3 0 t.t,r,false) ?_ qP rfl rfl hb0 rfl Z8 HasOwn.mem (ZQ rfl) Sub.leaf0;intro n hn;refine Z3o ht9 h0 ?_;unfold facR;rw[if_neg (by rw[ht30];decide),if_pos ht38];exact Rv.pure _;refine vQ ?_;refine Jq (Z0 Z1i rfl) (Jq (Z5 Zx rfl rfl) (Jq (ZP rfl rfl) (Ja rfl (vS [0,2,3,46] ?_))));refine yC rfl (fun ht46=>?_) (fun ht46=>?_);refine vQ ?_;refine Jm rfl ?_;refine JO.callK (Lr:=[_,_]) (ZZ T b0 o0 ha h9 b _ ?hs _ Z6z) rfl qP qF qA ?_
 case hs=>exact hr
 intro _ _;refine vD ?_;refine vS [0,2,3,51] ?_;refine yC rfl (fun ht51=>?_) (fun ht51=>?_);rw[Z1e ht51]
 repeat apply yQ
 refine J.regBgm (G:={z:ByteArray×List T3×Bool // Rv (nameP r.tail) r.tail false z}) 3 5 (fun g=>.is (.string g.1.1)) (fun g=>[RB T b g.1.2.1 g.1.2.2]++[⟨b3,Z1h,.is (tkV t)⟩,⟨b2,Z7,.is (.agg #[.int .i64 0,.int .i64 0,.int .i64 0,.string ⟨#[]⟩,.string ⟨#[]⟩,.string ⟨#[]⟩,.int .i64 0,.slice none 0 0])⟩]) ([⟨b3,Z1h,.is (tkV t)⟩,⟨b2,Z7,.is (.agg #[.int .i64 0,.int .i64 0,.int .i64 0,.string ⟨#[]⟩,.string ⟨#[]⟩,.string ⟨#[]⟩,.int .i64 0,.slice none 0 0])⟩]) rfl rfl rfl rfl hmx qK rfl qK (fun o ho=>List.mem_cons_of_mem _ ho) (fun g o ho=>List.mem_cons_of_mem _ ho) qK ?_;refine yz (Z0 Z1x rfl) (yz (Z5 Zr rfl rfl) (yz (Z1 rfl) ?_));refine RT.bigg (Lq:=[⟨b3,Z1h,.is (tkV t)⟩,⟨b2,Z7,.is (.agg #[.int .i64 0,.int .i64 0,.int .i64 0,.string ⟨#[]⟩,.string ⟨#[]⟩,.string ⟨#[]⟩,.int .i64 0,.slice none 0 0])⟩]) (Z3d (Lr:=[⟨b3,Z1h,.is (tkV t)⟩,⟨b2,Z7,.is (.agg #[.int .i64 0,.int .i64 0,.int .i64 0,.string ⟨#[]⟩,.string ⟨#[]⟩,.string ⟨#[]⟩,.int .i64 0,.slice none 0 0])⟩]) rfl (ZY T b0 o0 ha h9 b r.tail ((List.tail_suffix r).trans hr) false) (.refl _) qF qA) (fun g=>?_);refine yz (Zd (cs:=[_,_,_,_,_,_,_,_]) Z1a (.cons rfl (.cons rfl (.cons rfl .nil))) rfl rfl) ?_;apply yn;obtain⟨z5,hz5⟩:=g;try dsimp only
 refine JO.m (Z2 rfl rfl qU (by exact Zb rfl rfl) (by first|exact Zb rfl rfl|exact ZF) Zc) (by rfl) ?_;refine vS [2] ?_;refine vR ?_;refine JX.retLCs (Lr:=[_,_]) rfl (.mk 2 0 0 em t.t z5.1 0 [],z5.2.1,z5.2.2) ?_ qP rfl rfl hb0 rfl Z8 HasOwn.mem (ZQ rfl) Sub.leaf0;intro n hn;refine Z3o ht9 h0 ?_;unfold facR;rw[if_neg (by rw[ht30];decide),if_neg (by rw[ht38];decide),if_pos ht46];exact Rv.ite_t ht51 (Rv.map hz5 rfl);apply yK
 repeat first|apply yX|apply yB
 rw[Z19 ht51];refine vQ ?_;refine Jq (Z0 Z1x rfl) (Jq (Z5 Zr rfl rfl) (Jq (Zd (cs:=[_,_,_,_,_,_,_,_]) Z1a (.cons rfl (.cons rfl .nil)) rfl rfl) (JO.m (Z2 rfl rfl qU (by exact Zb rfl rfl) (by first|exact Zb rfl rfl|exact ZF) Zc) (by rfl) ?_)));refine vS [2] ?_;refine vR ?_;refine JX.retLCs (Lr:=[_,_]) rfl (.mk 2 0 0 em em t.t 0 [],r,false) ?_ qP rfl rfl hb0 rfl Z8 HasOwn.mem (ZQ rfl) Sub.leaf0;intro n hn;refine Z3o ht9 h0 ?_;unfold facR;rw[if_neg (by rw[ht30];decide),if_neg (by rw[ht38];decide),if_pos ht46];exact Rv.ite_f ht51 (Rv.pure _);refine vQ ?_;refine Jq (Z0 Z1x rfl) (Jq (Z5 Zr rfl rfl) (Jq (Z2g rfl rfl) (Ja rfl (vS [0,2,3,60] ?_))));refine yC rfl (fun ht60=>?_) (fun ht60=>?_);have hqT:sq t.t Z87=true:=by rw[<-Z2D];exact ht60
 refine vQ ?_;refine Jq (Zd (cs:=[_,_,_]) Z2G (.cons rfl (.cons rfl .nil)) rfl rfl) (Jq (Zd (cs:=[_,_,_,_,_,_,_,_]) Z1a (.cons rfl (.cons rfl .nil)) rfl rfl) (JO.m (Z2 rfl rfl qU (by exact Zb rfl rfl) (by first|exact Zb rfl rfl|exact ZF) Zc) (by rfl) ?_));refine vS [2] ?_;refine vR ?_;refine JX.retLCs (Lr:=[_,_]) rfl (lit 2 1 em,r,false) ?_ qP rfl rfl hb0 rfl Z8 HasOwn.mem (ZQ rfl) Sub.leaf0;intro n hn;refine Z3o ht9 h0 ?_;unfold facR;rw[if_neg (by rw[ht30];decide),if_neg (by rw[ht38];decide),if_neg (by rw[ht46];decide),if_pos hqT];exact Rv.pure _;have hqT:sq t.t Z87=false:=by rw[<-Z2D];exact ht60
 refine vQ ?_;refine Jq (Z0 Z1x rfl) (Jq (Z5 Zr rfl rfl) (Jq (Z2g rfl rfl) (Ja rfl (vS [0,2,3,66] ?_))));refine yC rfl (fun ht66=>?_) (fun ht66=>?_);have hqF:sq t.t Z6J=true:=by rw[<-Z2D];exact ht66
 refine vQ ?_;refine Jq (Zd (cs:=[_,_,_]) Z2G (.cons rfl .nil) rfl rfl) (Jq (Zd (cs:=[_,_,_,_,_,_,_,_]) Z1a (.cons rfl (.cons rfl .nil)) rfl rfl) (JO.m (Z2 rfl rfl qU (by exact Zb rfl rfl) (by first|exact Zb rfl rfl|exact ZF) Zc) (by rfl) ?_));refine vS [2] ?_;refine vR ?_;refine JX.retLCs (Lr:=[_,_]) rfl (lit 2 0 em,r,false) ?_ qP rfl rfl hb0 rfl Z8 HasOwn.mem (ZQ rfl) Sub.leaf0;intro n hn;refine Z3o ht9 h0 ?_;unfold facR;rw[if_neg (by rw[ht30];decide),if_neg (by rw[ht38];decide),if_neg (by rw[ht46];decide),if_neg (by rw[hqT];decide),if_pos hqF];exact Rv.pure _;have hqF:sq t.t Z6J=false:=by rw[<-Z2D];exact ht66
 refine vQ ?_;refine Jq (Z0 Z1x rfl) (Jq (Z5 Zr rfl rfl) (Jq (Z2g rfl rfl) (Ja rfl (vS [0,2,3,72] ?_))));refine yC rfl (fun ht72=>?_) (fun ht72=>?_);have hqN:sq t.t Z1M=true:=by rw[<-Z2D];exact ht72
 refine vQ ?_;refine Jq (Zd (cs:=[_,_,_,_,_,_,_,_]) Z1a (.cons rfl .nil) rfl rfl) (JO.m (Z2 rfl rfl qU (by exact Zb rfl rfl) (by first|exact Zb rfl rfl|exact ZF) Zc) (by rfl) ?_);refine vS [2] ?_;refine vR ?_;refine JX.retLCs (Lr:=[_,_]) rfl (lit 0 0 em,r,false) ?_ qP rfl rfl hb0 rfl Z8 HasOwn.mem (ZQ rfl) Sub.leaf0;intro n hn;refine Z3o ht9 h0 ?_;unfold facR;rw[if_neg (by rw[ht30];decide),if_neg (by rw[ht38];decide),if_neg (by rw[ht46];decide),if_neg (by rw[hqT];decide),if_neg (by rw[hqF];decide),if_pos hqN];exact Rv.pure _;have hqN:sq t.t Z1M=false:=by rw[<-Z2D];exact ht72
 refine vQ ?_;refine Jq (Z0 Z1i rfl) (Jq (Z5 Zx rfl rfl) (Jq (ZP rfl rfl) (Jm rfl (JO.tg rfl rfl rfl rfl rfl (fun hg=>Z0 Z1x (.inl rfl)) (JO.tg rfl rfl rfl rfl rfl (fun hg=>Z5 Zr (qR rfl) rfl) ?_)))));refine JO.tg rfl rfl rfl rfl rfl (fun hg=>Z2g (qR rfl) (.inl rfl)) ?_;refine Jq (Zl rfl rfl rfl id) (Ja rfl (vS [0,2,3,77] ?_));refine yC rfl (fun ht77=>?_) (fun ht77=>?_);have hlp:((t.k==5)&&sq t.t s_lp)=true:=by rw[<-Z2D];exact ht77
 refine vQ ?_;refine Jm rfl (JO.callK (Lr:=[_,_]) (hX r false hr (by simp)) rfl qP qF qA ?_);intro z hz;refine vD ?_;refine JO.alloc Z14 rfl fun b4=>(JO.m (Z2 rfl rfl qU qC qO Zc) (by rfl) ?_);refine vS [0,2,4] ?_;have hz1:z.2.1<:+r:=(hz (r.length+1) qM).suf;refine vQ ?_;refine Jm rfl ?_;refine JO.callK (Lr:=[_,_,_]) (Zh T b0 o0 ha h9 b _ ?hs _ 5 qD s_rp) rfl qP qF qA ?_
 case hs=>exact hz1.trans hr
 intro y hy;refine vD ?_;refine vP [2,4] ?_;refine Jq (Z1J Z8 rfl) (JO.m (Z2 rfl rfl qU qC qO Zc) (by rfl) ?_);refine vS [2] ?_;refine vR ?_;refine JX.retLCs (Lr:=[_,_,_]) rfl (z.1,y.2.1,y.2.2) ?_ qP rfl rfl hb0 rfl Z8 HasOwn.mem Z1E (Sub.refl _);intro n hn;refine Z3o ht9 h0 ?_;unfold facR;rw[if_neg (by rw[ht30];decide),if_neg (by rw[ht38];decide),if_neg (by rw[ht46];decide),if_neg (by rw[hqT];decide),if_neg (by rw[hqF];decide),if_neg (by rw[hqN];decide),if_pos hlp];exact(hz n (by simp at hn;omega)).bind (Rv.map hy rfl);apply yK
 repeat first|apply yX|apply yB
 have hlp:((t.k==5)&&sq t.t s_lp)=false:=by rw[<-Z2D];exact ht77
 refine vQ ?_;refine Jq (Zd (cs:=[_,_,_,_]) ZdH (.cons rfl (.cons rfl (.cons rfl (.cons rfl .nil)))) rfl rfl) (JO.alloc ZdB rfl fun b5=>(JO.m (Z2 rfl rfl qU qC qO Zdu) (by rfl) ?_));refine vP [0,2,3,5] ?_;refine Ja rfl (vS [0,2,3,5,6] ?_);apply yk
 repeat apply yQ
 refine J.loopF (α:=Nat) (fun k=>[(0,.is (.pointer (some ⟨b,0,none⟩))),(2,.is (.pointer (some ⟨b2,0,none⟩))),(3,.is (.pointer (some ⟨b3,0,none⟩))),(5,.is (.pointer (some ⟨b5,0,none⟩))),(6,.is (.int .i64 (k:Nat)))]) (fun k=>k<=4/\ ∀j,j<k->sq t.t (agN j)=false) (fun k=>4-k) 0 [0,2,3,5,6] (.cons rfl (.cons rfl (.cons rfl (.cons rfl (.cons rfl .nil))))) ⟨by omega,fun j hj=>by omega⟩ fun i ⟨hi,hno⟩=>?_;refine vQ ?_;refine Jm rfl (Jq (Z10 rfl rfl) (vS [0,2,3,5,6,93] ?_));refine yC rfl (fun ht93=>?_) (fun ht93=>?_)
 try simp only[yd,yf]at ht93
 apply yK;refine vN ?_;apply yk
 repeat apply yQ
 refine J.reg0 hmx qK qK ?_;refine yz (Z0 Z1x rfl) (yz (Z5 Zr rfl rfl) (yz (Z1 rfl) (yz (Z51 (m:=4) (e:=ZJ) (sz:=1) qK qK rfl rfl qM qM) ?_)));refine yz (Z5 Zr rfl (Zii (i:=i) qM)) ?_;refine yz (Z2g rfl rfl) ?_;apply yn;refine FinS.nil0 ?_;refine vS [0,2,3,5,6,101] ?_;refine yC rfl (fun ht101=>?_) (fun ht101=>?_);have hqi:sq t.t (agN i)=true:=by rw[<-Z2D];exact ht101
 have hag:=Zir qM hno hqi;refine vQ ?_;refine Jm rfl ?_;refine JO.callK (Lr:=[_,_,_]) (Zh T b0 o0 ha h9 b _ ?hs _ 5 qD s_lp) rfl qP qF qA ?_
 case hs=>exact hr
 intro y hy;refine vD ?_;refine vP [0,2,6] ?_;refine Jm rfl (Jq (Zv (cc:=20+(i:Int)) rfl rfl rfl qM qM) ?_);refine Jq (Zd (cs:=[_,_,_,_,_,_,_,_]) Z1a (.cons rfl .nil) rfl rfl) (JO.alloc Z14 rfl fun b7=>(JO.m (Z2 rfl rfl qU qC qO Zc) (by rfl) ?_));refine vS [0,2,6,7] ?_;refine J.front b (by repeat(first|exact .here|apply Front.there)) ?_;refine vQ ?_;refine Jm rfl (Jq (Z1r rfl rfl) (Jm rfl (JO.tg rfl rfl rfl rfl rfl (fun hg=>Z1 (.inl rfl)) ?_)));refine JO.gcallH (g:=2) (s:=109) (b:=false) (cc:=decide ((0:Int)<(i:Int))) (T:=.is (.bool (isRB 5 Z1g y.2.1 y.2.2))) (o2:=RB T b (gsk i y.2.1 y.2.2) y.2.2) rfl rfl rfl rfl (fun e=>by rw[gsk,if_pos (by simp at e;omega)]) (fun e hn=>?_) ?_
 · have hn0:gsk i y.2.1 y.2.2=skRB 5 Z1g y.2.1 y.2.2:=if_neg (by simp at e;omega)
   rw[hn0]at hn;exact JO.callKG (Lr:=_) e (ZZ T b0 o0 ha h9 b y.2.1 (hy.suf.trans hr) y.2.2 Z1g) rfl (.refl _) qF (.one (qR rfl) (.one (.inl rfl) .nil)) (fun _ _=>hn)
 refine JO.tg rfl rfl rfl rfl rfl (fun hg=>Z22 (qR rfl)) ?_;refine Jq (Zw rfl rfl rfl id) (vS [0,2,7,113] ?_);refine yC rfl (fun ht113=>?_) (fun ht113=>?_);have hgs:gsk i y.2.1 y.2.2=y.2.1:=by unfold gsk;by_cases h:0<i;exact if_pos h;(rw[if_neg h];exact Z19 (by simp at ht113;rcases ht113 with h1|h1;omega;exact h1))
 rw[hgs];refine vQ ?_;refine Jm rfl (JO.callK (Lr:=_) (hX y.2.1 y.2.2 (hy.suf.trans hr) (by have:=hy.suf.length_le;simp;omega)) rfl (.refl _) qF qA ?_);intro z hz;refine vD ?_;refine Jq (Z1T Zy rfl) (JO.open_ (s:=116) (R:=ExsR [z.1]) rfl ?_);rintro _ ⟨_,a116,l116,q116,rfl,_⟩;refine JO.fact (KidsR [z.1] a116 l116) (fun X w hf _ w' hk=>by obtain⟨a,len,cap,e,h⟩:=hf (ExsR [z.1] (.slice a116 l116 q116)) qI w' hk;injection e with e1 e2 e3;subst e1 e2;exact h) ?_;refine Jq (Z0 Z3v rfl) (JO.m (Z9 (cs':=[_,_,_,_,_,_,_,_]) rfl rfl qU rfl rfl rfl rfl Z1I) (by rfl) ?_);refine vS [0,2,7] ?_
 first|(have hz1:z.2.1<:+y.2.1:=(hz (y.2.1.length+1) qM).suf)|(have hgs:isRB 5 Z1g y.2.1 y.2.2=true/\i=0:=(by rw[Bool.or_eq_false_iff,decide_eq_false_iff_not,Bool.not_eq_false']at ht113;exact⟨ht113.2,by omega⟩);obtain⟨hst,rfl⟩:=hgs;rw[show gsk 0 y.2.1 y.2.2=y.2.1.tail from Z1e hst])
 refine vQ ?_;refine Jm rfl ?_;refine JO.callK (Lr:=_) (Zh T b0 o0 ha h9 b _ ?hs _ 5 qD s_rp) rfl (.refl _) qF qA ?_
 case hs=>first|exact hz1.trans (hy.suf.trans hr)|exact Z3X.trans (hy.suf.trans hr)|exact(List.tail_suffix _).trans (hy.suf.trans hr)
 intro x hx;refine vD ?_;refine vP [2,7] ?_;refine Jq (ZU (cs:=[_,_,_,_,_,_,_,_]) Z8 rfl rfl rfl) (JO.m (Z2 rfl rfl qU (by exact Zb rfl rfl) (by first|exact Zb rfl rfl|exact ZF) Zc) (by rfl) ?_);refine vS [2] ?_;refine vR ?_;refine JX.retLCs (Lr:=[_,_,_,_]) rfl (nd (20+(i:Int)) [z.1],x.2.1,x.2.2) ?_ qP rfl rfl hb0 rfl Z8 HasOwn.mem (ZQ rfl) (Sub.exMk qI);intro n hn;refine Z3o ht9 h0 ?_;unfold facR;rw[if_neg (by rw[ht30];decide),if_neg (by rw[ht38];decide),if_neg (by rw[ht46];decide),if_neg (by rw[hqT];decide),if_neg (by rw[hqF];decide),if_neg (by rw[hqN];decide),if_neg (by rw[hlp];decide)];rw[hag];refine hy.bind ?_;dsimp only;refine Rv.ite_fc (fun hc=>?_) ((hz n (by have:=hy.suf.length_le;simp at hn;omega)).bind (Rv.map hx rfl));simp only[Bool.and_eq_true,beq_iff_eq]at hc;have hi0: ¬0<i:=by omega
 have hstar:isRB 5 Z1g y.2.1 y.2.2=false:=by simp[hi0]at ht113;exact ht113
 cases hb:y.2.2 with
 |true=>rfl
 |false=>rw[hb]at hstar;unfold isRB at hstar;rw[hc.2]at hstar;cases hstar
 apply yK
 repeat first|apply yX|apply yB
 first|(have hz1:z.2.1<:+y.2.1:=(hz (y.2.1.length+1) qM).suf)|(have hgs:isRB 5 Z1g y.2.1 y.2.2=true/\i=0:=(by rw[Bool.or_eq_false_iff,decide_eq_false_iff_not,Bool.not_eq_false']at ht113;exact⟨ht113.2,by omega⟩);obtain⟨hst,rfl⟩:=hgs;rw[show gsk 0 y.2.1 y.2.2=y.2.1.tail from Z1e hst])
 refine vQ ?_;refine Jm rfl ?_;refine JO.callK (Lr:=_) (Zh T b0 o0 ha h9 b _ ?hs _ 5 qD s_rp) rfl (.refl _) qF qA ?_
 case hs=>first|exact hz1.trans (hy.suf.trans hr)|exact Z3X.trans (hy.suf.trans hr)|exact(List.tail_suffix _).trans (hy.suf.trans hr)
 intro x hx;refine vD ?_;refine vP [2,7] ?_;refine Jq (ZU (cs:=[_,_,_,_,_,_,_,_]) Z8 rfl rfl rfl) (JO.m (Z2 rfl rfl qU (by exact Zb rfl rfl) (by first|exact Zb rfl rfl|exact ZF) Zc) (by rfl) ?_);refine vS [2] ?_;refine vR ?_;refine JX.retLCs (Lr:=[_,_,_,_]) rfl (nd 20 [],x.2.1,x.2.2) ?_ qP rfl rfl hb0 rfl Z8 HasOwn.mem (ZQ rfl) Sub.leaf0;intro n hn;refine Z3o ht9 h0 ?_;unfold facR;rw[if_neg (by rw[ht30];decide),if_neg (by rw[ht38];decide),if_neg (by rw[ht46];decide),if_neg (by rw[hqT];decide),if_neg (by rw[hqF];decide),if_neg (by rw[hqN];decide),if_neg (by rw[hlp];decide)];rw[hag];refine hy.bind ?_;dsimp only;rw[if_pos (by rw[(Z2p hst).2];rfl)];exact Rv.up_tail (Rv.map hx rfl);apply yK
 repeat first|apply yX|apply yB
 have hqi:sq t.t (agN i)=false:=by rw[<-Z2D];exact ht101
 refine vQ ?_;refine Jm rfl (Jq (Zv (cc:=((i+1:Nat):Int)) rfl rfl qM qM qM) ?_);refine Ja rfl ?_;apply yI
 repeat refine JX.normal_block ?_
 refine JX.roundS (i+1) ?_ ?_ [0,2,3,5,6] ?_ ?_ ?_
 · exact⟨by omega,fun j hj=>by rcases Nat.lt_succ_iff_lt_or_eq.1 hj with h|rfl;exact hno j h;exact hqi⟩
 · exact qM
 · exact qS
 · exact qB
 · exact qB
 try simp only[yd,yf]at ht93
 repeat apply yQ
 refine J.exit ?_
 repeat first|refine yH ?_|refine yM rfl ?_|refine yE ?_
 repeat first|apply yX|apply yB
 have hag:aggK t.t=none:=Zh5 (fun j hj=>hno j qM);refine vQ ?_;refine Jm rfl (Jq (Z4 rfl) (Jq (Z0 Ze rfl) (JO.m (Z9 (cs':=[_,_,_]) rfl rfl qU rfl rfl rfl rfl Z1A) (by rfl) ?_)));refine vP [2] ?_;refine Jq (Zd (cs:=[_,_,_,_,_,_,_,_]) Z1a .nil rfl rfl) (JO.m (Z2 rfl rfl qU (by exact Zb rfl rfl) (by first|exact Zb rfl rfl|exact ZF) Zc) (by rfl) ?_);refine vS [2] ?_;refine vR ?_;refine JX.retLCs (Lr:=[_,_,_]) rfl (ex0,r,true) ?_ qP rfl rfl hb0 rfl Z8 HasOwn.mem (ZQ rfl) Sub.leaf0;intro n hn;refine Z3o ht9 h0 ?_;unfold facR;rw[if_neg (by rw[ht30];decide),if_neg (by rw[ht38];decide),if_neg (by rw[ht46];decide),if_neg (by rw[hqT];decide),if_neg (by rw[hqF];decide),if_neg (by rw[hqN];decide),if_neg (by rw[hlp];decide)];rw[hag];exact Rv.none _
theorem Zen{P:Program}{L:List Own}{Φ:List (World->Prop)}{H:Know}{dst:Option Nat}{ty:TypeId}{pos:String}{after:Array Edge}{g:Option (Nat×Bool)}{t:Operand}{a b:Value}(h:H t (.is (.tuple #[a,b]))):Ob P L Φ H ⟨dst,.extract t 0,ty,pos,after,g⟩ (.is a):=Z20 fun E w ρ hp=>by
 have e:ρ t= .tuple #[a,b]:=hp.x t _ (by simp[Op.operands]) h
 simp[execOp,e,Instr.extract]
theorem ZdP{P:Program}{L:List Own}{Φ:List (World->Prop)}{H:Know}{dst:Option Nat}{ty:TypeId}{pos:String}{after:Array Edge}{g:Option (Nat×Bool)}{t:Operand}{a b:Value}(h:H t (.is (.tuple #[a,b]))):Ob P L Φ H ⟨dst,.extract t 1,ty,pos,after,g⟩ (.is b):=Z20 fun E w ρ hp=>by
 have e:ρ t= .tuple #[a,b]:=hp.x t _ (by simp[Op.operands]) h
 simp[execOp,e,Instr.extract]
theorem Z8K{k:Int}{s:ByteArray}{us:List T3}:skRB k s us false=skT k s us:=by unfold skRB isRB skT;rw[Bool.not_false,Bool.true_and]
abbrev gnk(p:Bool)(s:ByteArray)(vs:List T3)(bd:Bool):List T3:=if p then skRB 1 s vs bd else vs
structure InvX (l:Int) (us:List T3) (bad:Bool) (x:Ex) (vs:List T3) (bd c:Bool):Prop where
 suf:vs<:+us
 fin: ∀n,us.length<=n->∀y,Rv (loopC (exprR n) l x c vs) vs bd y->Rv (exprR (n+1) l us) us bad y
theorem InvX.fac{l:Int}{us:List T3}{bad:Bool}{z:Ex×List T3×Bool}(h:(decide (l<3)&&isRB 1 Z1d us bad)=false)(hz: ∀n,us.length<=n->Rv (factorR (exprR n 0) us) us bad z):InvX l us bad z.1 z.2.1 z.2.2 false:=by
 refine⟨(hz us.length (Nat.le_refl _)).suf,fun n hn y hy=>?_⟩;rw[exprR];refine Rv.ite_fc (fun hc=>?_) ((hz n hn).bind hy);simp only[Bool.and_eq_true]at hc;rw[hc.1,Bool.true_and]at h;cases hb:bad with
 |true=>rfl
 |false=>rw[hb]at h;unfold isRB at h;rw[hc.2]at h;cases h
theorem InvX.not{l:Int}{us:List T3}{bad:Bool}{z:Ex×List T3×Bool}(h:(decide (l<3)&&isRB 1 Z1d us bad)=true)(hz: ∀n,us.tail.length<n->Rv (exprR n 2 us.tail) us.tail bad z):InvX l us bad (nd 4 [z.1]) z.2.1 z.2.2 true:=by
 rw[Bool.and_eq_true]at h;have hl:=(ZG (Z2p h.2).2).2;refine⟨(hz (us.tail.length+1) qM).suf.trans (List.tail_suffix us),fun n hn y hy=>?_⟩;rw[exprR];dsimp only;rw[if_pos (by rw[h.1,(Z2p h.2).2];rfl)];exact Rv.up_tail ((hz n qM).bind hy)
theorem Zce{vs:List T3}(h:(0:Int)<(binR vs).1):vs≠[]:=fun e=>by subst e;exact absurd h qD
theorem InvX.bin{l:Int}{us vs:List T3}{bad c:Bool}{x:Ex}(hI:InvX l us bad x vs false c)(h:((decide (0<(binR vs).1)&&decide (l<(binR vs).2))&& !(c&&decide (4<=(binR vs).2)))=true){z:Ex×List T3×Bool}(hz: ∀n,vs.tail.length<n->Rv (exprR n (binR vs).2 vs.tail) vs.tail false z):InvX l us bad (nd (binR vs).1 [x,z.1]) z.2.1 z.2.2 (c||decide ((binR vs).2<=4)):=by
 have h1:=hz (vs.tail.length+1) qM;refine⟨(h1.suf.trans (List.tail_suffix vs)).trans hI.suf,fun n hn y hy=>hI.fin n hn y ?_⟩;have hne:vs≠[]:=Zce (by simp only[Bool.and_eq_true,decide_eq_true_eq]at h;exact h.1.1);have h2:0<vs.length:=List.length_pos_iff.2 hne;have h3:=hI.suf.length_le;rw[Z3I (Z5g n),if_pos h];exact Rv.up_tail ((hz n (by rw[List.length_tail];omega)).bind hy)
theorem InvX.is{l:Int}{us vs:List T3}{bad c:Bool}{x:Ex}(hI:InvX l us bad x vs false c)(h:((decide (0<(binR vs).1)&&decide (l<(binR vs).2))&& !(c&&decide (4<=(binR vs).2)))=false)(h2:(((((binR vs).1==0)&&decide (l<4))&& !c)&&isRB 1 w_IS vs false)=true){k:Int}(hk:k=if isT 1 Z1d vs.tail then 19 else 18){y:Unit×List T3×Bool}(hy:Rv (wantP 1 Z1M (skT 1 Z1d vs.tail)) (skT 1 Z1d vs.tail) false y):InvX l us bad (nd k [x]) y.2.1 y.2.2 true:=by
 have hs:skT 1 Z1d vs.tail<:+vs:=(Z2o _ _ _).trans (List.tail_suffix vs);refine⟨(hy.suf.trans hs).trans hI.suf,fun n hn q hq=>hI.fin n hn q ?_⟩;rw[Z3I (Z5g n),if_neg (by rw[h];decide),if_pos (by simpa [isRB] using h2),<-hk];have h4:Rv ((wantP 1 Z1M (skT 1 Z1d vs.tail)).bind fun v=>loopC (exprR n) l (nd k [x]) true v.2) (skT 1 Z1d vs.tail) false q:=hy.bind hq;exact⟨h4.1.trans hs,h4.2.1,h4.2.2⟩
theorem InvX.stop{l:Int}{us vs:List T3}{bad c:Bool}{x:Ex}(hI:InvX l us bad x vs false c)(h:((decide (0<(binR vs).1)&&decide (l<(binR vs).2))&& !(c&&decide (4<=(binR vs).2)))=false)(h2:(((((binR vs).1==0)&&decide (l<4))&& !c)&&isRB 1 w_IS vs false)=false): ∀n,us.length<n->Rv (exprR n l us) us bad (x,vs,false):=fun n hn=>by
 obtain⟨m,rfl⟩: ∃m,n=m+1:=⟨n-1,by omega⟩;refine hI.fin m qM _ ?_;rw[Z3I (Z5g m),if_neg (by rw[h];decide),if_neg (by have h3:(((((binR vs).1==0)&&decide (l<4))&& !c)&&isT 1 w_IS vs)=false:=(by simpa [isRB] using h2);rw[h3];decide)];exact Rv.pure x
theorem InvX.bad'{l:Int}{us vs:List T3}{bad c:Bool}{x:Ex}(hI:InvX l us bad x vs true c): ∀n,us.length<n->Rv (exprR n l us) us bad (x,vs,true):=fun n hn=>by
 obtain⟨m,rfl⟩: ∃m,n=m+1:=⟨n-1,by omega⟩;exact hI.fin m qM _ (Rv.badly (List.suffix_refl _) x)
set_option maxHeartbeats 1000000 in
theorem Z6s(T:Rk)(b0 o0:Nat)(ha:T.ts.length≠0->T.ad=some ⟨b0,o0,none⟩)(h9:T.ts.length<=2049)(b:Nat)(us:List T3)(hus:us<:+T.ts)(bad:Bool)(l:Int)(hX: ∀vs bd k,vs<:+T.ts->vs.length<us.length->EC T b vs bd k)(hF:FK T b us bad):CallL Tryz.prog Z2W [RB T b us bad] [T.G] [.is (.pointer (some ⟨b,0,none⟩)),.is (.int .i64 l)] (fun z:Ex×List T3×Bool=>∀n,us.length<n->Rv (exprR n l us) us bad z) (fun z=>[RB T b z.2.1 z.2.2]) (fun z=>.rep (ExR z.1)):=
CallL.of (fn:=Tryz.f77) Tryz.func77 (n:=92) rfl rfl rfl (fun _ _=>by kernel_rfl) fun E W hb0=>by
 refine vQ ?_;refine JO.alloc Z14 rfl fun b4=>(vP [0,1,4] ?_);refine Jq (Zd (cs:=[_,_,_,_,_,_,_,_]) Z1a .nil rfl rfl) (JO.alloc Z14 rfl fun b5=>(JO.m (Z2 rfl rfl qU qC qO Zc) (by rfl) ?_));refine vP [0,1,4,5] ?_;refine Ja rfl (vS [0,1,4,5,6] ?_);refine J.front b (by repeat(first|exact .here|apply Front.there)) ?_;refine vQ ?_;refine Jm rfl (Jq (Z10 rfl rfl) (Jm rfl (JO.tg rfl rfl rfl rfl rfl (fun hg=>Z1 (.inl rfl)) ?_)));refine JO.gcallH (g:=2) (s:=14) (b:=true) (cc:=decide (l<3)) (T:=.is (.bool (isRB 1 Z1d us bad))) (o2:=RB T b (gnk (decide (l<3)) Z1d us bad) bad) rfl rfl rfl rfl (fun e=>by rw[gnk,if_neg e]) (fun e hn=>?_) ?_
 · have hn0:gnk (decide (l<3)) Z1d us bad=skRB 1 Z1d us bad:=if_pos e
   rw[hn0]at hn;exact JO.callKG (Lr:=_) e (Zg T b0 o0 ha h9 b us (hus) bad Z1d) rfl (.refl _) qF (.one (qR rfl) (.one (.inl rfl) .nil)) (fun _ _=>hn)
 refine Jq (Zl rfl rfl rfl id) (vS [0,1,4,5,6,17] ?_);refine yC rfl (fun ht17=>?_) (fun ht17=>?_);have hN:isRB 1 Z1d us bad=true:=(Bool.and_eq_true _ _ ▸ ht17).2;rw[show gnk (decide (l<3)) Z1d us bad=us.tail by rw[gnk,if_pos (Bool.and_eq_true _ _ ▸ ht17).1];exact Z1e hN];refine vQ ?_;refine Jm rfl (JO.callK (Lr:=_) (hX us.tail bad 2 ((List.tail_suffix us).trans hus) (ZG (Z2p hN).2).2) rfl (.refl _) qF qA ?_);intro z hz;refine vD ?_;refine Jq (Z1T Zy rfl) (JO.open_ (s:=20) (R:=ExsR [z.1]) rfl ?_);rintro _ ⟨_,a20,l20,q20,rfl,_⟩;refine JO.fact (KidsR [z.1] a20 l20) (fun X w hf _ w' hk=>by obtain⟨a,len,cap,e,h⟩:=hf (ExsR [z.1] (.slice a20 l20 q20)) qI w' hk;injection e with e1 e2 e3;subst e1 e2;exact h) ?_;refine Jq (Zd (cs:=[_,_,_,_,_,_,_,_]) Z1a (.cons rfl (.cons rfl .nil)) rfl rfl) (JO.m (Z2 rfl rfl qU qC qO Zc) (by rfl) ?_);refine JO.coerO (b:=b5) (T':=.rep (ExR (nd 4 [z.1]))) qU (Sub.exMk qI) ?_;refine vP [0,1,4,5] ?_;refine Ja rfl (vS [0,1,4,5,6] ?_);apply yk
 repeat apply yQ
 refine J.loopG (α:=Ex×List T3×Bool×Bool) (fun s=>[(0,.is (.pointer (some ⟨b,0,none⟩))),(1,.is (.int .i64 l)),(4,.is (.pointer (some ⟨b4,0,none⟩))),(5,.is (.pointer (some ⟨b5,0,none⟩))),(6,.is (.bool s.2.2.2))]) (fun s=>[RB T b s.2.1 s.2.2.1,⟨b5,Z7,.rep (ExR s.1)⟩,⟨b4,Z7,.is (.agg #[.int .i64 0,.int .i64 0,.int .i64 0,.string ⟨#[]⟩,.string ⟨#[]⟩,.string ⟨#[]⟩,.int .i64 0,.slice none 0 0])⟩]) (fun s=>fun _=>True) (fun s=>InvX l us bad s.1 s.2.1 s.2.2.1 s.2.2.2) (fun s=>s.2.1.length) (_,z.2.1,z.2.2,_) [0,1,4,5,6] (.cons rfl (.cons rfl (.cons rfl (.cons rfl (.cons rfl .nil))))) rfl (fun _=>trivial) (by first|exact InvX.not ht17 hz|exact InvX.fac ht17 hz) fun⟨x,vs,bd,c⟩ hI=>?_;try dsimp only
 try dsimp only at hI
 refine vQ ?_;refine Jm rfl (Jq (Z4 rfl) (Jq (Z0 Ze rfl) (Jq (Z5 Z1O rfl rfl) (Jq (Z22 rfl) (vS [0,1,4,5,6,28] ?_)))));refine yC rfl (fun ht28=>?_) (fun ht28=>?_);apply yK;refine vN ?_;apply yk;obtain rfl:bd=false:=by simpa using ht28
 refine vQ ?_;refine Jm rfl (JO.callK (Lr:=_) (Z4G T b0 o0 ha h9 b vs (hI.suf.trans hus)) rfl (.refl _) qF qA ?_);intro _ _;refine vD ?_;refine Jm rfl (Jq (Zen rfl) (Jq (ZdP rfl) (Ja rfl (Ja rfl (vP [0,1,4,5,6,7,8] ?_)))));refine Jm rfl (Jq (Z1r rfl rfl) (Jm rfl (JO.tg rfl rfl rfl rfl rfl (fun hg=>Z1 (.inl rfl)) (JO.tg rfl rfl rfl rfl rfl (fun hg=>Z1 (.inl rfl)) (JO.tg rfl rfl rfl rfl rfl (fun hg=>Z1r (qR rfl) (qR rfl)) ?_)))));refine Jq (Zl rfl rfl rfl id) (Jm rfl (JO.tg rfl rfl rfl rfl rfl (fun hg=>Z1 (.inl rfl)) (JO.tg rfl rfl rfl rfl rfl (fun hg=>Z1 (qR rfl)) ?_)));refine JO.tgg rfl rfl rfl rfl rfl (fun hg=>Z1 (.inl rfl)) (JO.tgg rfl rfl rfl rfl rfl (fun hg=>Z47 (qR rfl) (.inl rfl)) ?_);refine JO.tg rfl rfl rfl rfl rfl (fun hg=>Zl (qR rfl) (.inl rfl) (.inl rfl) (fun h=>⟨hg,h⟩)) ?_;refine JO.tg rfl rfl rfl rfl rfl (fun hg=>Z22 (qR rfl)) ?_;refine Jq (Zl rfl rfl rfl id) (vS [0,1,4,5,6,7,8,48] ?_);refine yC rfl (fun ht48=>?_) (fun ht48=>?_);have hne:vs≠[]:=Zce (by simp only[Bool.and_eq_true,decide_eq_true_eq]at ht48;exact ht48.1.1);have hlt:=Z9W (hI.suf.trans hus) hne;have hkt:=Z5K (hI.suf.trans hus) hne;refine vQ ?_;refine Jm rfl (Jq (Z4 rfl) (Jq (Z0 ZK rfl) (Jq (Z5 Zx rfl rfl) (Jq (Zv (cc:=(T.k vs.tail:Nat)) rfl rfl (inRK (hI.suf.trans hus) hne) qM qM) ?_))));refine Jq (Z4 rfl) (Jq (Z0 ZK rfl) (JO.m (Z9 (cs':=[_,_,_]) rfl rfl qU rfl rfl rfl rfl Z29) (by rfl) ?_));refine vP [0,1,4,5,6,7,8] ?_;refine Jm rfl (Jm rfl (JO.callK (Lr:=_) (hX vs.tail false (binR vs).2 ((List.tail_suffix vs).trans (hI.suf.trans hus)) (by have:=hI.suf.length_le;have:=List.length_pos_iff.2 hne;rw[List.length_tail];omega)) rfl (.refl _) qF qA ?_));intro z2 hz2;refine vD ?_;refine JO.alloc Z14 rfl fun b9=>(JO.m (Z2 rfl rfl qU qC qO Zc) (by rfl) ?_);refine vP [0,1,4,5,6,7,8,9] ?_;refine Jm rfl (Jq (Z1J Z8 rfl) (Jq (Z1J Z8 rfl) (Jq (Z68 Zy rfl rfl) (JO.open_ (s:=62) (R:=ExsR [x,z2.1]) rfl ?_))));rintro _ ⟨_,a62,l62,q62,rfl,_⟩;refine JO.fact (KidsR [x,z2.1] a62 l62) (fun X w hf _ w' hk=>by obtain⟨a,len,cap,e,h⟩:=hf (ExsR [x,z2.1] (.slice a62 l62 q62)) qI w' hk;injection e with e1 e2 e3;subst e1 e2;exact h) ?_;refine Jq (Zd (cs:=[_,_,_,_,_,_,_,_]) Z1a (.cons rfl (.cons rfl .nil)) rfl rfl) (JO.m (Z2 rfl rfl qU qC qO Zc) (by rfl) ?_);refine JO.coerO (b:=b5) (T':=.rep (ExR (nd (binR vs).1 [x,z2.1]))) qU (Sub.exMk qI) ?_;refine vP [0,1,4,5,6,8] ?_;refine Jm rfl (Jm rfl (JO.tg rfl rfl rfl rfl rfl (fun hg=>Z1 (.inl rfl)) (JO.tg rfl rfl rfl rfl rfl (fun hg=>Z4s (qR rfl) (.inl rfl)) ?_)));refine Jq (Zw rfl rfl rfl id) (Ja rfl (vS [0,1,4,5,6] ?_));refine J.exit ?_
 repeat first|refine yH ?_|refine yM rfl ?_|refine yE ?_
 repeat first|apply yX|apply yB
 repeat refine JX.normal_block ?_
 refine JX.roundG (x:=(x,vs,false,c)) (nd (binR vs).1 [x,z2.1],z2.2.1,z2.2.2,c||decide ((binR vs).2<=4)) ?_ ?_ [0,1,4,5,6] ?_ ?_ ?_ ?_
 · exact hI.bin ht48 hz2
 · exact(by have h1:=(hz2 (vs.tail.length+1) qM).suf.length_le;have h2:=List.length_pos_iff.2 hne;rw[List.length_tail]at h1;show z2.2.1.length<vs.length;omega)
 · exact qS
 · exact qH
 · exact qG
 · exact fun _ _ _=>fun _ _=>trivial
 apply yK;refine vN ?_;apply yN;refine Jm rfl (Jq (ZP rfl rfl) (Jm rfl (JO.tg rfl rfl rfl rfl rfl (fun hg=>Z1 (.inl rfl)) (JO.tg rfl rfl rfl rfl rfl (fun hg=>Z10 (qR rfl) (.inl rfl)) ?_))));refine Jq (Zl rfl rfl rfl id) (Jm rfl (JO.tg rfl rfl rfl rfl rfl (fun hg=>Z1 (.inl rfl)) (JO.tg rfl rfl rfl rfl rfl (fun hg=>Z22 (qR rfl)) ?_)));refine Jq (Zl rfl rfl rfl id) (Jm rfl (JO.tg rfl rfl rfl rfl rfl (fun hg=>Z1 (.inl rfl)) ?_));refine JO.gcallH (g:=10) (s:=79) (b:=true) (cc:=(((binR vs).1==0)&&decide (l<4))&& !c) (T:=.is (.bool (isRB 1 w_IS vs false))) (o2:=RB T b (gnk ((((binR vs).1==0)&&decide (l<4))&& !c) w_IS vs false) false) rfl rfl rfl rfl (fun e=>by rw[gnk,if_neg e]) (fun e hn=>?_) ?_
 · have hn0:gnk ((((binR vs).1==0)&&decide (l<4))&& !c) w_IS vs false=skRB 1 w_IS vs false:=if_pos e
   rw[hn0]at hn;exact JO.callKG (Lr:=_) e (Zg T b0 o0 ha h9 b vs (hI.suf.trans hus) false w_IS) rfl (.refl _) qF (.one (qR rfl) (.one (.inl rfl) .nil)) (fun _ _=>hn)
 refine Jq (Zl rfl rfl rfl id) (vS [0,1,4,5,82] ?_);refine yC rfl (fun ht82=>?_) (fun ht82=>?_);have hS:isRB 1 w_IS vs false=true:=(Bool.and_eq_true _ _ ▸ ht82).2;rw[show gnk ((((binR vs).1==0)&&decide (l<4))&& !c) w_IS vs false=vs.tail by rw[gnk,if_pos (Bool.and_eq_true _ _ ▸ ht82).1];exact Z1e hS];refine vQ ?_;refine Ja rfl (vP [0,1,4,5,10] ?_);refine Jm rfl ?_;refine JO.callK (Lr:=_) (Zg T b0 o0 ha h9 b _ ?hs _ Z1d) rfl (.refl _) qF qA ?_
 case hs=>exact(List.tail_suffix vs).trans (hI.suf.trans hus)
 intro _ _;refine vD ?_;refine vS [0,1,4,5,10,84] ?_;refine yC rfl (fun ht84=>?_) (fun ht84=>?_);refine vQ ?_;refine Ja rfl (vP [0,1,4,5,10] ?_);refine Jm rfl ?_;refine JO.callK (Lr:=_) (Zh T b0 o0 ha h9 b _ ?hs _ 1 qD Z1M) rfl (.refl _) qF qA ?_
 case hs=>exact(Z3X.trans (List.tail_suffix vs)).trans (hI.suf.trans hus)
 intro y hy;refine vD ?_;refine vS [0,1,4,5,10] ?_;rw[Z8K]at hy;refine vQ ?_;refine Jm rfl (Jq (Z1J Z8 rfl) (Jq (Z1T Zy rfl) (JO.open_ (s:=89) (R:=ExsR [x]) rfl ?_)));rintro _ ⟨_,a89,l89,q89,rfl,_⟩;refine JO.fact (KidsR [x] a89 l89) (fun X w hf _ w' hk=>by obtain⟨a,len,cap,e,h⟩:=hf (ExsR [x] (.slice a89 l89 q89)) qI w' hk;injection e with e1 e2 e3;subst e1 e2;exact h) ?_;refine Jq (Zd (cs:=[_,_,_,_,_,_,_,_]) Z1a (.cons rfl (.cons rfl .nil)) rfl rfl) (JO.m (Z2 rfl rfl qU qC qO Zc) (by rfl) ?_);refine JO.coerO (b:=b5) (T':=.rep (ExR (nd _ [x]))) qU (Sub.exMk qI) ?_;refine vP [0,1,4,5] ?_;refine Ja rfl (vS [0,1,4,5,6] ?_);refine J.exit ?_
 repeat first|refine yH ?_|refine yM rfl ?_|refine yE ?_
 repeat first|apply yX|apply yB
 repeat refine JX.normal_block ?_
 refine JX.roundG (x:=(x,vs,false,c)) (nd 19 [x],y.2.1,y.2.2,true) ?_ ?_ [0,1,4,5,6] ?_ ?_ ?_ ?_
 · exact hI.is ht48 ht82 (by rw[if_pos (Z2p ht84).2]) hy
 · exact(by have h1:=(hy.suf.trans (Z2o _ _ _)).length_le;have h2:=(ZG (Z2p hS).2).2;show y.2.1.length<vs.length;omega)
 · exact qS
 · exact qH
 · exact qG
 · exact fun _ _ _=>fun _ _=>trivial
 apply yK;refine vN ?_;apply yN;refine Jm rfl ?_;refine JO.callK (Lr:=_) (Zh T b0 o0 ha h9 b _ ?hs _ 1 qD Z1M) rfl (.refl _) qF qA ?_
 case hs=>exact(Z3X.trans (List.tail_suffix vs)).trans (hI.suf.trans hus)
 intro y hy;refine vD ?_;refine vS [0,1,4,5,10] ?_;rw[Z8K]at hy;refine vQ ?_;refine Jm rfl (Jq (Z1J Z8 rfl) (Jq (Z1T Zy rfl) (JO.open_ (s:=89) (R:=ExsR [x]) rfl ?_)));rintro _ ⟨_,a89,l89,q89,rfl,_⟩;refine JO.fact (KidsR [x] a89 l89) (fun X w hf _ w' hk=>by obtain⟨a,len,cap,e,h⟩:=hf (ExsR [x] (.slice a89 l89 q89)) qI w' hk;injection e with e1 e2 e3;subst e1 e2;exact h) ?_;refine Jq (Zd (cs:=[_,_,_,_,_,_,_,_]) Z1a (.cons rfl (.cons rfl .nil)) rfl rfl) (JO.m (Z2 rfl rfl qU qC qO Zc) (by rfl) ?_);refine JO.coerO (b:=b5) (T':=.rep (ExR (nd _ [x]))) qU (Sub.exMk qI) ?_;refine vP [0,1,4,5] ?_;refine Ja rfl (vS [0,1,4,5,6] ?_);refine J.exit ?_
 repeat first|refine yH ?_|refine yM rfl ?_|refine yE ?_
 repeat first|apply yX|apply yB
 repeat refine JX.normal_block ?_
 refine JX.roundG (x:=(x,vs,false,c)) (nd 18 [x],y.2.1,y.2.2,true) ?_ ?_ [0,1,4,5,6] ?_ ?_ ?_ ?_
 · exact hI.is ht48 ht82 (by rw[if_neg (by have h:=ht84;simpa [isRB] using h)]) hy
 · exact(by have h1:=(hy.suf.trans (Z2o _ _ _)).length_le;have h2:=(ZG (Z2p hS).2).2;show y.2.1.length<vs.length;omega)
 · exact qS
 · exact qH
 · exact qG
 · exact fun _ _ _=>fun _ _=>trivial
 apply yK;refine vN ?_;refine J.exit ?_
 repeat first|refine yH ?_|refine yM rfl ?_|refine yE ?_
 repeat first|apply yX|apply yB
 first|(obtain rfl:bd=true:=by simpa using ht28)|(rw[show gnk ((((binR vs).1==0)&&decide (l<4))&& !c) w_IS vs false=vs by unfold gnk;split;(rename_i hp;rw[hp,Bool.true_and]at ht82;exact Z19 ht82);rfl])
 refine vQ ?_;refine Jq (Z1J Z8 rfl) (JO.m (Z2 rfl rfl qU qC qO Zc) (by rfl) ?_);refine vS [4] ?_;refine vR ?_;refine JX.retLCs (Lr:=[_,_]) rfl (x,vs,false) ?_ qP rfl rfl hb0 rfl Z8 HasOwn.mem Z1E (Sub.refl _);intro n hn;exact hI.stop ht48 ht82 n hn
 repeat apply yQ
 refine J.exit ?_
 repeat first|refine yH ?_|refine yM rfl ?_|refine yE ?_
 repeat first|apply yX|apply yB
 first|(obtain rfl:bd=true:=by simpa using ht28)|(rw[show gnk ((((binR vs).1==0)&&decide (l<4))&& !c) w_IS vs false=vs by unfold gnk;split;(rename_i hp;rw[hp,Bool.true_and]at ht82;exact Z19 ht82);rfl])
 refine vQ ?_;refine Jq (Z1J Z8 rfl) (JO.m (Z2 rfl rfl qU qC qO Zc) (by rfl) ?_);refine vS [4] ?_;refine vR ?_;refine JX.retLCs (Lr:=[_,_]) rfl (x,vs,true) ?_ qP rfl rfl hb0 rfl Z8 HasOwn.mem Z1E (Sub.refl _);intro n hn;exact hI.bad' n hn;rw[show gnk (decide (l<3)) Z1d us bad=us by unfold gnk;split;(rename_i hp;rw[hp,Bool.true_and]at ht17;exact Z19 ht17);rfl];refine vQ ?_;refine Jm rfl (JO.callK (Lr:=_) (hF) rfl (.refl _) qF qA ?_);intro z hz;refine vD ?_;refine JO.m (Z2 rfl rfl qU qC qO Zc) (by rfl) ?_;refine vS [0,1,4,5,6] ?_;apply yk
 repeat apply yQ
 refine J.loopG (α:=Ex×List T3×Bool×Bool) (fun s=>[(0,.is (.pointer (some ⟨b,0,none⟩))),(1,.is (.int .i64 l)),(4,.is (.pointer (some ⟨b4,0,none⟩))),(5,.is (.pointer (some ⟨b5,0,none⟩))),(6,.is (.bool s.2.2.2))]) (fun s=>[RB T b s.2.1 s.2.2.1,⟨b5,Z7,.rep (ExR s.1)⟩,⟨b4,Z7,.is (.agg #[.int .i64 0,.int .i64 0,.int .i64 0,.string ⟨#[]⟩,.string ⟨#[]⟩,.string ⟨#[]⟩,.int .i64 0,.slice none 0 0])⟩]) (fun s=>fun _=>True) (fun s=>InvX l us bad s.1 s.2.1 s.2.2.1 s.2.2.2) (fun s=>s.2.1.length) (_,z.2.1,z.2.2,_) [0,1,4,5,6] (.cons rfl (.cons rfl (.cons rfl (.cons rfl (.cons rfl .nil))))) rfl (fun _=>trivial) (by first|exact InvX.not ht17 hz|exact InvX.fac ht17 hz) fun⟨x,vs,bd,c⟩ hI=>?_;try dsimp only
 try dsimp only at hI
 refine vQ ?_;refine Jm rfl (Jq (Z4 rfl) (Jq (Z0 Ze rfl) (Jq (Z5 Z1O rfl rfl) (Jq (Z22 rfl) (vS [0,1,4,5,6,28] ?_)))));refine yC rfl (fun ht28=>?_) (fun ht28=>?_);apply yK;refine vN ?_;apply yk;obtain rfl:bd=false:=by simpa using ht28
 refine vQ ?_;refine Jm rfl (JO.callK (Lr:=_) (Z4G T b0 o0 ha h9 b vs (hI.suf.trans hus)) rfl (.refl _) qF qA ?_);intro _ _;refine vD ?_;refine Jm rfl (Jq (Zen rfl) (Jq (ZdP rfl) (Ja rfl (Ja rfl (vP [0,1,4,5,6,7,8] ?_)))));refine Jm rfl (Jq (Z1r rfl rfl) (Jm rfl (JO.tg rfl rfl rfl rfl rfl (fun hg=>Z1 (.inl rfl)) (JO.tg rfl rfl rfl rfl rfl (fun hg=>Z1 (.inl rfl)) (JO.tg rfl rfl rfl rfl rfl (fun hg=>Z1r (qR rfl) (qR rfl)) ?_)))));refine Jq (Zl rfl rfl rfl id) (Jm rfl (JO.tg rfl rfl rfl rfl rfl (fun hg=>Z1 (.inl rfl)) (JO.tg rfl rfl rfl rfl rfl (fun hg=>Z1 (qR rfl)) ?_)));refine JO.tgg rfl rfl rfl rfl rfl (fun hg=>Z1 (.inl rfl)) (JO.tgg rfl rfl rfl rfl rfl (fun hg=>Z47 (qR rfl) (.inl rfl)) ?_);refine JO.tg rfl rfl rfl rfl rfl (fun hg=>Zl (qR rfl) (.inl rfl) (.inl rfl) (fun h=>⟨hg,h⟩)) ?_;refine JO.tg rfl rfl rfl rfl rfl (fun hg=>Z22 (qR rfl)) ?_;refine Jq (Zl rfl rfl rfl id) (vS [0,1,4,5,6,7,8,48] ?_);refine yC rfl (fun ht48=>?_) (fun ht48=>?_);have hne:vs≠[]:=Zce (by simp only[Bool.and_eq_true,decide_eq_true_eq]at ht48;exact ht48.1.1);have hlt:=Z9W (hI.suf.trans hus) hne;have hkt:=Z5K (hI.suf.trans hus) hne;refine vQ ?_;refine Jm rfl (Jq (Z4 rfl) (Jq (Z0 ZK rfl) (Jq (Z5 Zx rfl rfl) (Jq (Zv (cc:=(T.k vs.tail:Nat)) rfl rfl (inRK (hI.suf.trans hus) hne) qM qM) ?_))));refine Jq (Z4 rfl) (Jq (Z0 ZK rfl) (JO.m (Z9 (cs':=[_,_,_]) rfl rfl qU rfl rfl rfl rfl Z29) (by rfl) ?_));refine vP [0,1,4,5,6,7,8] ?_;refine Jm rfl (Jm rfl (JO.callK (Lr:=_) (hX vs.tail false (binR vs).2 ((List.tail_suffix vs).trans (hI.suf.trans hus)) (by have:=hI.suf.length_le;have:=List.length_pos_iff.2 hne;rw[List.length_tail];omega)) rfl (.refl _) qF qA ?_));intro z2 hz2;refine vD ?_;refine JO.alloc Z14 rfl fun b9=>(JO.m (Z2 rfl rfl qU qC qO Zc) (by rfl) ?_);refine vP [0,1,4,5,6,7,8,9] ?_;refine Jm rfl (Jq (Z1J Z8 rfl) (Jq (Z1J Z8 rfl) (Jq (Z68 Zy rfl rfl) (JO.open_ (s:=62) (R:=ExsR [x,z2.1]) rfl ?_))));rintro _ ⟨_,a62,l62,q62,rfl,_⟩;refine JO.fact (KidsR [x,z2.1] a62 l62) (fun X w hf _ w' hk=>by obtain⟨a,len,cap,e,h⟩:=hf (ExsR [x,z2.1] (.slice a62 l62 q62)) qI w' hk;injection e with e1 e2 e3;subst e1 e2;exact h) ?_;refine Jq (Zd (cs:=[_,_,_,_,_,_,_,_]) Z1a (.cons rfl (.cons rfl .nil)) rfl rfl) (JO.m (Z2 rfl rfl qU qC qO Zc) (by rfl) ?_);refine JO.coerO (b:=b5) (T':=.rep (ExR (nd (binR vs).1 [x,z2.1]))) qU (Sub.exMk qI) ?_;refine vP [0,1,4,5,6,8] ?_;refine Jm rfl (Jm rfl (JO.tg rfl rfl rfl rfl rfl (fun hg=>Z1 (.inl rfl)) (JO.tg rfl rfl rfl rfl rfl (fun hg=>Z4s (qR rfl) (.inl rfl)) ?_)));refine Jq (Zw rfl rfl rfl id) (Ja rfl (vS [0,1,4,5,6] ?_));refine J.exit ?_
 repeat first|refine yH ?_|refine yM rfl ?_|refine yE ?_
 repeat first|apply yX|apply yB
 repeat refine JX.normal_block ?_
 refine JX.roundG (x:=(x,vs,false,c)) (nd (binR vs).1 [x,z2.1],z2.2.1,z2.2.2,c||decide ((binR vs).2<=4)) ?_ ?_ [0,1,4,5,6] ?_ ?_ ?_ ?_
 · exact hI.bin ht48 hz2
 · exact(by have h1:=(hz2 (vs.tail.length+1) qM).suf.length_le;have h2:=List.length_pos_iff.2 hne;rw[List.length_tail]at h1;show z2.2.1.length<vs.length;omega)
 · exact qS
 · exact qH
 · exact qG
 · exact fun _ _ _=>fun _ _=>trivial
 apply yK;refine vN ?_;apply yN;refine Jm rfl (Jq (ZP rfl rfl) (Jm rfl (JO.tg rfl rfl rfl rfl rfl (fun hg=>Z1 (.inl rfl)) (JO.tg rfl rfl rfl rfl rfl (fun hg=>Z10 (qR rfl) (.inl rfl)) ?_))));refine Jq (Zl rfl rfl rfl id) (Jm rfl (JO.tg rfl rfl rfl rfl rfl (fun hg=>Z1 (.inl rfl)) (JO.tg rfl rfl rfl rfl rfl (fun hg=>Z22 (qR rfl)) ?_)));refine Jq (Zl rfl rfl rfl id) (Jm rfl (JO.tg rfl rfl rfl rfl rfl (fun hg=>Z1 (.inl rfl)) ?_));refine JO.gcallH (g:=10) (s:=79) (b:=true) (cc:=(((binR vs).1==0)&&decide (l<4))&& !c) (T:=.is (.bool (isRB 1 w_IS vs false))) (o2:=RB T b (gnk ((((binR vs).1==0)&&decide (l<4))&& !c) w_IS vs false) false) rfl rfl rfl rfl (fun e=>by rw[gnk,if_neg e]) (fun e hn=>?_) ?_
 · have hn0:gnk ((((binR vs).1==0)&&decide (l<4))&& !c) w_IS vs false=skRB 1 w_IS vs false:=if_pos e
   rw[hn0]at hn;exact JO.callKG (Lr:=_) e (Zg T b0 o0 ha h9 b vs (hI.suf.trans hus) false w_IS) rfl (.refl _) qF (.one (qR rfl) (.one (.inl rfl) .nil)) (fun _ _=>hn)
 refine Jq (Zl rfl rfl rfl id) (vS [0,1,4,5,82] ?_);refine yC rfl (fun ht82=>?_) (fun ht82=>?_);have hS:isRB 1 w_IS vs false=true:=(Bool.and_eq_true _ _ ▸ ht82).2;rw[show gnk ((((binR vs).1==0)&&decide (l<4))&& !c) w_IS vs false=vs.tail by rw[gnk,if_pos (Bool.and_eq_true _ _ ▸ ht82).1];exact Z1e hS];refine vQ ?_;refine Ja rfl (vP [0,1,4,5,10] ?_);refine Jm rfl ?_;refine JO.callK (Lr:=_) (Zg T b0 o0 ha h9 b _ ?hs _ Z1d) rfl (.refl _) qF qA ?_
 case hs=>exact(List.tail_suffix vs).trans (hI.suf.trans hus)
 intro _ _;refine vD ?_;refine vS [0,1,4,5,10,84] ?_;refine yC rfl (fun ht84=>?_) (fun ht84=>?_);refine vQ ?_;refine Ja rfl (vP [0,1,4,5,10] ?_);refine Jm rfl ?_;refine JO.callK (Lr:=_) (Zh T b0 o0 ha h9 b _ ?hs _ 1 qD Z1M) rfl (.refl _) qF qA ?_
 case hs=>exact(Z3X.trans (List.tail_suffix vs)).trans (hI.suf.trans hus)
 intro y hy;refine vD ?_;refine vS [0,1,4,5,10] ?_;rw[Z8K]at hy;refine vQ ?_;refine Jm rfl (Jq (Z1J Z8 rfl) (Jq (Z1T Zy rfl) (JO.open_ (s:=89) (R:=ExsR [x]) rfl ?_)));rintro _ ⟨_,a89,l89,q89,rfl,_⟩;refine JO.fact (KidsR [x] a89 l89) (fun X w hf _ w' hk=>by obtain⟨a,len,cap,e,h⟩:=hf (ExsR [x] (.slice a89 l89 q89)) qI w' hk;injection e with e1 e2 e3;subst e1 e2;exact h) ?_;refine Jq (Zd (cs:=[_,_,_,_,_,_,_,_]) Z1a (.cons rfl (.cons rfl .nil)) rfl rfl) (JO.m (Z2 rfl rfl qU qC qO Zc) (by rfl) ?_);refine JO.coerO (b:=b5) (T':=.rep (ExR (nd _ [x]))) qU (Sub.exMk qI) ?_;refine vP [0,1,4,5] ?_;refine Ja rfl (vS [0,1,4,5,6] ?_);refine J.exit ?_
 repeat first|refine yH ?_|refine yM rfl ?_|refine yE ?_
 repeat first|apply yX|apply yB
 repeat refine JX.normal_block ?_
 refine JX.roundG (x:=(x,vs,false,c)) (nd 19 [x],y.2.1,y.2.2,true) ?_ ?_ [0,1,4,5,6] ?_ ?_ ?_ ?_
 · exact hI.is ht48 ht82 (by rw[if_pos (Z2p ht84).2]) hy
 · exact(by have h1:=(hy.suf.trans (Z2o _ _ _)).length_le;have h2:=(ZG (Z2p hS).2).2;show y.2.1.length<vs.length;omega)
 · exact qS
 · exact qH
 · exact qG
 · exact fun _ _ _=>fun _ _=>trivial
 apply yK;refine vN ?_;apply yN;refine Jm rfl ?_;refine JO.callK (Lr:=_) (Zh T b0 o0 ha h9 b _ ?hs _ 1 qD Z1M) rfl (.refl _) qF qA ?_
 case hs=>exact(Z3X.trans (List.tail_suffix vs)).trans (hI.suf.trans hus)
 intro y hy;refine vD ?_;refine vS [0,1,4,5,10] ?_;rw[Z8K]at hy;refine vQ ?_;refine Jm rfl (Jq (Z1J Z8 rfl) (Jq (Z1T Zy rfl) (JO.open_ (s:=89) (R:=ExsR [x]) rfl ?_)));rintro _ ⟨_,a89,l89,q89,rfl,_⟩;refine JO.fact (KidsR [x] a89 l89) (fun X w hf _ w' hk=>by obtain⟨a,len,cap,e,h⟩:=hf (ExsR [x] (.slice a89 l89 q89)) qI w' hk;injection e with e1 e2 e3;subst e1 e2;exact h) ?_;refine Jq (Zd (cs:=[_,_,_,_,_,_,_,_]) Z1a (.cons rfl (.cons rfl .nil)) rfl rfl) (JO.m (Z2 rfl rfl qU qC qO Zc) (by rfl) ?_);refine JO.coerO (b:=b5) (T':=.rep (ExR (nd _ [x]))) qU (Sub.exMk qI) ?_;refine vP [0,1,4,5] ?_;refine Ja rfl (vS [0,1,4,5,6] ?_);refine J.exit ?_
 repeat first|refine yH ?_|refine yM rfl ?_|refine yE ?_
 repeat first|apply yX|apply yB
 repeat refine JX.normal_block ?_
 refine JX.roundG (x:=(x,vs,false,c)) (nd 18 [x],y.2.1,y.2.2,true) ?_ ?_ [0,1,4,5,6] ?_ ?_ ?_ ?_
 · exact hI.is ht48 ht82 (by rw[if_neg (by have h:=ht84;simpa [isRB] using h)]) hy
 · exact(by have h1:=(hy.suf.trans (Z2o _ _ _)).length_le;have h2:=(ZG (Z2p hS).2).2;show y.2.1.length<vs.length;omega)
 · exact qS
 · exact qH
 · exact qG
 · exact fun _ _ _=>fun _ _=>trivial
 apply yK;refine vN ?_;refine J.exit ?_
 repeat first|refine yH ?_|refine yM rfl ?_|refine yE ?_
 repeat first|apply yX|apply yB
 first|(obtain rfl:bd=true:=by simpa using ht28)|(rw[show gnk ((((binR vs).1==0)&&decide (l<4))&& !c) w_IS vs false=vs by unfold gnk;split;(rename_i hp;rw[hp,Bool.true_and]at ht82;exact Z19 ht82);rfl])
 refine vQ ?_;refine Jq (Z1J Z8 rfl) (JO.m (Z2 rfl rfl qU qC qO Zc) (by rfl) ?_);refine vS [4] ?_;refine vR ?_;refine JX.retLCs (Lr:=[_,_]) rfl (x,vs,false) ?_ qP rfl rfl hb0 rfl Z8 HasOwn.mem Z1E (Sub.refl _);intro n hn;exact hI.stop ht48 ht82 n hn
 repeat apply yQ
 refine J.exit ?_
 repeat first|refine yH ?_|refine yM rfl ?_|refine yE ?_
 repeat first|apply yX|apply yB
 first|(obtain rfl:bd=true:=by simpa using ht28)|(rw[show gnk ((((binR vs).1==0)&&decide (l<4))&& !c) w_IS vs false=vs by unfold gnk;split;(rename_i hp;rw[hp,Bool.true_and]at ht82;exact Z19 ht82);rfl])
 refine vQ ?_;refine Jq (Z1J Z8 rfl) (JO.m (Z2 rfl rfl qU qC qO Zc) (by rfl) ?_);refine vS [4] ?_;refine vR ?_;refine JX.retLCs (Lr:=[_,_]) rfl (x,vs,true) ?_ qP rfl rfl hb0 rfl Z8 HasOwn.mem Z1E (Sub.refl _);intro n hn;exact hI.bad' n hn
theorem CallL.weakZ{P:Program}{f:FuncId}{Z:Type}{L0:List Own}{Φ0:List (World->Prop)}{As:List Ty}{Zp Zp':Z->Prop}{L1:Z->List Own}{R:Z->Ty}(h:CallL P f L0 Φ0 As Zp L1 R)(hz: ∀z,Zp z->Zp' z):CallL P f L0 Φ0 As Zp' L1 R:=
 ⟨h.enter,fun E w vs hw hL hn hΦ ht=>Calls.mono (h.calls E w vs hw hL hn hΦ ht) fun _ _ ⟨v,z,E',he,hE⟩=>⟨v,z,E',he,hz z hE.zp,hE.k,hE.same,hE.wf,hE.l,hE.nd,hE.inn,hE.r⟩⟩
theorem Zch(T:Rk)(b0 o0:Nat)(ha:T.ts.length≠0->T.ad=some ⟨b0,o0,none⟩)(h9:T.ts.length<=2049)(b:Nat): ∀(m:Nat) (us:List T3) (bad:Bool),us<:+T.ts->us.length<=m->FK T b us bad/\ ∀l,EC T b us bad l
 |m,us,bad,hus,hm=>by
   have ih: ∀vs bd,vs<:+T.ts->vs.length<us.length->FK T b vs bd/\ ∀l,EC T b vs bd l:=fun vs bd hvs hl=>by
     cases m with
     |zero=>omega
     |succ m=>exact Zch T b0 o0 ha h9 b m vs bd hvs qM
   have hF:FK T b us bad:=Z5Q T b0 o0 ha h9 b us hus bad (fun vs bd hvs hl=>(ih vs bd hvs hl).2 0) (fun vs bd hvs hl=>(ih vs bd hvs hl).1);exact⟨hF,fun l=>Z6s T b0 o0 ha h9 b us hus bad l (fun vs bd k hvs hl=>(ih vs bd hvs hl).2 k) hF⟩
theorem Z8Y(T:Rk)(b0 o0:Nat)(ha:T.ts.length≠0->T.ad=some ⟨b0,o0,none⟩)(h9:T.ts.length<=2049)(b:Nat)(ho:okL T.ts):E0 T b:=fun us bad hus=>
 CallL.weakZ ((Zch T b0 o0 ha h9 b us.length us bad hus (Nat.le_refl _)).2 0) fun _ hz=>by have h:=hz _ (Nat.lt_succ_of_le hus.length_le);rwa [Zhg (ho.suf hus) (Nat.lt_succ_of_le hus.length_le)]at h
end Go.Proofs.YtbedigkncjbggaaGreatDoor
