/- The parser: a statement. No condition. -/
import Derived.Test.YtbedigkncjbggaaDoorXQ5
import Derived.Test.YtbedigkncjbggaaDoorXQ3
import Derived.Test.YtbedigkncjbggaaDoorXG7
import Derived.Test.YtbedigkncjbggaaDoorXG6
import Derived.Test.YtbedigkncjbggaaDoorXQ1
set_option maxRecDepth 20000
namespace Go.Proofs.YtbedigkncjbggaaDoor
open Go Go.Vc
open Go.Pz
theorem Z1z{N:Nat}{st:Pz.St}:Cnt (.rep (StR N st)) 14:=fun E v w h=>by
 obtain⟨vc,vn,vr,vi,vf,vw,vg,vo,vs,rfl,h1,h2,h3,h4,h5,h6,h7,h8,h9⟩:=(h:Pers E w (StR N st v)).now;have hs: ∀{α:Type} {En:Enc α} {G:GoS} {xs:List α} {v:Value},SlE En G xs v w->v.oneCell'=true:=fun h=>by
   obtain⟨ps,a,len,cap,_,rfl,_⟩:=h;rfl
 have hx: ∀{xs:List Ex} {v:Value},ExsR xs v w->v.oneCell'=true:=fun h=>by
   obtain⟨a,len,cap,rfl,_⟩:=h;rfl
 refine⟨rfl,fun u hu=>?_⟩;simp only[Value.cells,List.mem_cons,List.mem_nil_iff,or_false]at hu;rcases hu with rfl|rfl|rfl|rfl|rfl|rfl|rfl|rfl|rfl|rfl|rfl|rfl|rfl|rfl<;>first|rfl|exact hs qN|exact hx qN
theorem Z3X{N:Nat}{st:Pz.St}: ∀E v w,(Ty.rep (StR N st)).p E v w->∃cs,v= .agg cs/\cs.size=14:=fun E v w h=>by
 obtain⟨vc,vn,vr,vi,vf,vw,vg,vo,vs,rfl,_⟩:=(h:Pers E w (StR N st v)).now;exact⟨_,rfl,rfl⟩
theorem JO.mapMkS{P:Program}{c:Ctx}{K:List (Nat×Ty)}{L:List Own}{Φ:List (World->Prop)}{Q:Exit->Act->World->Prop}{ops:Array Oper}{rest:List Oper}{d:Nat}{t ty:TypeId}{pos:String}{after:Array Edge}(hd:Nat.blt d c.n=true)(hn: ∀r,JO P c ((d,.is (.map (some r)))::K) (⟨r,0,.ob (sObj [] 0)⟩::L) Φ ops rest Q):JO P c K L Φ ops (⟨some d,.makeMap t none,ty,pos,after,none⟩::rest) Q:=JO.mapMk hd hn
theorem Z7x{k:Int}{bx:Nat}{X:Nat->Prop}{w:World}(h:Pers X w (PlF k (.func (.func ZZ) #[] #[.pointer (some ⟨bx,0,none⟩)]))):Pers X w (HeapIs bx [.int .i64 k] Z3V):=fun w' hk=>by
 obtain⟨by_,e,h1⟩:=h w' hk;injection e with _ _ e
 injection e with e
 injection e with e _
 injection e with e
 injection e with e
 injection e with e _
 subst e;exact h1
def stF(b7 b8 b9:Nat):SEs:=[(Z4l,fv Z1X,0),(Z4u,fv Z1Y,1),(Z4n,fv Z27,2),(Z4F,fv Z1V,3),(Z4H,fv Z1W,4),(Z5B,.func (.func ZZ) #[] #[.pointer (some ⟨b7,0,none⟩)],5),(Z4A,.func (.func ZZ) #[] #[.pointer (some ⟨b8,0,none⟩)],6),(Z3j,.func (.func ZZ) #[] #[.pointer (some ⟨b9,0,none⟩)],7)]
theorem ZcH{b7 b8 b9:Nat}{w:ByteArray}(h:(sGet w (stF b7 b8 b9)).isSome=true):w=Z4l\/w=Z4u\/w=Z4n\/w=Z4F\/w=Z4H\/w=Z5B\/w=Z4A\/w=Z3j:=by
 simp only[stF,sGet]at h
 repeat' split at h
 all_goals first|(cases h;done)|simp[*]
theorem ZcE{b7 b8 b9:Nat}{e:Ps Ex}{ts r1:List T3}{k1 n1:Int}{w:ByteArray}(hz:takeP 1 ts=some (⟨k1,w,n1⟩,r1))(h:(sGet w (stF b7 b8 b9)).isSome=false):stmtP e ts=none:=by
 have hne: ∀s,(s=Z4l\/s=Z4u\/s=Z4n\/s=Z4F\/s=Z4H\/s=Z5B\/s=Z4A\/s=Z3j)->¬sq w s=true:=fun s hs hq=>by
  have:=Z7Y hq;subst this;rcases hs with rfl|rfl|rfl|rfl|rfl|rfl|rfl|rfl<;>simp[stF,sGet]at h
 unfold stmtP;rw[hz,Option.bind_some];rw[if_neg (hne _ (by simp)),if_neg (hne _ (by simp)),if_neg (hne _ (by simp)),if_neg (hne _ (by simp)),if_neg (hne _ (by simp)),if_neg (hne _ (by simp)),if_neg (hne _ (by simp)),if_neg (hne _ (by simp))]
attribute [local irreducible] SlE ExsR
theorem Z47(N:Nat)(T:Tk)(hc:T.ts.length<=T.cap)(h9:T.ts.length<=2049)(b:Nat)(ts:List T3)(hts:ts<:+T.ts)(M:Nat)(hM:ts.length<M):CallP Tryd.prog Z2r [PB T b ts] [T.G,AF,NH N] [.is (.pointer (some ⟨b,0,none⟩))] (stmtP (exprP M) ts=none) flt (fun z:Pz.St×List T3=>stmtP (exprP M) ts=some z) (fun z=>[PB T b z.2]) (fun z=>.rep (StR N z.1)):=
CallP.ofN (N:=N) (List.mem_cons_of_mem _ (List.mem_cons_of_mem _ List.mem_cons_self)) (fn:=Tryd.f8) Tryd.func8 (n:=43) rfl rfl rfl (fun _ _=>by kernel_rfl) fun E W hNW hb0=>by
 refine vQ ?_;refine JO.alloc ZE rfl fun b2=>(vS [0,2] ?_);refine J.regS 17 hmx qK qK ?_;refine yz (Z1 rfl) (yz (Z1 rfl) (yz (Z3 rfl) (yz (Z0 Z8 rfl) (yz (Z5 Zj rfl rfl) (yz (ZS ZG rfl) (yz (Z1U rfl rfl) (yz (Z1 rfl) (yg rfl rfl rfl (fun hg=>Z1 (.inl rfl)) (yg rfl rfl rfl (fun hg=>Z3 (qR rfl)) ?_)))))))));refine yg rfl rfl rfl (fun hg=>Z0 Z8 (qR rfl)) ?_;refine yg rfl rfl rfl (fun hg=>Z5 Zj (qR rfl) rfl) ?_;refine yg rfl rfl rfl (fun hg=>Zq ZH (qR rfl) rfl (.inl rfl) qM (Z1G (Z1M hg))) ?_;refine yg rfl rfl rfl (fun hg=>Z0 Z1R (qR rfl)) ?_;refine yg rfl rfl rfl (fun hg=>Z1h (enc:=T3.cells) (sz:=3) (i:=T.k ts) (j:=0) (y:=ts.headD t3D) (u:=.int .i64 (ts.headD t3D).k) Zy (qR rfl) qI rfl (Tk.head hts (Z1M hg)) (by rw[Tk.j_eq hc hts (Z1M hg)];omega) rfl) ?_;refine yg rfl rfl rfl (fun hg=>ZT (qR rfl) (.inl rfl)) ?_;refine yz (Zz rfl rfl rfl id) ?_;apply yn;refine FinS.tail0 ?_;refine JO.callPK (Lr:=_) (Zb (.pointer (some ⟨b,0,none⟩)) _) rfl (Z1b _) Z13 qA (fun hbad=>?_) ?_
 · exact JX.pnI (by unfold stmtP;rw[Z8u,<-Z4w,hbad];rfl)
 intro z hz;have hK:isK 1 ts=true:=by rw[<-Z4w];exact hz
 refine vD ?_;refine vP [0,2] ?_;refine JO.mapMkS rfl (fun r24=>?_);refine JO.m (Z1f Zd Zi rfl rfl rfl (by simp[sGet]) .here) (by rfl) ?_;refine JO.m (Z1f Zd Zi rfl rfl rfl (by simp[sGet]) .here) (by rfl) ?_;refine JO.m (Z1f Zd Zi rfl rfl rfl (by simp[sGet]) .here) (by rfl) ?_;refine JO.m (Z1f Zd Zi rfl rfl rfl (by simp[sGet]) .here) (by rfl) ?_;refine JO.m (Z1f Zd Zi rfl rfl rfl (by simp[sGet]) .here) (by rfl) ?_;refine Jq (ZV rfl (Z45 7) qA) ?_;refine JO.open_ (s:=25) (R:=PlF 7) rfl ?_;rintro _ ⟨_,b7,rfl,_⟩;refine JO.fact (HeapIs b7 [.int .i64 7] Z3V) (fun X w hf _=>Z7x (hf _ List.mem_cons_self)) (JO.m (Z1f Zd Zi rfl rfl rfl (by simp[sGet]) .here) (by rfl) ?_);refine Jq (ZV rfl (Z45 8) qA) ?_;refine JO.open_ (s:=26) (R:=PlF 8) rfl ?_;rintro _ ⟨_,b8,rfl,_⟩;refine JO.fact (HeapIs b8 [.int .i64 8] Z3V) (fun X w hf _=>Z7x (hf _ List.mem_cons_self)) (JO.m (Z1f Zd Zi rfl rfl rfl (by simp[sGet]) .here) (by rfl) ?_);refine Jq (ZV rfl (Z45 9) qA) ?_;refine JO.open_ (s:=27) (R:=PlF 9) rfl ?_;rintro _ ⟨_,b9,rfl,_⟩;refine JO.fact (HeapIs b9 [.int .i64 9] Z3V) (fun X w hf _=>Z7x (hf _ List.mem_cons_self)) (JO.m (Z1f Zd Zi rfl rfl rfl (by simp[sGet]) .here) (by rfl) ?_);refine Jm rfl (Ja rfl (vP [0,2,3] ?_));refine Jm rfl (Jm rfl ?_);refine JO.callPK (Lr:=[_,_]) (Z1E T hc b ts hts 1) rfl (List.perm_append_comm (l₁:=[_,_]) (l₂:=[_])) qF qA (fun hbad=>?_) ?_
 · exact JX.pnI (by unfold stmtP;rw[hbad];rfl)
 rintro⟨⟨k1,w,n1⟩,r1⟩ hz1;refine vD ?_;refine Jq (Z54 (off:=1) qK rfl rfl) ?_;refine Jq (Zca (l:=stF b7 b8 b9) (V:=(sGet w (stF b7 b8 b9)).getD .nilFunc) (B:=(sGet w (stF b7 b8 b9)).isSome) Zd Zi Z3i rfl rfl (List.mem_cons_of_mem _ List.mem_cons_self) rfl rfl) (Jm rfl (Jq (Zb6 rfl rfl) (Jq (Zb6 rfl rfl) (Ja rfl (Ja rfl (vP [0,2,4,5] ?_))))));refine Jm rfl (Jm rfl ?_);refine JO.callPK (Lr:=_) (Zb (.pointer (some ⟨b,0,none⟩)) (sGet w (stF b7 b8 b9)).isSome) rfl (Z1b _) Z13 qA (fun hbad=>?_) ?_
 · exact JX.pnI (by exact ZcE hz1 hbad)
 intro _ hfo;refine vD ?_;refine vS [0,2,4] ?_;rcases ZcH hfo with hw|hw|hw|hw|hw|hw|hw|hw
 subst hw;rw[show(sGet Z4l (stF b7 b8 b9)).getD .nilFunc=fv Z1X by simp[stF,sGet]];refine vQ ?_;refine Jm rfl (Jm rfl ?_);refine JO.callPvK (cp:=[]) (Lr:=[_,_]) rfl (Z4S N T hc h9 b r1 (show r1<:+T.ts from(ZA 1 _ _ hz1).1.trans hts)) rfl (.refl _) qF (.one rfl .nil) (fun hbad=>?_) ?_
 · exact JX.pnI (by unfold stmtP;rw[hz1,Option.bind_some,if_pos (by rfl),hbad])
 intro z hz;refine vD ?_;refine JO.m (Z2 rfl rfl qU qC (by first|exact ZQ rfl rfl|exact Z3S|exact Z2N|exact Z1z) Zk) (by rfl) ?_;refine vS [2] ?_;refine vR ?_;refine JX.toP ?_;exact JX.retLCs (Lr:=[_,_]) rfl z (by unfold stmtP;rw[hz1,Option.bind_some,if_pos (by rfl),hz]) (.refl _) rfl rfl hb0 rfl Zm HasOwn.mem Z3X (Sub.refl _);subst hw;rw[show(sGet Z4u (stF b7 b8 b9)).getD .nilFunc=fv Z1Y by simp[stF,sGet]];refine vQ ?_;refine Jm rfl (Jm rfl ?_);refine JO.callPvK (cp:=[]) (Lr:=[_,_]) rfl (Z4P N T hc h9 b r1 (show r1<:+T.ts from(ZA 1 _ _ hz1).1.trans hts) (exprP M) (Z29 M) (fun us hus hu=>Z6G T hc b M us hus (by have:r1.length<ts.length:=(ZA 1 _ _ hz1).2;omega))) rfl (.refl _) qF (.one rfl .nil) (fun hbad=>?_) ?_
 · exact JX.pnI (by unfold stmtP;rw[hz1,Option.bind_some,if_neg (by exact Bool.false_ne_true),if_pos (by rfl),hbad])
 intro z hz;refine vD ?_;refine JO.m (Z2 rfl rfl qU qC (by first|exact ZQ rfl rfl|exact Z3S|exact Z2N|exact Z1z) Zk) (by rfl) ?_;refine vS [2] ?_;refine vR ?_;refine JX.toP ?_;exact JX.retLCs (Lr:=[_,_]) rfl z (by unfold stmtP;rw[hz1,Option.bind_some,if_neg (by exact Bool.false_ne_true),if_pos (by rfl),hz]) (.refl _) rfl rfl hb0 rfl Zm HasOwn.mem Z3X (Sub.refl _);subst hw;rw[show(sGet Z4n (stF b7 b8 b9)).getD .nilFunc=fv Z27 by simp[stF,sGet]];refine vQ ?_;refine Jm rfl (Jm rfl ?_);refine JO.callPvK (cp:=[]) (Lr:=[_,_]) rfl (Z5j N T hc h9 b r1 (show r1<:+T.ts from(ZA 1 _ _ hz1).1.trans hts) (exprP M) (Z29 M) (fun us hus hu=>Z6G T hc b M us hus (by have:r1.length<ts.length:=(ZA 1 _ _ hz1).2;omega))) rfl (.refl _) qF (.one rfl .nil) (fun hbad=>?_) ?_
 · exact JX.pnI (by unfold stmtP;rw[hz1,Option.bind_some,if_neg (by exact Bool.false_ne_true),if_neg (by exact Bool.false_ne_true),if_pos (by rfl),hbad])
 intro z hz;refine vD ?_;refine JO.m (Z2 rfl rfl qU qC (by first|exact ZQ rfl rfl|exact Z3S|exact Z2N|exact Z1z) Zk) (by rfl) ?_;refine vS [2] ?_;refine vR ?_;refine JX.toP ?_;exact JX.retLCs (Lr:=[_,_]) rfl z (by unfold stmtP;rw[hz1,Option.bind_some,if_neg (by exact Bool.false_ne_true),if_neg (by exact Bool.false_ne_true),if_pos (by rfl),hz]) (.refl _) rfl rfl hb0 rfl Zm HasOwn.mem Z3X (Sub.refl _);subst hw;rw[show(sGet Z4F (stF b7 b8 b9)).getD .nilFunc=fv Z1V by simp[stF,sGet]];refine vQ ?_;refine Jm rfl (Jm rfl ?_);refine JO.callPvK (cp:=[]) (Lr:=[_,_]) rfl (Z4T N T hc h9 b r1 (show r1<:+T.ts from(ZA 1 _ _ hz1).1.trans hts) (exprP M) (Z29 M) (fun us hus hu=>Z6G T hc b M us hus (by have:r1.length<ts.length:=(ZA 1 _ _ hz1).2;omega))) rfl (.refl _) qF (.one rfl .nil) (fun hbad=>?_) ?_
 · exact JX.pnI (by unfold stmtP;rw[hz1,Option.bind_some,if_neg (by exact Bool.false_ne_true),if_neg (by exact Bool.false_ne_true),if_neg (by exact Bool.false_ne_true),if_pos (by rfl),hbad])
 intro z hz;refine vD ?_;refine JO.m (Z2 rfl rfl qU qC (by first|exact ZQ rfl rfl|exact Z3S|exact Z2N|exact Z1z) Zk) (by rfl) ?_;refine vS [2] ?_;refine vR ?_;refine JX.toP ?_;exact JX.retLCs (Lr:=[_,_]) rfl z (by unfold stmtP;rw[hz1,Option.bind_some,if_neg (by exact Bool.false_ne_true),if_neg (by exact Bool.false_ne_true),if_neg (by exact Bool.false_ne_true),if_pos (by rfl),hz]) (.refl _) rfl rfl hb0 rfl Zm HasOwn.mem Z3X (Sub.refl _);subst hw;rw[show(sGet Z4H (stF b7 b8 b9)).getD .nilFunc=fv Z1W by simp[stF,sGet]];refine vQ ?_;refine Jm rfl (Jm rfl ?_);refine JO.callPvK (cp:=[]) (Lr:=[_,_]) rfl (Z4R N T hc h9 b r1 (show r1<:+T.ts from(ZA 1 _ _ hz1).1.trans hts) (exprP M) (fun us hus hu=>Z6G T hc b M us hus (by have:r1.length<ts.length:=(ZA 1 _ _ hz1).2;omega))) rfl (.refl _) qF (.one rfl .nil) (fun hbad=>?_) ?_
 · exact JX.pnI (by unfold stmtP;rw[hz1,Option.bind_some,if_neg (by exact Bool.false_ne_true),if_neg (by exact Bool.false_ne_true),if_neg (by exact Bool.false_ne_true),if_neg (by exact Bool.false_ne_true),if_pos (by rfl),hbad])
 intro z hz;refine vD ?_;refine JO.m (Z2 rfl rfl qU qC (by first|exact ZQ rfl rfl|exact Z3S|exact Z2N|exact Z1z) Zk) (by rfl) ?_;refine vS [2] ?_;refine vR ?_;refine JX.toP ?_;exact JX.retLCs (Lr:=[_,_]) rfl z (by unfold stmtP;rw[hz1,Option.bind_some,if_neg (by exact Bool.false_ne_true),if_neg (by exact Bool.false_ne_true),if_neg (by exact Bool.false_ne_true),if_neg (by exact Bool.false_ne_true),if_pos (by rfl),hz]) (.refl _) rfl rfl hb0 rfl Zm HasOwn.mem Z3X (Sub.refl _);subst hw;rw[show(sGet Z5B (stF b7 b8 b9)).getD .nilFunc= .func (.func ZZ) #[] #[.pointer (some ⟨b7,0,none⟩)] by simp[stF,sGet]];refine vQ ?_;refine Jm rfl (Jm rfl ?_);refine JO.callPvK (cp:=[.pointer (some ⟨b7,0,none⟩)]) (Lr:=[_,_]) rfl (Z3s N T hc h9 b r1 (show r1<:+T.ts from(ZA 1 _ _ hz1).1.trans hts) b7 7) rfl (.refl _) qF (.one rfl .nil) (fun hbad=>?_) ?_
 · exact JX.pnI (by exact hbad.elim)
 intro z hz;refine vD ?_;refine JO.m (Z2 rfl rfl qU qC (by first|exact ZQ rfl rfl|exact Z3S|exact Z2N|exact Z1z) Zk) (by rfl) ?_;refine vS [2] ?_;refine vR ?_;refine JX.toP ?_;exact JX.retLCs (Lr:=[_,_]) rfl z (by unfold stmtP;rw[hz1,Option.bind_some,if_neg (by exact Bool.false_ne_true),if_neg (by exact Bool.false_ne_true),if_neg (by exact Bool.false_ne_true),if_neg (by exact Bool.false_ne_true),if_neg (by exact Bool.false_ne_true),if_pos (by rfl),hz]) (.refl _) rfl rfl hb0 rfl Zm HasOwn.mem Z3X (Sub.refl _);subst hw;rw[show(sGet Z4A (stF b7 b8 b9)).getD .nilFunc= .func (.func ZZ) #[] #[.pointer (some ⟨b8,0,none⟩)] by simp[stF,sGet]];refine vQ ?_;refine Jm rfl (Jm rfl ?_);refine JO.callPvK (cp:=[.pointer (some ⟨b8,0,none⟩)]) (Lr:=[_,_]) rfl (Z3s N T hc h9 b r1 (show r1<:+T.ts from(ZA 1 _ _ hz1).1.trans hts) b8 8) rfl (.refl _) qF (.one rfl .nil) (fun hbad=>?_) ?_
 · exact JX.pnI (by exact hbad.elim)
 intro z hz;refine vD ?_;refine JO.m (Z2 rfl rfl qU qC (by first|exact ZQ rfl rfl|exact Z3S|exact Z2N|exact Z1z) Zk) (by rfl) ?_;refine vS [2] ?_;refine vR ?_;refine JX.toP ?_;exact JX.retLCs (Lr:=[_,_]) rfl z (by unfold stmtP;rw[hz1,Option.bind_some,if_neg (by exact Bool.false_ne_true),if_neg (by exact Bool.false_ne_true),if_neg (by exact Bool.false_ne_true),if_neg (by exact Bool.false_ne_true),if_neg (by exact Bool.false_ne_true),if_neg (by exact Bool.false_ne_true),if_pos (by rfl),hz]) (.refl _) rfl rfl hb0 rfl Zm HasOwn.mem Z3X (Sub.refl _);subst hw;rw[show(sGet Z3j (stF b7 b8 b9)).getD .nilFunc= .func (.func ZZ) #[] #[.pointer (some ⟨b9,0,none⟩)] by simp[stF,sGet]];refine vQ ?_;refine Jm rfl (Jm rfl ?_);refine JO.callPvK (cp:=[.pointer (some ⟨b9,0,none⟩)]) (Lr:=[_,_]) rfl (Z3s N T hc h9 b r1 (show r1<:+T.ts from(ZA 1 _ _ hz1).1.trans hts) b9 9) rfl (.refl _) qF (.one rfl .nil) (fun hbad=>?_) ?_
 · exact JX.pnI (by exact hbad.elim)
 intro z hz;refine vD ?_;refine JO.m (Z2 rfl rfl qU qC (by first|exact ZQ rfl rfl|exact Z3S|exact Z2N|exact Z1z) Zk) (by rfl) ?_;refine vS [2] ?_;refine vR ?_;refine JX.toP ?_;exact JX.retLCs (Lr:=[_,_]) rfl z (by unfold stmtP;rw[hz1,Option.bind_some,if_neg (by exact Bool.false_ne_true),if_neg (by exact Bool.false_ne_true),if_neg (by exact Bool.false_ne_true),if_neg (by exact Bool.false_ne_true),if_neg (by exact Bool.false_ne_true),if_neg (by exact Bool.false_ne_true),if_neg (by exact Bool.false_ne_true),if_pos (by rfl),hz]) (.refl _) rfl rfl hb0 rfl Zm HasOwn.mem Z3X (Sub.refl _)
end Go.Proofs.YtbedigkncjbggaaDoor
namespace Go.Pz
open Go Go.Vc
theorem Z9I{kids:List Ex}{a:Option Addr}{len:Nat}{X:Nat->Prop}{w:World}(h:Pers X w (KidsR kids a len)):
   ∃ps:List (Cel exE),ps.map Cel.x=kids/\Pers X w (RowG Cel.cs 8 ps a len)/\Pers X w (CelF exE ps):=by
 have h0:=h.now
 by_cases hn:len=0
 · have hk:kids=[]:=List.length_eq_zero_iff.1 (by rw[h0.1];exact hn)
   subst hk;exact⟨[],rfl,fun w' _=>⟨hn.symm,fun h=>absurd hn h⟩,fun w' _ p hp=>by cases hp⟩
 obtain⟨b,o,rfl,_⟩:=h0.2 hn;have hall: ∀i:Fin kids.length,∃cs:List Value,cs.length=8/\RowAt cs b (o+8*i.1) w/\Pers X w (ExR kids[i] (.agg cs.toArray)):=fun i=>Z9S h (List.getElem?_eq_getElem i.2)
 let f:Fin kids.length->List Value:=fun i=>Classical.choose (hall i)
 have hf: ∀i,(f i).length=8/\RowAt (f i) b (o+8*i.1) w/\Pers X w (ExR kids[i] (.agg (f i).toArray)):=fun i=>Classical.choose_spec (hall i);have hl:0<kids.length:=by rw[h0.1];omega
 have hX: ¬X b:=Z9V (o:=o+8*0) fun w' hk=>by
   obtain⟨hl',hk'⟩:=h w' hk;obtain⟨b',o',e,hK⟩:=hk' hn;injection e with e
   injection e with e1 e2
   subst e1 e2;obtain⟨cs,_,h2,h3⟩:=Z63 kids b o w' 0 kids[0] hK (List.getElem?_eq_getElem hl);obtain⟨k,n,h4⟩:=Z3g h2;exact⟨k,n,h3 0 _ h4⟩
 obtain⟨C,t,fr,hC,_⟩: ∃(cs:Array Value) (t:TypeId) (fr:Nat×Nat),w.heap[b]? =some (.cells cs t fr)/\True:=by
   have h2:=hf ⟨0,hl⟩;obtain⟨k,n,h4⟩:=Z3g h2.2.2.now;obtain⟨cs,t,fr,q1,_⟩:=Z7w (h2.2.1 0 _ h4);exact⟨cs,t,fr,q1,trivial⟩
 refine⟨List.ofFn fun i:Fin kids.length=>⟨kids[i],f i,(hf i).1,Z87 (hf i).2.2.now⟩,?_,fun w' hk=>⟨by rw[List.length_ofFn];exact h0.1,fun _=>⟨b,o,rfl,fun i p hp=>?_⟩⟩,fun w' hk p hp=>?_⟩
 · refine List.ext_getElem (by simp) fun i h1 h2=>?_
   simp
 · rw[List.getElem?_ofFn]at hp
   split at hp
   · rename_i hi
     injection hp with hp
     subst hp;intro j v hj;have:=(hf ⟨i,hi⟩).2.1 j v hj;rw[ZP hC]at this;rw[ZP (hk.get hC hX)];exact this
   · cases hp
 · obtain⟨i,rfl⟩:=List.mem_ofFn.1 hp
   exact(hf i).2.2 w' hk
section
variable{P:Program}{c:Ctx}{K:List (Nat×Ty)}{L:List Own}{Φ:List (World->Prop)}{Q:Exit->Act->World->Prop}
theorem SA.more{X:Nat->Prop}{a:Act}{w:World}(hs:SA c K L Φ X a w)(Ψ:List (World->Prop))(hΨ: ∀F∈Ψ,Pers X w F):SA c K L (Ψ++Φ) X a w:=
 ⟨hs.n,hs.d,hs.wf,hs.k,hs.l,hs.ld,fun F hF=>by
  rcases List.mem_append.1 hF with hF|hF
  · exact hΨ F hF
  · exact hs.f F hF,hs.x,hs.xs,hs.keeps,hs.may⟩
theorem J.kidsC{x:Code}{kids:List Ex}{a:Option Addr}{len:Nat}(h:KidsR kids a len∈Φ)(hj: ∀ps:List (Cel exE),ps.map Cel.x=kids->J P c K L (RowG Cel.cs 8 ps a len::CelF exE ps::Φ) x Q):J P c K L Φ x Q:=by
 refine⟨fun X a' w hs=>?_⟩;obtain⟨ps,h1,h2,h3⟩:=Z9I (hs.f _ h);refine(hj ps h1).out X a' w (SA.more hs [_,_] fun F hF=>?_);simp only[List.mem_cons,List.mem_nil_iff,or_false]at hF;rcases hF with rfl|rfl
 · exact h2
 · exact h3
theorem Zdc{xs:List Ex}{v:Value}{X:Nat->Prop}{w:World}(h:Pers X w (ExsR xs v)): ∃(ps:List (Cel exE)) (a:Option Addr) (len cap:Nat),ps.map Cel.x=xs/\v= .slice a len cap/\ps.length=len/\(∃b o,len≠0->a=some ⟨b,o,none⟩)/\Pers X w (RowG Cel.cs 8 ps a len)/\Pers X w (CelF exE ps):=by
 obtain⟨a,len,cap,rfl,hk⟩:=h.now;have hp:Pers X w (KidsR xs a len):=fun w' hk=>by
   obtain⟨a',len',cap',e,h1⟩:=h w' hk;injection e with e1 e2 e3
   subst e1 e2 e3;exact h1
 obtain⟨ps,h1,h2,h3⟩:=Z9I hp;refine⟨ps,a,len,cap,h1,rfl,h2.now.1,?_,h2,h3⟩
 by_cases hn:len=0
 · exact⟨0,0,fun h=>absurd hn h⟩
 · obtain⟨b,o,e,_⟩:=h2.now.2 hn
   exact⟨b,o,fun _=>e⟩
theorem J.shapeX{x:Code}{xs:List Ex}{v:Value}(h:ExsR xs v∈Φ)(hj: ∀(ps:List (Cel exE)) (a:Option Addr) (len cap b o:Nat),ps.map Cel.x=xs->v= .slice a len cap->ps.length=len->(len≠0->a=some ⟨b,o,none⟩)->J P c K L (RowG Cel.cs 8 ps a len::CelF exE ps::Φ) x Q):J P c K L Φ x Q:=by
 refine⟨fun X a' w hs=>?_⟩;obtain⟨ps,a,len,cap,h1,h2,h3,⟨b,o,h4⟩,h5,h6⟩:=Zdc (hs.f _ h);refine(hj ps a len cap b o h1 h2 h3 h4).out X a' w (SA.more hs [_,_] fun F hF=>?_);simp only[List.mem_cons,List.mem_nil_iff,or_false]at hF;rcases hF with rfl|rfl
 · exact h5
 · exact h6
theorem J.shapeE{α:Type}{E:Enc α}{G:GoS}{x:Code}{xs:List α}{v:Value}(h:SlE E G xs v∈Φ)(hj: ∀(ps:List (Cel E)) (a:Option Addr) (len cap b o:Nat),ps.map Cel.x=xs->v= .slice a len cap->ps.length=len->(len≠0->a=some ⟨b,o,none⟩)->J P c K L (RowG Cel.cs E.sz ps a len::CelF E ps::Φ) x Q):J P c K L Φ x Q:=by
 refine⟨fun X a' w hs=>?_⟩;obtain⟨ps,a,len,cap,h1,h2,_,h3,⟨b,o,h4⟩,h5,h6,_⟩:=Zaw (hs.f _ h);refine(hj ps a len cap b o h1 h2 h3 h4).out X a' w (SA.more hs [_,_] fun F hF=>?_);simp only[List.mem_cons,List.mem_nil_iff,or_false]at hF;rcases hF with rfl|rfl
 · exact h5
 · exact h6
theorem JO.apA{α:Type}{en:α->List Value}{sz:Nat}{L':List Own}{d:Nat}{ops:Array Oper}{rest:List Oper}{ty t tx e:TypeId}{pos:String}{after:Array Edge}{s x:Operand}{bytes cap:Nat}{xs:List α}(ys:List α){st:Option (Nat×List Value)}{TX:Ty}{C:Option (Nat×List Value)->List Own}
   (hT:ApTy P t e sz bytes)(hen: ∀x,(en x).length=sz)(hC:Cx e L st C L')(hG:Grows en sz xs st cap)(h0:opTy K s=some (.is (sliceO st xs.length cap)))(hx:opTy K x=some TX)(hS: ∀L,SrcOf P L Φ sz tx TX ys.length (ys.flatMap en))(hfit:(xs.length+ys.length)*bytes<=140737488355328)(h63:xs.length+ys.length<=9223372036854775807)(hd:Nat.blt d c.n=true)
   (hn: ∀(st':Option (Nat×List Value)) (cap':Nat),Grows en sz (xs++ys) st' cap'->JO P c ((d,.is (sliceO st' (xs++ys).length cap'))::K) (C st') Φ ops rest Q):
   JO P c K L Φ ops (⟨some d,.call {callee:=.builtin .append,args:= #[s,x],argTypes:= #[t,tx]},ty,pos,after,none⟩::rest) Q:=by
 cases st with
 |some p=>exact JO.apSL ys hT hC hG h0 hx (hS _) hfit h63 hd fun p' cap' hG'=>hn _ _ hG'
 |none=>
   have hxs:xs=[]:=hG;subst hxs;simp only[List.length_nil,Nat.zero_add,List.nil_append]at hfit h63 hn;refine JO.subL hC.tl.perm (JO.apN ys hT h0 hx (hS _) hfit h63 hd fun st' cap' hG'=>?_);exact JO.subL (hC.back st') (hn _ _ hG')
end
end Go.Pz
namespace Go.Pz
open Go Go.Vc
mutual
def ect:Ex->Nat
 | .mk _ _ _ _ _ _ _ kids=>ects kids+1
def ects:List Ex->Nat
 |[]=>0
 |x::xs=>ect x+ects xs
end
theorem Z6E(x:Ex):ect x=ects x.KS+1:=by cases x;rw[ect];rfl
theorem Z9T{xs:List Ex}{x:Ex}(h:x∈xs):ect x<=ects xs:=by
 induction xs with
 |nil=>cases h
 |cons y ys ih=>
   rw[ects];rcases List.mem_cons.1 h with rfl|h
   · omega
   · have:=ih h;omega
theorem Zck(xs:List Ex):xs.length<=ects xs:=by
 induction xs with
 |nil=>exact Nat.zero_le _
 |cons y ys ih=>
   rw[ects,List.length_cons];have:1<=ect y:=by rw[Z6E];omega
   omega
mutual
theorem Zdm: ∀x:Ex,hgt x<=ect x
 | .mk _ _ _ _ _ _ _ kids=>by rw[hgt,ect];have:=Z6K kids;omega
theorem Z6K: ∀xs:List Ex,hgts xs<=ects xs
 |[]=>by rw[hgts,ects];exact Nat.le_refl _
 |x::xs=>by rw[hgts,ects];have:=Zdm x;have:=Z6K xs;omega
end
def Hb(p:Ps Ex):Prop:=∀ts z,p ts=some z->ect z.1+z.2.length<=ts.length
theorem Z2p(k vk vn:Int)(vs tb nm:ByteArray)(sl:Int):ect (.mk k vk vn vs tb nm sl [])=1:=by rw[ect,ects]
theorem Z7R(k:Int)(x:Ex):ect (nd k [x])=ect x+1:=by rw[ect,ects,ects]
theorem ZcS(k:Int)(x y:Ex):ect (nd k [x,y])=ect x+ect y+1:=by rw[ect,ects,ects,ects];omega
theorem Za3{part:Ps Ex}{k:Int}{ops:List (ByteArray×Int)}(hp:Hb part){M:Nat}: ∀(n:Nat) (x:Ex) (ts:List T3) (z:Ex×List T3),ect x+ts.length<=M->chainG part k ops n x ts=some z->ect z.1+z.2.length<=M
 |0,x,ts,z,hM,h=>by rw[chainG]at h;injection h with h;subst h;exact hM
 |n+1,x,ts,z,hM,h=>by
   rw[chainG]at h
   split at h
   · injection h with h;subst h;exact hM
   · rename_i q hq
     obtain⟨y,h1,h2⟩:=bnd h;have h3:=hp _ _ h1;have h4:=(Z3J hq).2;have h5:1<=ect y.1:=by
       obtain⟨y1,y2⟩:=y;cases y1;rw[ect];omega
     refine Za3 hp n _ _ _ ?_ h2;rw[ZcS];omega
theorem Z6k{part:Ps Ex}{k:Int}{ops:List (ByteArray×Int)}(hp:Hb part):Hb (chainP part k ops):=fun ts z h=>by
 obtain⟨y,h1,h2⟩:=bnd h;exact Za3 hp _ _ _ _ (hp _ _ h1) h2
section
variable{e:Ps Ex}(he:Hb e)
include he
theorem Ze6:Hb (kwP e):=fun ts z h=>by
 obtain⟨y,h1,h2⟩:=bnd h;have h3:=(ZA 1 _ _ h1).2
 split at h2
 · injection h2 with h2;subst h2;rw[Z2p];dsimp only;omega
 split at h2
 · injection h2 with h2;subst h2;rw[Z2p];dsimp only;omega
 split at h2
 · injection h2 with h2;subst h2;rw[Z2p];dsimp only;omega
 split at h2
 · cases h2
 obtain⟨u,h4,h5⟩:=bnd h2;have h6:=(Z9 _ _ _ _ h4).2
 split at h5
 · rename_i hi
   simp only[Bool.and_eq_true]at hi;obtain⟨v,h7,rfl⟩:=mpd h5;have h8:=(Z9 _ _ _ _ h7).2;have h9:=(Zt hi.2).2;rw[Z2p];dsimp only;omega
 · obtain⟨x,h7,h8⟩:=bnd h5
   obtain⟨v,h9,rfl⟩:=mpd h8;have h10:=he _ _ h7;have h11:=(Z9 _ _ _ _ h9).2;dsimp only;rw[Z7R];omega
theorem Zch:Hb (atomP e):=fun ts z h=>by
 cases ts with
 |nil=>cases h
 |cons t r=>
   rw[atomP]at h
   split at h
   · injection h with h;subst h;rw[Z2p];simp only[List.length_cons];omega
   split at h
   · injection h with h;subst h;rw[Z2p];simp only[List.length_cons];omega
   split at h
   · split at h
     · rename_i hi
       obtain⟨v,h7,rfl⟩:=mpd h;have h8:=(Zw _ _ h7).2;have h9:=(Zt hi).2;rw[Z2p];simp only[List.length_cons];omega
     · injection h with h;subst h;rw[Z2p];simp only[List.length_cons];omega
   split at h
   · exact Ze6 he _ _ h
   · obtain⟨u,h4,h5⟩:=bnd h
     obtain⟨x,h7,h8⟩:=bnd h5;obtain⟨v,h9,rfl⟩:=mpd h8;have h10:=he _ _ h7;have h11:=(Z9 _ _ _ _ h9).2;have h12:=(Z9 _ _ _ _ h4).2;dsimp only;omega
theorem Z8M: ∀(ts:List T3) (z:Ex×List T3),factorP e ts=some z->ect z.1+z.2.length<=ts.length
 |[],z,h=>by rw[factorP]at h;cases h
 |t::r,z,h=>by
   rw[factorP]at h
   split at h
   · obtain⟨v,h7,rfl⟩:=mpd h
     have:=Z8M r v h7;dsimp only;rw[Z7R];simp only[List.length_cons];omega
   · exact Zch he _ _ h
theorem Zd8:Hb (prodP e):=Z6k (Z8M he)
theorem Z9l:Hb (sumP e):=Z6k (Zd8 he)
theorem ZbI{x:Ex}{ts:List T3}{z:Ex×List T3}{M:Nat}(hM:ect x+ts.length<=M)(h:cmpP e x ts=some z):ect z.1+z.2.length<=M:=by
 unfold cmpP at h
 split at h
 · rename_i q hq
   obtain⟨v,h7,rfl⟩:=mpd h;have h8:=Z9l he _ _ h7;have h9:=(Z3J hq).2;have h5:1<=ect v.1:=by
     obtain⟨y1,y2⟩:=v;cases y1;rw[ect];omega
   dsimp only;rw[ZcS];omega
 · split at h
   · rename_i hi
     have h9:=(Zt hi).2
     split at h
     · rename_i hj
       obtain⟨v,h7,rfl⟩:=mpd h;have h8:=(Z9 _ _ _ _ h7).2;have h10:=(Zt hj).2;dsimp only;rw[Z7R];omega
     · obtain⟨v,h7,rfl⟩:=mpd h
       have h8:=(Z9 _ _ _ _ h7).2;dsimp only;rw[Z7R];omega
   · injection h with h;subst h;exact hM
theorem ZbF: ∀(ts:List T3) (z:Ex×List T3),notP e ts=some z->ect z.1+z.2.length<=ts.length
 |[],z,h=>by
   rw[notP]at h;obtain⟨y,h1,h2⟩:=bnd h;exact ZbI he (Z9l he _ _ h1) h2
 |t::r,z,h=>by
   rw[notP]at h
   split at h
   · obtain⟨v,h7,rfl⟩:=mpd h
     have:=ZbF r v h7;dsimp only;rw[Z7R];simp only[List.length_cons];omega
   · obtain⟨y,h1,h2⟩:=bnd h
     exact ZbI he (Z9l he _ _ h1) h2
theorem Zei:Hb (orP e):=Z6k (Z6k (ZbF he))
end
theorem Z8l: ∀n,Hb (exprP n)
 |0,ts,z,h=>by cases h
 |n+1,ts,z,h=>Zei (Z8l n) ts z h
def HB(M:Nat)(x:Ex):Prop:=ect x<=M
theorem Zel{e:Ps Ex}(he:Hb e){M:Nat}{ts:List T3}{z:Ex×List T3}(hM:ts.length<=M)(h:e ts=some z):HB M z.1:=by
 have:=he _ _ h;unfold HB;omega
def Pb{α:Type}(f:α->List Ex)(M:Nat)(p:Ps α):Prop:=∀ts z,ts.length<=M->p ts=some z->∀x∈f z.1,ect x<=M
theorem Zay{α:Type}{f:α->List Ex}{M:Nat}{p:Ps α}(hd:Dn0 p)(h:Pb f M p): ∀n ts z,ts.length<=M->listG p n ts=some z->∀y∈z.1,∀x∈f y,ect x<=M
 |0,ts,z,_,hz=>by rw[listG]at hz;injection hz with hz;subst hz;intro y hy;cases hy
 |n+1,ts,z,hM,hz=>by
   rw[listG]at hz
   split at hz
   · rename_i hi
     obtain⟨w,h1,h2⟩:=bnd hz;obtain⟨y,h3,rfl⟩:=mpd h2;have h4:=(Zt hi).2;have h5:=(hd _ _ h1).length_le;intro v hv;rcases List.mem_cons.1 hv with rfl|hv
     · exact h _ _ qM h1
     · exact Zay hd h n _ _ qM h3 v hv
   · injection hz with hz;subst hz;intro y hy;cases hy
theorem Z5I{α:Type}{f:α->List Ex}{M:Nat}{p:Ps α}{most:Nat}(hd:Dn0 p)(h:Pb f M p){ts:List T3}{z:List α×List T3}(hM:ts.length<=M)(hz:listP most p ts=some z): ∀y∈z.1,∀x∈f y,ect x<=M:=by
 obtain⟨w,h1,h2⟩:=bnd hz;obtain⟨y,h3,h4⟩:=bnd h2;have h5:=(hd _ _ h1).length_le
 split at h4
 · injection h4 with h4;subst h4
   intro v hv;rcases List.mem_cons.1 hv with rfl|hv
   · exact h _ _ hM h1
   · exact Zay hd h _ _ _ qM h3 v hv
 · cases h4
theorem leM{a b:List T3}{M:Nat}(h:a<:+b)(hM:b.length<=M):a.length<=M:=Nat.le_trans h.length_le hM
section
variable{e:Ps Ex}(hd:Dn e)(he:Hb e){M:Nat}
include he
theorem e_b:Pb (fun x=>[x]) M e:=fun ts z hM h x hx=>by
 rw[List.mem_singleton.1 hx];have:=he _ _ h;omega
theorem Z7L{ts:List T3}{z:List Ex×List T3}(hM:ts.length<=M)(h:whereP e ts=some z): ∀x∈z.1,ect x<=M:=by
 unfold whereP at h
 split at h
 · rename_i hi
   obtain⟨v,h5,rfl⟩:=mpd h;intro x hx;rw[List.mem_singleton.1 hx];have:=he _ _ h5;have:=(Zt hi).2
   omega
 · injection h with h;subst h;intro x hx;cases hx
include hd
theorem Zau{most:Nat}{ts:List T3}{z:List Ex×List T3}(hM:ts.length<=M)(h:listP most e ts=some z): ∀x∈z.1,ect x<=M:=fun x hx=>Z5I hd.le (e_b he) hM h x hx x List.mem_cons_self
theorem ZcP:Pb (fun l=>l) M (withinP e):=fun ts z hM h=>by
 obtain⟨a,h1,h2⟩:=bnd h;obtain⟨l,h3,h4⟩:=bnd h2;obtain⟨v,h5,rfl⟩:=mpd h4;exact Zau (z:=l) hd he (leM (Z9 _ _ _ _ h1).1 hM) h3
theorem Za2: ∀n ts z,ts.length<=M->joinsG e n ts=some z->∀s∈z.1,∀x∈s.on,ect x<=M
 |0,ts,z,_,hz=>by rw[joinsG]at hz;injection hz with hz;subst hz;intro y hy;cases hy
 |n+1,ts,z,hM,hz=>by
   rw[joinsG]at hz
   split at hz
   · obtain⟨w,h1,h2⟩:=bnd hz
     obtain⟨y,h3,rfl⟩:=mpd h2;have h4:=(Z4L hd _ _ h1).1;have h5:=Z33 1 ZO ts;intro v hv;rcases List.mem_cons.1 hv with rfl|hv
     · obtain⟨a,g1,g2⟩:=bnd h1
       obtain⟨s,g3,g4⟩:=bnd g2;obtain⟨b,g5,g6⟩:=bnd g4;obtain⟨x,g7,g8⟩:=mpd g6;subst g8;have h6:b.2.length<=M:=leM ((Z9 _ _ _ _ g5).1.trans ((Z2T _ _ g3).1.trans ((Z9 _ _ _ _ g1).1.trans h5))) hM;intro y hy;rw[List.mem_singleton.1 hy];have:=he _ _ g7;omega
     · exact Za2 n _ _ (leM (h4.trans h5) hM) h3 v hv
   · injection hz with hz;subst hz;intro y hy;cases hy
theorem Zat{ts:List T3}{z:St×List T3}(hM:ts.length<=M)(h:stmtP e ts=some z): ∀x∈exsOf z.1,ect x<=M:=by
 unfold stmtP at h;obtain⟨w,h1,h⟩:=bnd h;have hw:w.2.length<=M:=leM (ZA 1 _ _ h1).1 hM
 split at h
 · unfold createP at h
   split at h
   · obtain⟨n,_,h⟩:=bnd h
     obtain⟨c,_,rfl⟩:=mpd h;intro x hx;simp[exsOf,stK]at hx
   · obtain⟨_,_,h⟩:=bnd h
     obtain⟨_,_,h⟩:=bnd h;obtain⟨_,_,h⟩:=bnd h;obtain⟨_,_,h⟩:=bnd h;obtain⟨_,_,h⟩:=bnd h;obtain⟨_,_,h⟩:=bnd h;obtain⟨_,_,h⟩:=bnd h
     split at h
     · obtain⟨v,_,rfl⟩:=mpd h
       intro x hx;simp[exsOf,stK]at hx
     · injection h with h;subst h
       intro x hx;simp[exsOf,stK]at hx
 split at h
 · obtain⟨a,g1,h⟩:=bnd h
   obtain⟨n,g2,h⟩:=bnd h;have h3:n.2.length<=M:=leM ((Zw _ _ g2).1.trans (Z9 _ _ _ _ g1).1) hw;have rows: ∀tb ns us z,us.length<=M->insRows e tb ns us=some z->∀x∈exsOf z.1,ect x<=M:=fun tb ns us z hu h=>by
     obtain⟨a,k1,h⟩:=bnd h;obtain⟨r,k2,rfl⟩:=mpd h;have:=Z5I (Z23 hd.le).le (ZcP hd he) (leM (Z9 _ _ _ _ k1).1 hu) k2;intro x hx
     simp[exsOf,stK]at hx
     obtain⟨l,hl,hx⟩:=hx;exact this l hl x hx
   split at h
   · obtain⟨l,g3,h⟩:=bnd h
     exact rows _ _ _ _ (leM (Z23 Zw.le _ _ g3).1 h3) h
   · exact rows _ _ _ _ h3 h
 split at h
 · obtain⟨i,g1,h⟩:=bnd h
   obtain⟨a,g2,h⟩:=bnd h;obtain⟨s,g3,h⟩:=bnd h;obtain⟨j,g4,h⟩:=bnd h;have hi:Pb (fun i:Itm=>[i.ex]) M (itemP e):=fun us z hu h=>by
     unfold itemP at h
     split at h
     · injection h with h;subst h
       intro x hx;rename_i ht;rw[List.mem_singleton.1 hx];have:=(Zt ht).2;show ect (.mk 0 0 0 em em em 0 [])<=M;rw[Z2p];omega
     · obtain⟨v,h5,rfl⟩:=mpd h
       intro x hx;rw[List.mem_singleton.1 hx];have:=he _ _ h5;dsimp only;omega
   have hk:Pb (fun k:Ky=>[k.ex]) M (keyP e):=fun us z hu h=>by
     obtain⟨v,h5,h6⟩:=mpd h;have:=he _ _ h5
     split at h6<;>subst h6<;>intro x hx<;>rw[List.mem_singleton.1 hx]<;>dsimp only<;>omega
   have b1:=Z5I (Z4r hd).le hi hw g1;have m1:=leM (Z1Q (Z4r hd).le 16 _ _ g1) hw;have m2:=leM (Z9 _ _ _ _ g2).1 m1;have m3:=leM (Z2T _ _ g3).1 m2;have b2:=Za2 hd he _ _ _ m3 g4
   split at h
   · obtain⟨w2,k1,h⟩:=bnd h
     obtain⟨g,k2,h⟩:=bnd h;obtain⟨o,k3,h⟩:=bnd h;obtain⟨l,k4,rfl⟩:=mpd h;have m4:j.2.length<=M:=by
       have: ∀n us z,joinsG e n us=some z->z.2<:+us:=fun n=>by
         induction n with
         |zero=>intro us z h;rw[joinsG]at h;injection h with h;subst h;exact List.suffix_refl us
         |succ n ih=>
           intro us z h;rw[joinsG]at h
           split at h
           · obtain⟨w,h1,h2⟩:=bnd h
             obtain⟨y,h3,rfl⟩:=mpd h2;exact(ih _ _ h3).trans ((Z4L hd _ _ h1).1.trans (Z33 _ _ _))
           · injection h with h;subst h;exact List.suffix_refl us
       exact leM (this _ _ _ g4) m3
     have b3:=Z7L he m4 k1;have m5:w2.2.length<=M:=by
       unfold whereP at k1
       split at k1
       · rename_i ht
         obtain⟨v,h5,rfl⟩:=mpd k1;exact leM ((hd _ _ h5).1.trans (Zt ht).1) m4
       · injection k1 with k1;subst k1;exact m4
     have b4: ∀x∈g.1,ect x<=M/\True:=fun x hx=>by
       unfold groupP at k2
       split at k2
       · rename_i ht
         obtain⟨a,q1,q2⟩:=bnd k2;exact⟨Zau hd he (leM ((Z9 _ _ _ _ q1).1.trans (Zt ht).1) m5) q2 x hx,trivial⟩
       · injection k2 with k2;subst k2;cases hx
     have m6:g.2.length<=M:=by
       unfold groupP at k2
       split at k2
       · rename_i ht
         obtain⟨a,q1,q2⟩:=bnd k2;exact leM ((Z1Q hd.le 16 _ _ q2).trans ((Z9 _ _ _ _ q1).1.trans (Zt ht).1)) m5
       · injection k2 with k2;subst k2;exact m5
     have b5: ∀k∈o.1,ect k.ex<=M:=fun k hx=>by
       unfold orderP at k3
       split at k3
       · rename_i ht
         obtain⟨a,q1,q2⟩:=bnd k3;exact Z5I (Z73 hd).le hk (leM ((Z9 _ _ _ _ q1).1.trans (Zt ht).1) m6) q2 k hx _ List.mem_cons_self
       · injection k3 with k3;subst k3;cases hx
     have hs:s.1.on=[]:=by
       unfold sourceP at g3;obtain⟨n,_,g3⟩:=bnd g3
       split at g3
       · obtain⟨m,_,rfl⟩:=mpd g3;rfl
       split at g3
       · obtain⟨m,_,rfl⟩:=mpd g3;rfl
       · injection g3 with g3;subst g3;rfl
     intro x hx
     simp[exsOf,stK,hs]at hx
     rcases hx with⟨a,ha,rfl⟩|⟨_,⟨a,ha,rfl⟩,hx⟩|⟨a,ha,rfl⟩|hx|hx
     · exact b1 a ha _ List.mem_cons_self
     · exact b2 a ha x hx
     · exact b5 a ha
     · exact b3 x hx
     · exact(b4 x hx).1
   · cases h
 split at h
 · obtain⟨n,g1,h⟩:=bnd h
   obtain⟨a,g2,h⟩:=bnd h;obtain⟨l,g3,h⟩:=bnd h;obtain⟨w2,g4,rfl⟩:=mpd h;have hs:Pb (fun k:ByteArray×Ex=>[k.2]) M (setP e):=fun us z hu h=>by
     obtain⟨a,h1,h2⟩:=bnd h;obtain⟨l,h3,h4⟩:=bnd h2;obtain⟨v,h5,rfl⟩:=mpd h4;intro x hx;rw[List.mem_singleton.1 hx];have:=he _ _ h5;have:=(Z9 _ _ _ _ h3).2;have:=(Zw _ _ h1).2;dsimp only;omega
   have m1:=leM ((Z9 _ _ _ _ g2).1.trans (Zw _ _ g1).1) hw;have b1:=Z5I (Z5W hd).le hs m1 g3;have b2:=Z7L he (leM (Z1Q (Z5W hd).le 16 _ _ g3) m1) g4;intro x hx
   simp[exsOf,stK]at hx
   rcases hx with hx|⟨a,ha⟩
   · exact b2 x hx
   · exact b1 _ ha _ List.mem_cons_self
 split at h
 · obtain⟨a,g1,h⟩:=bnd h
   obtain⟨n,g2,h⟩:=bnd h;obtain⟨w2,g3,rfl⟩:=mpd h;have b2:=Z7L he (leM ((Zw _ _ g2).1.trans (Z9 _ _ _ _ g1).1) hw) g3;intro x hx
   simp[exsOf,stK]at hx
   exact b2 x hx
 split at h
 · injection h with h;subst h;intro x hx;simp[exsOf,stK]at hx
 split at h
 · injection h with h;subst h;intro x hx;simp[exsOf,stK]at hx
 split at h
 · injection h with h;subst h;intro x hx;simp[exsOf,stK]at hx
 · cases h
end
end Go.Pz
set_option maxRecDepth 20000
namespace Go.Proofs.YtbedigkncjbggaaDoor
open Go Go.Vc
open Go.Pz
abbrev hgK(xs:List Ex)(i:Nat):Nat:=hgts (xs.take i)
theorem Zbu(xs:List Ex)(x:Ex):hgts (xs++[x])=max (hgts xs) (hgt x):=by
 induction xs with
 |nil=>simp[hgts]
 |cons y ys ih=>rw[List.cons_append,hgts,hgts,ih];omega
theorem ZcI{xs:List Ex}{i:Nat}(h:i<xs.length):hgK xs (i+1)=max (hgK xs i) (hgt (xs.getD i ex0)):=by
 show hgts (xs.take (i+1))=_;rw[List.take_add_one,List.getElem?_eq_getElem h,Option.toList_some,Zbu,List.getD_eq_getElem?_getD,List.getElem?_eq_getElem h]
 rfl
theorem Z9b(x:Ex):hgt x=hgts x.KS+1:=by cases x;rw[hgt];rfl
theorem Z7M{xs:List Ex}{i:Nat}(h:i<xs.length):xs.getD i ex0∈xs:=by
 rw[List.getD_eq_getElem?_getD,List.getElem?_eq_getElem h];exact List.getElem_mem h
theorem Z9j{xs:List Ex}{i:Nat}(h:i<xs.length):xs[i]? =some (xs.getD i ex0):=by
 rw[List.getD_eq_getElem?_getD,List.getElem?_eq_getElem h];rfl
theorem Z6z(x:Ex)(hx:ect x<=4096)(ih: ∀y∈x.KS,CallTy Tryd.prog Z3A [.rep (ExR y)] (.is (.int .i64 (hgt y:Nat)))):CallTy Tryd.prog Z3A [.rep (ExR x)] (.is (.int .i64 (hgt x:Nat))):=
 CallTy.of (fn:=Tryd.f22) Tryd.func22 (n:=20) rfl rfl rfl (fun _ _=>by kernel_rfl) fun E W=>by
 have hlen:=Zck x.KS;rw[Z6E]at hx;have hhx:=Z6K x.KS;refine J.openA (s:=0) rfl (fun a0 l0 q0 b0 o0 hl0 ha0=>?_);subst hl0;refine vQ ?_;refine JO.box rfl rfl fun b1=>(Ja rfl (vP [1] ?_));refine Ja rfl (vP [1,3] ?_);refine Jq (Z0 Z8Y rfl) (Jq (Z5 ZW rfl rfl) (Jq (ZS ZY rfl) (Jm rfl (vS [3,7,8,9] ?_))));apply yk
 repeat apply yQ
 refine J.loopG (α:=Nat) (fun i=>[(3,.is (.int .i64 (hgK x.KS i:Nat))),(7,.is (.slice a0 x.KS.length q0)),(8,.is (.int .i64 (x.KS.length:Nat))),(9,.is (.int .i64 (i:Nat)))]) (fun i=>[⟨b1,Z4,.is (.agg (exCells x.K x.VK x.VN x.VS x.TB x.NM x.SL a0 x.KS.length q0).toArray)⟩]) (fun i=>fun _=>True) (fun i=>i<=x.KS.length) (fun i=>x.KS.length-i) 0 [3,7,8,9] (.cons rfl (.cons rfl (.cons rfl (.cons rfl .nil)))) rfl (fun _=>trivial) qM fun i hi=>?_;refine vQ ?_;refine Jq (Z1o rfl rfl) (vS [3,7,8,9,10] ?_);refine yC rfl (fun ht10=>?_) (fun ht10=>?_)
 try simp only[yd,yf]at ht10
 apply yK;refine vN ?_;apply yk;refine vQ ?_;refine Jq (Zq Z2R rfl (ha0 qM) rfl qM qM) ?_;refine Jq (Z85 (kid:=x.KS.getD i ex0) Z7 rfl qI (ha0 qM) (Z9j qM) qM) ?_;refine JO.alloc ZM rfl fun b5=>(JO.m (Z2 rfl rfl qU qC qO Zf) (by rfl) ?_);refine vP [3,5,7,8,9] ?_;refine Jm rfl (Jq (Z21 Z7 rfl) (Jq (ZV rfl (ih _ (Z7M qM)) (.one rfl .nil)) ?_));refine Jq (Zd2 (cc:=((hgK x.KS (i+1):Nat):Int)) rfl rfl (by rw[ZcI qM];split<;>omega)) ?_;refine Ja rfl (vP [3,7,8,9] ?_);refine Jq (ZB (cc:=((i+1:Nat):Int)) rfl rfl qM qM (by have:=hlen;omega)) ?_;refine Jm rfl ?_;apply yI
 repeat refine JX.normal_block ?_
 refine JX.roundG (x:=i) (i+1) ?_ ?_ [3,7,8,9] ?_ ?_ ?_ ?_
 · exact qM
 · exact qM
 · exact qS
 · exact qH
 · exact qG
 · exact fun _ _ _=>fun _ _=>trivial
 try simp only[yd,yf]at ht10
 repeat apply yQ
 refine J.exit ?_
 repeat first|refine yH ?_|refine yM rfl ?_|refine yE ?_
 refine vN ?_;apply yN;refine Jm rfl (Jq (ZB (cc:=((hgt x:Nat):Int)) rfl rfl (by rw[Z9b,show i=x.KS.length by omega,hgK,List.take_length];omega) (by have:=Z9b x;omega) (by have:=Z9b x;omega)) ?_);refine Ja rfl (vS [2] ?_);refine vR ?_;exact JX.ret1sub rfl rfl rfl (Sub.refl _)
theorem Z5v: ∀(n:Nat) (x:Ex),ect x<=n->ect x<=4096->CallTy Tryd.prog Z3A [.rep (ExR x)] (.is (.int .i64 (hgt x:Nat)))
 |0,x,h,_=>absurd h (by rw[Z6E];omega)
 |n+1,x,h,hx=>Z6z x hx fun y hy=>Z5v n y (by have:=Z9T hy;rw[Z6E]at h;omega) (by have:=Z9T hy;rw[Z6E]at hx;omega)
end Go.Proofs.YtbedigkncjbggaaDoor
namespace Go.Pz
open Go Go.Vc
def SmS(s:St):Prop:=s.rows.length<=32/\(∀r∈s.rows,r.length<=16)/\s.items.length<=16/\s.from_.length<=4/\(∀f∈s.from_,f.on.length<=1)/\s.order.length<=16/\s.where_.length<=1/\s.group.length<=16/\s.sets.length<=16/\s.cols.length<=16/\s.names.length<=16
theorem Z3h{α:Type}{most:Nat}{p:Ps α}{ts:List T3}{z:List α×List T3}(h:listP most p ts=some z):z.1.length<=most:=by
 obtain⟨w,h1,h2⟩:=bnd h;obtain⟨y,h3,h4⟩:=bnd h2
 split at h4
 · injection h4 with h4;subst h4;simpa using ‹_›
 · cases h4
theorem Zbk{α:Type}{F:α->Prop}{most:Nat}{p:Ps α}(hp: ∀ts z,p ts=some z->F z.1){ts:List T3}{z:List α×List T3}(h:listP most p ts=some z): ∀x∈z.1,F x:=by
 have key: ∀n ts z,listG p n ts=some z->∀x∈z.1,F x:=by
   intro n
   induction n with
   |zero=>intro ts z h;rw[listG]at h;injection h with h;subst h;intro x hx;cases hx
   |succ n ih=>
     intro ts z h;rw[listG]at h
     split at h
     · obtain⟨w,h1,h2⟩:=bnd h
       obtain⟨y,h3,rfl⟩:=mpd h2;intro x hx;rcases List.mem_cons.1 hx with rfl|hx
       · exact hp _ _ h1
       · exact ih _ _ h3 x hx
     · injection h with h;subst h;intro x hx;cases hx
 obtain⟨w,h1,h2⟩:=bnd h;obtain⟨y,h3,h4⟩:=bnd h2
 split at h4
 · injection h4 with h4;subst h4
   intro x hx;rcases List.mem_cons.1 hx with rfl|hx
   · exact hp _ _ h1
   · exact key _ _ _ h3 x hx
 · cases h4
theorem Z5c{α:Type}{p:Ps α}{ts:List T3}{z:List α×List T3}(h:withinP p ts=some z):z.1.length<=16:=by
 obtain⟨a,h1,h2⟩:=bnd h;obtain⟨l,h3,h4⟩:=bnd h2;obtain⟨v,h5,rfl⟩:=mpd h4;exact Z3h (z:=l) h3
theorem Z6i{e:Ps Ex}{ts:List T3}{z:List Ex×List T3}(h:whereP e ts=some z):z.1.length<=1:=by
 unfold whereP at h
 split at h
 · obtain⟨v,h5,rfl⟩:=mpd h;exact Nat.le_refl _
 · injection h with h;subst h;exact Nat.zero_le _
theorem ZbX{e:Ps Ex}: ∀n ts z,joinsG e n ts=some z->∀s∈z.1,s.on.length<=1:=by
 intro n
 induction n with
 |zero=>intro ts z h;rw[joinsG]at h;injection h with h;subst h;intro x hx;cases hx
 |succ n ih=>
   intro ts z h;rw[joinsG]at h
   split at h
   · obtain⟨w,h1,h2⟩:=bnd h
     obtain⟨y,h3,rfl⟩:=mpd h2;intro v hv;rcases List.mem_cons.1 hv with rfl|hv
     · obtain⟨a,g1,g2⟩:=bnd h1
       obtain⟨s,g3,g4⟩:=bnd g2;obtain⟨b,g5,g6⟩:=bnd g4;obtain⟨x,g7,g8⟩:=mpd g6;subst g8;exact Nat.le_refl _
     · exact ih _ _ h3 v hv
   · injection h with h;subst h;intro x hx;cases hx
theorem Z9U(k:Int):SmS (stK k):=by
 refine⟨Nat.zero_le _,?_,Nat.zero_le _,Nat.zero_le _,?_,Nat.zero_le _,Nat.zero_le _,Nat.zero_le _,Nat.zero_le _,Nat.zero_le _,Nat.zero_le _⟩<;>intro x hx<;>cases hx
theorem Z9H{e:Ps Ex}{ts:List T3}{z:St×List T3}(h:stmtP e ts=some z):SmS z.1:=by
 have n0: ∀{α:Type} {p:α->Prop},∀x∈([]:List α),p x:=fun x hx=>by cases hx
 unfold stmtP at h;obtain⟨w,h1,h⟩:=bnd h
 split at h
 · unfold createP at h
   split at h
   · obtain⟨n,_,h⟩:=bnd h
     obtain⟨c,hc,rfl⟩:=mpd h;have:=Z5c hc;exact⟨Nat.zero_le _,n0,Nat.zero_le _,Nat.zero_le _,n0,Nat.zero_le _,Nat.zero_le _,Nat.zero_le _,Nat.zero_le _,this,Nat.zero_le _⟩
   · obtain⟨_,_,h⟩:=bnd h
     obtain⟨_,_,h⟩:=bnd h;obtain⟨_,_,h⟩:=bnd h;obtain⟨_,_,h⟩:=bnd h;obtain⟨_,_,h⟩:=bnd h;obtain⟨_,_,h⟩:=bnd h;obtain⟨_,_,h⟩:=bnd h;have one: ∀x:ByteArray,[x].length<=16:=fun x=>by show 1<=16;omega
     split at h
     · obtain⟨v,_,rfl⟩:=mpd h
       exact⟨Nat.zero_le _,n0,Nat.zero_le _,Nat.zero_le _,n0,Nat.zero_le _,Nat.zero_le _,Nat.zero_le _,Nat.zero_le _,Nat.zero_le _,one _⟩
     · injection h with h;subst h
       exact⟨Nat.zero_le _,n0,Nat.zero_le _,Nat.zero_le _,n0,Nat.zero_le _,Nat.zero_le _,Nat.zero_le _,Nat.zero_le _,Nat.zero_le _,one _⟩
 split at h
 · obtain⟨a,g1,h⟩:=bnd h
   obtain⟨n,g2,h⟩:=bnd h;have rows: ∀tb ns us z,ns.length<=16->insRows e tb ns us=some z->SmS z.1:=fun tb ns us z hn h=>by
     obtain⟨a,k1,h⟩:=bnd h;obtain⟨r,k2,rfl⟩:=mpd h;exact⟨Z3h k2,Zbk (F:=fun r=>r.length<=16) (fun _ _ h=>Z5c h) k2,Nat.zero_le _,Nat.zero_le _,n0,Nat.zero_le _,Nat.zero_le _,Nat.zero_le _,Nat.zero_le _,Nat.zero_le _,hn⟩
   split at h
   · obtain⟨l,g3,h⟩:=bnd h
     exact rows _ _ _ _ (Z5c g3) h
   · exact rows _ _ _ _ (Nat.zero_le _) h
 split at h
 · obtain⟨i,g1,h⟩:=bnd h
   obtain⟨a,g2,h⟩:=bnd h;obtain⟨s,g3,h⟩:=bnd h;obtain⟨j,g4,h⟩:=bnd h
   split at h
   · rename_i hj
     obtain⟨w2,k1,h⟩:=bnd h;obtain⟨g,k2,h⟩:=bnd h;obtain⟨o,k3,h⟩:=bnd h;obtain⟨l,k4,rfl⟩:=mpd h;refine⟨Nat.zero_le _,n0,Z3h g1,?_,?_,?_,Z6i k1,?_,Nat.zero_le _,Nat.zero_le _,Nat.zero_le _⟩
     · show(s.1::j.1).length<=4
       rw[List.length_cons];exact hj
     · intro f hf
       rcases List.mem_cons.1 hf with rfl|hf
       · rw[Z8H g3];exact Nat.zero_le _
       · exact ZbX _ _ _ g4 f hf
     · unfold orderP at k3
       split at k3
       · obtain⟨a,q1,q2⟩:=bnd k3
         exact Z3h q2
       · injection k3 with k3;subst k3;exact Nat.zero_le _
     · unfold groupP at k2
       split at k2
       · obtain⟨a,q1,q2⟩:=bnd k2
         exact Z3h q2
       · injection k2 with k2;subst k2;exact Nat.zero_le _
   · cases h
 split at h
 · obtain⟨n,g1,h⟩:=bnd h
   obtain⟨a,g2,h⟩:=bnd h;obtain⟨l,g3,h⟩:=bnd h;obtain⟨w2,g4,rfl⟩:=mpd h;have hl:=Z3h g3;refine⟨Nat.zero_le _,n0,Nat.zero_le _,Nat.zero_le _,n0,Nat.zero_le _,Z6i g4,Nat.zero_le _,?_,Nat.zero_le _,?_⟩
   · show(l.1.map (·.2)).length<=16
     rw[List.length_map];exact hl
   · show(l.1.map (·.1)).length<=16
     rw[List.length_map];exact hl
 split at h
 · obtain⟨a,g1,h⟩:=bnd h
   obtain⟨n,g2,h⟩:=bnd h;obtain⟨w2,g3,rfl⟩:=mpd h;exact⟨Nat.zero_le _,n0,Nat.zero_le _,Nat.zero_le _,n0,Nat.zero_le _,Z6i g3,Nat.zero_le _,Nat.zero_le _,Nat.zero_le _,Nat.zero_le _⟩
 split at h
 · injection h with h;subst h;exact Z9U 7
 split at h
 · injection h with h;subst h;exact Z9U 8
 split at h
 · injection h with h;subst h;exact Z9U 9
 · cases h
theorem ZbV{e:Ps Ex}(hd:Dn e): ∀n us z,joinsG e n us=some z->z.2<:+us:=fun n=>by
 induction n with
 |zero=>intro us z h;rw[joinsG]at h;injection h with h;subst h;exact List.suffix_refl us
 |succ n ih=>
   intro us z h;rw[joinsG]at h
   split at h
   · obtain⟨w,h1,h2⟩:=bnd h
     obtain⟨y,h3,rfl⟩:=mpd h2;exact(ih _ _ h3).trans ((Z4L hd _ _ h1).1.trans (Z33 _ _ _))
   · injection h with h;subst h;exact List.suffix_refl us
theorem ZcM{e:Ps Ex}(hd:Dn e){ts:List T3}{z:St×List T3}(h:stmtP e ts=some z):z.2<:+ts:=by
 unfold stmtP at h;obtain⟨w,h1,h⟩:=bnd h;have hw:=(ZA 1 _ _ h1).1;refine List.IsSuffix.trans ?_ hw
 clear h1 hw
 generalize hg:w.2=us at h ⊢
 clear hg
 split at h
 · unfold createP at h
   split at h
   · rename_i ht
     obtain⟨n,g1,h⟩:=bnd h;obtain⟨c,hc,rfl⟩:=mpd h;exact(Z23 Zaq.le _ _ hc).1.trans ((Zw _ _ g1).1.trans (Zt ht).1)
   · obtain⟨_,g1,h⟩:=bnd h
     obtain⟨_,g2,h⟩:=bnd h;obtain⟨_,g3,h⟩:=bnd h;obtain⟨_,g4,h⟩:=bnd h;obtain⟨_,g5,h⟩:=bnd h;obtain⟨_,g6,h⟩:=bnd h;obtain⟨_,g7,h⟩:=bnd h;have hs:=(Z9 _ _ _ _ g7).1.trans ((Zw _ _ g6).1.trans ((Z9 _ _ _ _ g5).1.trans ((Zw _ _ g4).1.trans ((Z9 _ _ _ _ g3).1.trans ((Zw _ _ g2).1.trans (Z9 _ _ _ _ g1).1)))))
     split at h
     · rename_i ht
       obtain⟨v,g8,rfl⟩:=mpd h;exact(Z9 _ _ _ _ g8).1.trans ((Zt ht).1.trans hs)
     · injection h with h;subst h;exact hs
 split at h
 · obtain⟨a,g1,h⟩:=bnd h
   obtain⟨n,g2,h⟩:=bnd h;have hs:=(Zw _ _ g2).1.trans (Z9 _ _ _ _ g1).1;have rows: ∀tb ns us z,insRows e tb ns us=some z->z.2<:+us:=fun tb ns us z h=>by
     obtain⟨a,k1,h⟩:=bnd h;obtain⟨r,k2,rfl⟩:=mpd h;exact(Z1Q (Z23 hd.le).le _ _ _ k2).trans (Z9 _ _ _ _ k1).1
   split at h
   · obtain⟨l,g3,h⟩:=bnd h
     exact(rows _ _ _ _ h).trans ((Z23 Zw.le _ _ g3).1.trans hs)
   · exact(rows _ _ _ _ h).trans hs
 split at h
 · obtain⟨i,g1,h⟩:=bnd h
   obtain⟨a,g2,h⟩:=bnd h;obtain⟨s,g3,h⟩:=bnd h;obtain⟨j,g4,h⟩:=bnd h;have hs:=(ZbV hd _ _ _ g4).trans ((Z2T _ _ g3).1.trans ((Z9 _ _ _ _ g2).1.trans (Z1Q (Z4r hd).le _ _ _ g1)))
   split at h
   · obtain⟨w2,k1,h⟩:=bnd h
     obtain⟨g,k2,h⟩:=bnd h;obtain⟨o,k3,h⟩:=bnd h;obtain⟨l,k4,rfl⟩:=mpd h;have m1:=(Z4V hd k1).trans hs;have m2:g.2<:+w2.2:=by
       unfold groupP at k2
       split at k2
       · rename_i ht
         obtain⟨a,q1,q2⟩:=bnd k2;exact(Z1Q hd.le _ _ _ q2).trans ((Z9 _ _ _ _ q1).1.trans (Zt ht).1)
       · injection k2 with k2;subst k2;exact List.suffix_refl _
     have m3:o.2<:+g.2:=by
       unfold orderP at k3
       split at k3
       · rename_i ht
         obtain⟨a,q1,q2⟩:=bnd k3;exact(Z1Q (Z73 hd).le _ _ _ q2).trans ((Z9 _ _ _ _ q1).1.trans (Zt ht).1)
       · injection k3 with k3;subst k3;exact List.suffix_refl _
     have m4:l.2<:+o.2:=by
       unfold limitP at k4
       split at k4
       · rename_i ht
         obtain⟨v,q1,rfl⟩:=mpd k4;exact(ZA 3 _ _ q1).1.trans (Zt ht).1
       · injection k4 with k4;subst k4;exact List.suffix_refl _
     exact m4.trans (m3.trans (m2.trans m1))
   · cases h
 split at h
 · obtain⟨n,g1,h⟩:=bnd h
   obtain⟨a,g2,h⟩:=bnd h;obtain⟨l,g3,h⟩:=bnd h;obtain⟨w2,g4,rfl⟩:=mpd h;exact(Z4V hd g4).trans ((Z1Q (Z5W hd).le _ _ _ g3).trans ((Z9 _ _ _ _ g2).1.trans (Zw _ _ g1).1))
 split at h
 · obtain⟨a,g1,h⟩:=bnd h
   obtain⟨n,g2,h⟩:=bnd h;obtain⟨w2,g3,rfl⟩:=mpd h;exact(Z4V hd g3).trans ((Zw _ _ g2).1.trans (Z9 _ _ _ _ g1).1)
 split at h
 · injection h with h;subst h;exact List.suffix_refl _
 split at h
 · injection h with h;subst h;exact List.suffix_refl _
 split at h
 · injection h with h;subst h;exact List.suffix_refl _
 · cases h
theorem Ze1(p:Cel rwE):p.cs=[hdv p.cs]:=by
 obtain⟨x,cs,h,o⟩:=p
 match cs,h with
 |[a],_=>rfl
theorem Zdd{ps:List (Cel rwE)}{p:Cel rwE}{w:World}(hp:p∈ps)(h:CelF rwE ps w):ExsR p.x (hdv p.cs) w:=by
 obtain⟨v,hv,hR⟩:=h p hp;rw[hv];exact hR
theorem ZdB(p:Cel itE): ∃(u:Value) (q:Cel exE),p.cs=u::q.cs/\q.x=p.x.ex/\ ∀ps w,p∈ps->CelF itE ps w->CelR q w:=by
 obtain⟨x,cs,h,o⟩:=p
 match cs,h,o with
 |u::es,h,o=>
   refine⟨u,⟨x.ex,es,by simpa [itE,exE] using h,fun v hv=>o v (List.mem_cons_of_mem _ hv)⟩,rfl,rfl,fun ps w hp hF=>?_⟩;obtain⟨es',he,hR⟩:=hF _ hp;injection he with he1 he2
   subst he2;exact hR
theorem Zdy(p:Cel kyE): ∃(u:Value) (q:Cel exE),p.cs=q.cs++[u]/\q.x=p.x.ex/\ ∀ps w,p∈ps->CelF kyE ps w->CelR q w:=by
 obtain⟨x,cs,h,o⟩:=p;have h9:cs.length=9:=h;obtain⟨es,u,rfl⟩: ∃es u,cs=es++[u]:=⟨cs.dropLast,cs.getLast (by intro e;rw[e]at h9;cases h9),(List.dropLast_concat_getLast _).symm⟩;refine⟨u,⟨x.ex,es,by show es.length=8;rw[List.length_append,List.length_singleton]at h9;omega,fun v hv=>o v (List.mem_append_left _ hv)⟩,rfl,rfl,fun ps w hp hF=>?_⟩;obtain⟨es',he,hR⟩:=hF _ hp;have:=List.append_inj' he rfl;show ExR x.ex (.agg es.toArray) w;rw[show es=es' from this.1];exact hR
theorem ZdE(p:Cel srE): ∃a b v:Value,p.cs=[a,b,v]/\ ∀ps w,p∈ps->CelF srE ps w->ExsR p.x.on v w:=by
 obtain⟨x,cs,h,o⟩:=p
 match cs,h,o with
 |[a,b,v],h,o=>
   refine⟨a,b,v,rfl,fun ps w hp hF=>?_⟩;obtain⟨v',he,hR⟩:=hF _ hp;injection he with _ he
   injection he with _ he
   injection he with he _
   subst he;exact hR
theorem cs8(q:Cel exE): ∃a b c d e f g h:Value,q.cs=[a,b,c,d,e,f,g,h]:=by
 obtain⟨x,cs,h,o⟩:=q
 match cs,h with
 |[a,b,c,d,e,f,g,h],_=>exact⟨a,b,c,d,e,f,g,h,rfl⟩
section
variable{P:Program}{c:Ctx}{K:List (Nat×Ty)}{L:List Own}{Φ:List (World->Prop)}{Q:Exit->Act->World->Prop}
theorem ZbJ{xs:List Ex}{v:Value}{X:Nat->Prop}{w:World}(h:Pers X w (ExsR xs v)): ∃(a:Option Addr) (len cap b o:Nat),v= .slice a len cap/\xs.length=len/\(len≠0->a=some ⟨b,o,none⟩)/\Pers X w (KidsR xs a len):=by
 obtain⟨a,len,cap,rfl,hk⟩:=h.now;have hp:Pers X w (KidsR xs a len):=fun w' hk=>by
   obtain⟨a',len',cap',e,h1⟩:=h w' hk;injection e with e1 e2 e3
   subst e1 e2 e3;exact h1
 by_cases hn:len=0
 · exact⟨a,len,cap,0,0,rfl,hk.1,fun h=>absurd hn h,hp⟩
 · obtain⟨b,o,e,_⟩:=hk.2 hn
   exact⟨a,len,cap,b,o,rfl,hk.1,fun _=>e,hp⟩
theorem J.shapeK{x:Code}{xs:List Ex}{v:Value}(h:ExsR xs v∈Φ)(hj: ∀(a:Option Addr) (len cap b o:Nat),v= .slice a len cap->xs.length=len->(len≠0->a=some ⟨b,o,none⟩)->J P c K L (KidsR xs a len::Φ) x Q):J P c K L Φ x Q:=by
 refine⟨fun X a' w hs=>?_⟩;obtain⟨a,len,cap,b,o,h1,h2,h3,h4⟩:=ZbJ (hs.f _ h);refine(hj a len cap b o h1 h2 h3).out X a' w (SA.more hs [_] fun F hF=>?_);rw[List.mem_singleton.1 hF];exact h4
theorem J.openNew{y:Code}{s:Nat}{cs:List Value}{e:TypeId}{n cap:Nat}(h:Go.Vc.look K s=some (.newSl (.cells cs.toArray e (0,0)) n cap))(hj: ∀b,J P c ((s,.is (.slice (some ⟨b,0,none⟩) n cap))::K) L (HeapIs b cs e::Φ) y Q):J P c K L Φ y Q:=by
 refine⟨fun X a w hs=>?_⟩;obtain⟨b,hv,hE,hb⟩:=hs.k s _ h;refine(hj b).out X a w (hs.tell hv [_] fun F hF=>?_);rw[List.mem_singleton.1 hF];exact fun w' hk=>hk.get hb hE
end
def deepX(s:St):List (List Ex):=[s.rows.flatten++s.items.map (·.ex)++(s.from_.map (·.on)).flatten++s.order.map (·.ex),s.where_,s.group,s.sets]
abbrev dvs(a b c d:Value):List Value:=[a,b,c,d]
theorem Z7Q(s:St):exsOf s=(deepX s).flatten:=by simp[exsOf,deepX]
theorem Zar{α:Type}{c:Nat}{l:List (List α)}(h: ∀r∈l,r.length<=c):l.flatten.length<=c*l.length:=by
 induction l with
 |nil=>simp
 |cons x xs ih=>
   have h1:=h x List.mem_cons_self;have h2:=ih fun r hr=>h r (List.mem_cons_of_mem _ hr);rw[List.flatten_cons,List.length_append,List.length_cons,Nat.mul_succ];omega
theorem Zbc{s:St}(h:SmS s)(k:Nat):((deepX s).getD k []).length<=1000:=by
 obtain⟨h1,h2,h3,h4,h5,h6,h7,h8,h9,_⟩:=h
 match k with
 |0=>
   show(s.rows.flatten++s.items.map (·.ex)++(s.from_.map (·.on)).flatten++s.order.map (·.ex)).length<=1000;have a1:=Zar h2;have a2:=Zar (c:=1) (l:=s.from_.map (·.on)) (by intro r hr;obtain⟨f,hf,rfl⟩:=List.mem_map.1 hr;exact h5 f hf);simp only[List.length_append,List.length_map]at*
   omega
 |1=>exact Nat.le_trans h7 qD
 |2=>exact Nat.le_trans h8 qD
 |3=>exact Nat.le_trans h9 qD
 |k+4=>exact Nat.zero_le _
theorem Z6L{s:St}{k:Nat}{y:Ex}(h:y∈(deepX s).getD k []):y∈exsOf s:=by
 rw[Z7Q,List.mem_flatten]
 by_cases hk:k<(deepX s).length
 · exact⟨_,List.getElem_mem hk,by rwa [List.getD_eq_getElem?_getD,List.getElem?_eq_getElem hk]at h⟩
 · rw[List.getD_eq_getElem?_getD,List.getElem?_eq_none qM]at h;cases h
theorem ZbZ{s:St}{k i:Nat}(h:i<((deepX s).getD k []).length)(hh:32<hgt (((deepX s).getD k []).getD i ex0)):deepS s=true:=by
 refine List.any_eq_true.2 ⟨_,Z6L (k:=k) (y:=((deepX s).getD k []).getD i ex0) ?_,decide_eq_true hh⟩
 generalize (deepX s).getD k []=l at*
 rw[List.getD_eq_getElem?_getD,List.getElem?_eq_getElem h];exact List.getElem_mem h
theorem Zci{s:St}(h: ∀k,k<4->∀i,i<((deepX s).getD k []).length->¬32<hgt (((deepX s).getD k []).getD i ex0)):deepS s=false:=by
 unfold deepS;rw[List.any_eq_false];intro x hx;rw[Z7Q,List.mem_flatten]at hx;obtain⟨l,hl,hx⟩:=hx;obtain⟨k,hk,rfl⟩:=List.mem_iff_getElem.1 hl;obtain⟨i,hi,rfl⟩:=List.mem_iff_getElem.1 hx;have e1:(deepX s).getD k []=(deepX s)[k]:=by rw[List.getD_eq_getElem?_getD,List.getElem?_eq_getElem hk];rfl
 have:=h k hk i (by rw[e1];exact hi);rw[e1,List.getD_eq_getElem?_getD,List.getElem?_eq_getElem hi]at this
 simpa using this
end Go.Pz
