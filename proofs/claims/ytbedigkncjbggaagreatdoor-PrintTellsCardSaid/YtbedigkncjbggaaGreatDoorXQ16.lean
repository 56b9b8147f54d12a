/- The document's reader: expressions. No condition. -/
import Derived.Test.YtbedigkncjbggaaGreatDoorXQ15
import Derived.Test.YtbedigkncjbggaaGreatDoorXQ14
import Derived.Test.YtbedigkncjbggaaGreatDoorXQ8
import Derived.Test.YtbedigkncjbggaaGreatDoorXQ1
set_option maxRecDepth 20000
namespace Go.Proofs.YtbedigkncjbggaaGreatDoor
open Go Go.Vc
open Go.Pz
theorem Zgj{P:Program}{L:List Own}{Φ:List (World->Prop)}{H:Know}{dst:Option Nat}{ty:TypeId}{pos:String}{after:Array Edge}{g:Option (Nat×Bool)}{t:Operand}{a b:Value}(h:H t (.is (.tuple #[a,b]))):Ob P L Φ H ⟨dst,.extract t 0,ty,pos,after,g⟩ (.is a):=Z25 fun E w ρ hp=>by
 have e:ρ t= .tuple #[a,b]:=hp.x t _ (by simp[Op.operands]) h
 simp[execOp,e,Instr.extract]
theorem Zgz{P:Program}{L:List Own}{Φ:List (World->Prop)}{H:Know}{dst:Option Nat}{ty:TypeId}{pos:String}{after:Array Edge}{g:Option (Nat×Bool)}{t:Operand}{a b:Value}(h:H t (.is (.tuple #[a,b]))):Ob P L Φ H ⟨dst,.extract t 1,ty,pos,after,g⟩ (.is b):=Z25 fun E w ρ hp=>by
 have e:ρ t= .tuple #[a,b]:=hp.x t _ (by simp[Op.operands]) h
 simp[execOp,e,Instr.extract]
theorem Z9o{k:Int}{s:ByteArray}{us:List T3}:skRB k s us false=skT k s us:=by unfold skRB isRB skT;rw[Bool.not_false,Bool.true_and]
abbrev gnk(p:Bool)(s:ByteArray)(vs:List T3)(bd:Bool):List T3:=if p then skRB 1 s vs bd else vs
structure InvX (l:Int) (us:List T3) (bad:Bool) (x:Ex) (vs:List T3) (bd c:Bool):Prop where
 suf:vs<:+us
 fin: ∀n,us.length<=n->∀y,Rv (loopC (exprR n) l x c vs) vs bd y->Rv (exprR (n+1) l us) us bad y
theorem InvX.fac{l:Int}{us:List T3}{bad:Bool}{z:Ex×List T3×Bool}(h:(decide (l<3)&&isRB 1 Z1c us bad)=false)(hz: ∀n,us.length<=n->Rv (factorR (exprR n 0) us) us bad z):InvX l us bad z.1 z.2.1 z.2.2 false:=by
 refine⟨(hz us.length (Nat.le_refl _)).suf,fun n hn y hy=>?_⟩;rw[exprR];refine Rv.ite_fc (fun hc=>?_) ((hz n hn).bind hy);simp only[Bool.and_eq_true]at hc;rw[hc.1,Bool.true_and]at h;cases hb:bad with
 |true=>rfl
 |false=>rw[hb]at h;unfold isRB at h;rw[hc.2]at h;cases h
theorem InvX.not{l:Int}{us:List T3}{bad:Bool}{z:Ex×List T3×Bool}(h:(decide (l<3)&&isRB 1 Z1c us bad)=true)(hz: ∀n,us.tail.length<n->Rv (exprR n 2 us.tail) us.tail bad z):InvX l us bad (nd 4 [z.1]) z.2.1 z.2.2 true:=by
 rw[Bool.and_eq_true]at h;have hl:=(ZG (Z2I h.2).2).2;refine⟨(hz (us.tail.length+1) qM).suf.trans (List.tail_suffix us),fun n hn y hy=>?_⟩;rw[exprR];dsimp only;rw[if_pos (by rw[h.1,(Z2I h.2).2];rfl)];exact Rv.up_tail ((hz n qM).bind hy)
theorem Zfu{vs:List T3}(h:(0:Int)<(binR vs).1):vs≠[]:=fun e=>by subst e;exact absurd h qD
theorem InvX.bin{l:Int}{us vs:List T3}{bad c:Bool}{x:Ex}(hI:InvX l us bad x vs false c)(h:((decide (0<(binR vs).1)&&decide (l<(binR vs).2))&& !(c&&decide (4<=(binR vs).2)))=true){z:Ex×List T3×Bool}(hz: ∀n,vs.tail.length<n->Rv (exprR n (binR vs).2 vs.tail) vs.tail false z):InvX l us bad (nd (binR vs).1 [x,z.1]) z.2.1 z.2.2 (c||decide ((binR vs).2<=4)):=by
 have h1:=hz (vs.tail.length+1) qM;refine⟨(h1.suf.trans (List.tail_suffix vs)).trans hI.suf,fun n hn y hy=>hI.fin n hn y ?_⟩;have hne:vs≠[]:=Zfu (by simp only[Bool.and_eq_true,decide_eq_true_eq]at h;exact h.1.1);have h2:0<vs.length:=List.length_pos_iff.2 hne;have h3:=hI.suf.length_le;rw[Z41 (Z5y n),if_pos h];exact Rv.up_tail ((hz n (by rw[List.length_tail];omega)).bind hy)
theorem InvX.is{l:Int}{us vs:List T3}{bad c:Bool}{x:Ex}(hI:InvX l us bad x vs false c)(h:((decide (0<(binR vs).1)&&decide (l<(binR vs).2))&& !(c&&decide (4<=(binR vs).2)))=false)(h2:(((((binR vs).1==0)&&decide (l<4))&& !c)&&isRB 1 w_IS vs false)=true){k:Int}(hk:k=if isT 1 Z1c vs.tail then 19 else 18){y:Unit×List T3×Bool}(hy:Rv (wantP 1 Z1v (skT 1 Z1c vs.tail)) (skT 1 Z1c vs.tail) false y):InvX l us bad (nd k [x]) y.2.1 y.2.2 true:=by
 have hs:skT 1 Z1c vs.tail<:+vs:=(Z2p _ _ _).trans (List.tail_suffix vs);refine⟨(hy.suf.trans hs).trans hI.suf,fun n hn q hq=>hI.fin n hn q ?_⟩;rw[Z41 (Z5y n),if_neg (by rw[h];decide),if_pos (by simpa [isRB] using h2),<-hk];have h4:Rv ((wantP 1 Z1v (skT 1 Z1c vs.tail)).bind fun v=>loopC (exprR n) l (nd k [x]) true v.2) (skT 1 Z1c vs.tail) false q:=hy.bind hq;exact⟨h4.1.trans hs,h4.2.1,h4.2.2⟩
theorem InvX.stop{l:Int}{us vs:List T3}{bad c:Bool}{x:Ex}(hI:InvX l us bad x vs false c)(h:((decide (0<(binR vs).1)&&decide (l<(binR vs).2))&& !(c&&decide (4<=(binR vs).2)))=false)(h2:(((((binR vs).1==0)&&decide (l<4))&& !c)&&isRB 1 w_IS vs false)=false): ∀n,us.length<n->Rv (exprR n l us) us bad (x,vs,false):=fun n hn=>by
 obtain⟨m,rfl⟩: ∃m,n=m+1:=⟨n-1,by omega⟩;refine hI.fin m qM _ ?_;rw[Z41 (Z5y m),if_neg (by rw[h];decide),if_neg (by have h3:(((((binR vs).1==0)&&decide (l<4))&& !c)&&isT 1 w_IS vs)=false:=(by simpa [isRB] using h2);rw[h3];decide)];exact Rv.pure x
theorem InvX.bad'{l:Int}{us vs:List T3}{bad c:Bool}{x:Ex}(hI:InvX l us bad x vs true c): ∀n,us.length<n->Rv (exprR n l us) us bad (x,vs,true):=fun n hn=>by
 obtain⟨m,rfl⟩: ∃m,n=m+1:=⟨n-1,by omega⟩;exact hI.fin m qM _ (Rv.badly (List.suffix_refl _) x)
set_option maxHeartbeats 1000000 in
theorem Z6O(T:Rk)(b0 o0:Nat)(ha:T.ts.length≠0->T.ad=some ⟨b0,o0,none⟩)(h9:T.ts.length<=2049)(b:Nat)(us:List T3)(hus:us<:+T.ts)(bad:Bool)(l:Int)(hX: ∀vs bd k,vs<:+T.ts->vs.length<us.length->EC T b vs bd k)(hF:FK T b us bad):CallL Tryz.prog Z3h [RB T b us bad] [T.G] [.is (.pointer (some ⟨b,0,none⟩)),.is (.int .i64 l)] (fun z:Ex×List T3×Bool=>∀n,us.length<n->Rv (exprR n l us) us bad z) (fun z=>[RB T b z.2.1 z.2.2]) (fun z=>.rep (ExR z.1)):=
CallL.of (fn:=Tryz.f77) Tryz.func77 (n:=92) rfl rfl rfl (fun _ _=>by kernel_rfl) fun E W hb0=>by
 refine vQ ?_;refine JO.alloc ZT rfl fun b4=>(vP [0,1,4] ?_);refine Jq (Zg (cs:=[_,_,_,_,_,_,_,_]) Z17 .nil rfl rfl) (JO.alloc ZT rfl fun b5=>(JO.m (Z4 rfl rfl qU qC qO Zc) (by rfl) ?_));refine vP [0,1,4,5] ?_;refine Ja rfl (vS [0,1,4,5,6] ?_);refine J.front b (by repeat(first|exact .here|apply Front.there)) ?_;refine vQ ?_;refine Jm rfl (Jq (ZC rfl rfl) (Jm rfl (JO.tg rfl rfl rfl rfl rfl (fun hg=>Z2 (.inl rfl)) ?_)));refine JO.gcallH (g:=2) (s:=14) (b:=true) (cc:=decide (l<3)) (T:=.is (.bool (isRB 1 Z1c us bad))) (o2:=RB T b (gnk (decide (l<3)) Z1c us bad) bad) rfl rfl rfl rfl (fun e=>by rw[gnk,if_neg e]) (fun e hn=>?_) ?_
 · have hn0:gnk (decide (l<3)) Z1c us bad=skRB 1 Z1c us bad:=if_pos e
   rw[hn0]at hn;exact JO.callKG (Lr:=_) e (Zm T b0 o0 ha h9 b us (hus) bad Z1c) rfl (.refl _) qF (.one (qR rfl) (.one (.inl rfl) .nil)) (fun _ _=>hn)
 refine Jq (Zn rfl rfl rfl id) (vS [0,1,4,5,6,17] ?_);refine yC rfl (fun ht17=>?_) (fun ht17=>?_);have hN:isRB 1 Z1c us bad=true:=(Bool.and_eq_true _ _ ▸ ht17).2;rw[show gnk (decide (l<3)) Z1c us bad=us.tail by rw[gnk,if_pos (Bool.and_eq_true _ _ ▸ ht17).1];exact Z1f hN];refine vQ ?_;refine Jm rfl (JO.callK (Lr:=_) (hX us.tail bad 2 ((List.tail_suffix us).trans hus) (ZG (Z2I hN).2).2) rfl (.refl _) qF qA ?_);intro z hz;refine vD ?_;refine Jq (Z2b ZB rfl) (JO.open_ (s:=20) (R:=ExsR [z.1]) rfl ?_);rintro _ ⟨_,a20,l20,q20,rfl,_⟩;refine JO.fact (KidsR [z.1] a20 l20) (fun X w hf _ w' hk=>by obtain⟨a,len,cap,e,h⟩:=hf (ExsR [z.1] (.slice a20 l20 q20)) qI w' hk;injection e with e1 e2 e3;subst e1 e2;exact h) ?_;refine Jq (Zg (cs:=[_,_,_,_,_,_,_,_]) Z17 (.cons rfl (.cons rfl .nil)) rfl rfl) (JO.m (Z4 rfl rfl qU qC qO Zc) (by rfl) ?_);refine JO.coerO (b:=b5) (T':=.rep (ExR (nd 4 [z.1]))) qU (Sub.exMk qI) ?_;refine vP [0,1,4,5] ?_;refine Ja rfl (vS [0,1,4,5,6] ?_);apply yk
 repeat apply yQ
 refine J.loopG (α:=Ex×List T3×Bool×Bool) (fun s=>[(0,.is (.pointer (some ⟨b,0,none⟩))),(1,.is (.int .i64 l)),(4,.is (.pointer (some ⟨b4,0,none⟩))),(5,.is (.pointer (some ⟨b5,0,none⟩))),(6,.is (.bool s.2.2.2))]) (fun s=>[RB T b s.2.1 s.2.2.1,⟨b5,Zb,.rep (ExR s.1)⟩,⟨b4,Zb,.is (.agg #[.int .i64 0,.int .i64 0,.int .i64 0,.string ⟨#[]⟩,.string ⟨#[]⟩,.string ⟨#[]⟩,.int .i64 0,.slice none 0 0])⟩]) (fun s=>fun _=>True) (fun s=>InvX l us bad s.1 s.2.1 s.2.2.1 s.2.2.2) (fun s=>s.2.1.length) (_,z.2.1,z.2.2,_) [0,1,4,5,6] (.cons rfl (.cons rfl (.cons rfl (.cons rfl (.cons rfl .nil))))) rfl (fun _=>trivial) (by first|exact InvX.not ht17 hz|exact InvX.fac ht17 hz) fun⟨x,vs,bd,c⟩ hI=>?_;try dsimp only
 try dsimp only at hI
 refine vQ ?_;refine Jm rfl (Jq (Z5 rfl) (Jq (Z0 Ze rfl) (Jq (Z1 Z1E rfl rfl) (Jq (Z2e rfl) (vS [0,1,4,5,6,28] ?_)))));refine yC rfl (fun ht28=>?_) (fun ht28=>?_);apply yK;refine vN ?_;apply yk;obtain rfl:bd=false:=by simpa using ht28
 refine vQ ?_;refine Jm rfl (JO.callK (Lr:=_) (Z59 T b0 o0 ha h9 b vs (hI.suf.trans hus)) rfl (.refl _) qF qA ?_);intro _ _;refine vD ?_;refine Jm rfl (Jq (Zgj rfl) (Jq (Zgz rfl) (Ja rfl (Ja rfl (vP [0,1,4,5,6,7,8] ?_)))));refine Jm rfl (Jq (Z13 rfl rfl) (Jm rfl (JO.tg rfl rfl rfl rfl rfl (fun hg=>Z2 (.inl rfl)) (JO.tg rfl rfl rfl rfl rfl (fun hg=>Z2 (.inl rfl)) (JO.tg rfl rfl rfl rfl rfl (fun hg=>Z13 (qR rfl) (qR rfl)) ?_)))));refine Jq (Zn rfl rfl rfl id) (Jm rfl (JO.tg rfl rfl rfl rfl rfl (fun hg=>Z2 (.inl rfl)) (JO.tg rfl rfl rfl rfl rfl (fun hg=>Z2 (qR rfl)) ?_)));refine JO.tgg rfl rfl rfl rfl rfl (fun hg=>Z2 (.inl rfl)) (JO.tgg rfl rfl rfl rfl rfl (fun hg=>Z2Z (qR rfl) (.inl rfl)) ?_);refine JO.tg rfl rfl rfl rfl rfl (fun hg=>Zn (qR rfl) (.inl rfl) (.inl rfl) (fun h=>⟨hg,h⟩)) ?_;refine JO.tg rfl rfl rfl rfl rfl (fun hg=>Z2e (qR rfl)) ?_;refine Jq (Zn rfl rfl rfl id) (vS [0,1,4,5,6,7,8,48] ?_);refine yC rfl (fun ht48=>?_) (fun ht48=>?_);have hne:vs≠[]:=Zfu (by simp only[Bool.and_eq_true,decide_eq_true_eq]at ht48;exact ht48.1.1);have hlt:=ZaP (hI.suf.trans hus) hne;have hkt:=Z5W (hI.suf.trans hus) hne;refine vQ ?_;refine Jm rfl (Jq (Z5 rfl) (Jq (Z0 ZH rfl) (Jq (Z1 Zq rfl rfl) (Jq (Zv (cc:=(T.k vs.tail:Nat)) rfl rfl (inRK (hI.suf.trans hus) hne) qM qM) ?_))));refine Jq (Z5 rfl) (Jq (Z0 ZH rfl) (JO.m (Zj (cs':=[_,_,_]) rfl rfl qU rfl rfl rfl rfl Z2x) (by rfl) ?_));refine vP [0,1,4,5,6,7,8] ?_;refine Jm rfl (Jm rfl (JO.callK (Lr:=_) (hX vs.tail false (binR vs).2 ((List.tail_suffix vs).trans (hI.suf.trans hus)) (by have:=hI.suf.length_le;have:=List.length_pos_iff.2 hne;rw[List.length_tail];omega)) rfl (.refl _) qF qA ?_));intro z2 hz2;refine vD ?_;refine JO.alloc ZT rfl fun b9=>(JO.m (Z4 rfl rfl qU qC qO Zc) (by rfl) ?_);refine vP [0,1,4,5,6,7,8,9] ?_;refine Jm rfl (Jq (Z1J Z6 rfl) (Jq (Z1J Z6 rfl) (Jq (Z6s ZB rfl rfl) (JO.open_ (s:=62) (R:=ExsR [x,z2.1]) rfl ?_))));rintro _ ⟨_,a62,l62,q62,rfl,_⟩;refine JO.fact (KidsR [x,z2.1] a62 l62) (fun X w hf _ w' hk=>by obtain⟨a,len,cap,e,h⟩:=hf (ExsR [x,z2.1] (.slice a62 l62 q62)) qI w' hk;injection e with e1 e2 e3;subst e1 e2;exact h) ?_;refine Jq (Zg (cs:=[_,_,_,_,_,_,_,_]) Z17 (.cons rfl (.cons rfl .nil)) rfl rfl) (JO.m (Z4 rfl rfl qU qC qO Zc) (by rfl) ?_);refine JO.coerO (b:=b5) (T':=.rep (ExR (nd (binR vs).1 [x,z2.1]))) qU (Sub.exMk qI) ?_;refine vP [0,1,4,5,6,8] ?_;refine Jm rfl (Jm rfl (JO.tg rfl rfl rfl rfl rfl (fun hg=>Z2 (.inl rfl)) (JO.tg rfl rfl rfl rfl rfl (fun hg=>Z3U (qR rfl) (.inl rfl)) ?_)));refine Jq (ZF rfl rfl rfl id) (Ja rfl (vS [0,1,4,5,6] ?_));refine J.exit ?_
 repeat first|refine yH ?_|refine yM rfl ?_|refine yE ?_
 repeat first|apply yX|apply yB
 repeat refine JX.normal_block ?_
 refine JX.roundG (x:=(x,vs,false,c)) (nd (binR vs).1 [x,z2.1],z2.2.1,z2.2.2,c||decide ((binR vs).2<=4)) ?_ ?_ [0,1,4,5,6] ?_ ?_ ?_ ?_
 · exact hI.bin ht48 hz2
 · exact(by have h1:=(hz2 (vs.tail.length+1) qM).suf.length_le;have h2:=List.length_pos_iff.2 hne;rw[List.length_tail]at h1;show z2.2.1.length<vs.length;omega)
 · exact qS
 · exact qH
 · exact qG
 · exact fun _ _ _=>fun _ _=>trivial
 apply yK;refine vN ?_;apply yN;refine Jm rfl (Jq (Zu rfl rfl) (Jm rfl (JO.tg rfl rfl rfl rfl rfl (fun hg=>Z2 (.inl rfl)) (JO.tg rfl rfl rfl rfl rfl (fun hg=>ZC (qR rfl) (.inl rfl)) ?_))));refine Jq (Zn rfl rfl rfl id) (Jm rfl (JO.tg rfl rfl rfl rfl rfl (fun hg=>Z2 (.inl rfl)) (JO.tg rfl rfl rfl rfl rfl (fun hg=>Z2e (qR rfl)) ?_)));refine Jq (Zn rfl rfl rfl id) (Jm rfl (JO.tg rfl rfl rfl rfl rfl (fun hg=>Z2 (.inl rfl)) ?_));refine JO.gcallH (g:=10) (s:=79) (b:=true) (cc:=(((binR vs).1==0)&&decide (l<4))&& !c) (T:=.is (.bool (isRB 1 w_IS vs false))) (o2:=RB T b (gnk ((((binR vs).1==0)&&decide (l<4))&& !c) w_IS vs false) false) rfl rfl rfl rfl (fun e=>by rw[gnk,if_neg e]) (fun e hn=>?_) ?_
 · have hn0:gnk ((((binR vs).1==0)&&decide (l<4))&& !c) w_IS vs false=skRB 1 w_IS vs false:=if_pos e
   rw[hn0]at hn;exact JO.callKG (Lr:=_) e (Zm T b0 o0 ha h9 b vs (hI.suf.trans hus) false w_IS) rfl (.refl _) qF (.one (qR rfl) (.one (.inl rfl) .nil)) (fun _ _=>hn)
 refine Jq (Zn rfl rfl rfl id) (vS [0,1,4,5,82] ?_);refine yC rfl (fun ht82=>?_) (fun ht82=>?_);have hS:isRB 1 w_IS vs false=true:=(Bool.and_eq_true _ _ ▸ ht82).2;rw[show gnk ((((binR vs).1==0)&&decide (l<4))&& !c) w_IS vs false=vs.tail by rw[gnk,if_pos (Bool.and_eq_true _ _ ▸ ht82).1];exact Z1f hS];refine vQ ?_;refine Ja rfl (vP [0,1,4,5,10] ?_);refine Jm rfl ?_;refine JO.callK (Lr:=_) (Zm T b0 o0 ha h9 b _ ?hs _ Z1c) rfl (.refl _) qF qA ?_
 case hs=>exact(List.tail_suffix vs).trans (hI.suf.trans hus)
 intro _ _;refine vD ?_;refine vS [0,1,4,5,10,84] ?_;refine yC rfl (fun ht84=>?_) (fun ht84=>?_);refine vQ ?_;refine Ja rfl (vP [0,1,4,5,10] ?_);refine Jm rfl ?_;refine JO.callK (Lr:=_) (Zl T b0 o0 ha h9 b _ ?hs _ 1 qD Z1v) rfl (.refl _) qF qA ?_
 case hs=>exact(Z4i.trans (List.tail_suffix vs)).trans (hI.suf.trans hus)
 intro y hy;refine vD ?_;refine vS [0,1,4,5,10] ?_;rw[Z9o]at hy;refine vQ ?_;refine Jm rfl (Jq (Z1J Z6 rfl) (Jq (Z2b ZB rfl) (JO.open_ (s:=89) (R:=ExsR [x]) rfl ?_)));rintro _ ⟨_,a89,l89,q89,rfl,_⟩;refine JO.fact (KidsR [x] a89 l89) (fun X w hf _ w' hk=>by obtain⟨a,len,cap,e,h⟩:=hf (ExsR [x] (.slice a89 l89 q89)) qI w' hk;injection e with e1 e2 e3;subst e1 e2;exact h) ?_;refine Jq (Zg (cs:=[_,_,_,_,_,_,_,_]) Z17 (.cons rfl (.cons rfl .nil)) rfl rfl) (JO.m (Z4 rfl rfl qU qC qO Zc) (by rfl) ?_);refine JO.coerO (b:=b5) (T':=.rep (ExR (nd _ [x]))) qU (Sub.exMk qI) ?_;refine vP [0,1,4,5] ?_;refine Ja rfl (vS [0,1,4,5,6] ?_);refine J.exit ?_
 repeat first|refine yH ?_|refine yM rfl ?_|refine yE ?_
 repeat first|apply yX|apply yB
 repeat refine JX.normal_block ?_
 refine JX.roundG (x:=(x,vs,false,c)) (nd 19 [x],y.2.1,y.2.2,true) ?_ ?_ [0,1,4,5,6] ?_ ?_ ?_ ?_
 · exact hI.is ht48 ht82 (by rw[if_pos (Z2I ht84).2]) hy
 · exact(by have h1:=(hy.suf.trans (Z2p _ _ _)).length_le;have h2:=(ZG (Z2I hS).2).2;show y.2.1.length<vs.length;omega)
 · exact qS
 · exact qH
 · exact qG
 · exact fun _ _ _=>fun _ _=>trivial
 apply yK;refine vN ?_;apply yN;refine Jm rfl ?_;refine JO.callK (Lr:=_) (Zl T b0 o0 ha h9 b _ ?hs _ 1 qD Z1v) rfl (.refl _) qF qA ?_
 case hs=>exact(Z4i.trans (List.tail_suffix vs)).trans (hI.suf.trans hus)
 intro y hy;refine vD ?_;refine vS [0,1,4,5,10] ?_;rw[Z9o]at hy;refine vQ ?_;refine Jm rfl (Jq (Z1J Z6 rfl) (Jq (Z2b ZB rfl) (JO.open_ (s:=89) (R:=ExsR [x]) rfl ?_)));rintro _ ⟨_,a89,l89,q89,rfl,_⟩;refine JO.fact (KidsR [x] a89 l89) (fun X w hf _ w' hk=>by obtain⟨a,len,cap,e,h⟩:=hf (ExsR [x] (.slice a89 l89 q89)) qI w' hk;injection e with e1 e2 e3;subst e1 e2;exact h) ?_;refine Jq (Zg (cs:=[_,_,_,_,_,_,_,_]) Z17 (.cons rfl (.cons rfl .nil)) rfl rfl) (JO.m (Z4 rfl rfl qU qC qO Zc) (by rfl) ?_);refine JO.coerO (b:=b5) (T':=.rep (ExR (nd _ [x]))) qU (Sub.exMk qI) ?_;refine vP [0,1,4,5] ?_;refine Ja rfl (vS [0,1,4,5,6] ?_);refine J.exit ?_
 repeat first|refine yH ?_|refine yM rfl ?_|refine yE ?_
 repeat first|apply yX|apply yB
 repeat refine JX.normal_block ?_
 refine JX.roundG (x:=(x,vs,false,c)) (nd 18 [x],y.2.1,y.2.2,true) ?_ ?_ [0,1,4,5,6] ?_ ?_ ?_ ?_
 · exact hI.is ht48 ht82 (by rw[if_neg (by have h:=ht84;simpa [isRB] using h)]) hy
 · exact(by have h1:=(hy.suf.trans (Z2p _ _ _)).length_le;have h2:=(ZG (Z2I hS).2).2;show y.2.1.length<vs.length;omega)
 · exact qS
 · exact qH
 · exact qG
 · exact fun _ _ _=>fun _ _=>trivial
 apply yK;refine vN ?_;refine J.exit ?_
 repeat first|refine yH ?_|refine yM rfl ?_|refine yE ?_
 repeat first|apply yX|apply yB
 first|(obtain rfl:bd=true:=by simpa using ht28)|(rw[show gnk ((((binR vs).1==0)&&decide (l<4))&& !c) w_IS vs false=vs by unfold gnk;split;(rename_i hp;rw[hp,Bool.true_and]at ht82;exact Z16 ht82);rfl])
 refine vQ ?_;refine Jq (Z1J Z6 rfl) (JO.m (Z4 rfl rfl qU qC qO Zc) (by rfl) ?_);refine vS [4] ?_;refine vR ?_;refine JX.retLCs (Lr:=[_,_]) rfl (x,vs,false) ?_ qP rfl rfl hb0 rfl Z6 HasOwn.mem Z1S (Sub.refl _);intro n hn;exact hI.stop ht48 ht82 n hn
 repeat apply yQ
 refine J.exit ?_
 repeat first|refine yH ?_|refine yM rfl ?_|refine yE ?_
 repeat first|apply yX|apply yB
 first|(obtain rfl:bd=true:=by simpa using ht28)|(rw[show gnk ((((binR vs).1==0)&&decide (l<4))&& !c) w_IS vs false=vs by unfold gnk;split;(rename_i hp;rw[hp,Bool.true_and]at ht82;exact Z16 ht82);rfl])
 refine vQ ?_;refine Jq (Z1J Z6 rfl) (JO.m (Z4 rfl rfl qU qC qO Zc) (by rfl) ?_);refine vS [4] ?_;refine vR ?_;refine JX.retLCs (Lr:=[_,_]) rfl (x,vs,true) ?_ qP rfl rfl hb0 rfl Z6 HasOwn.mem Z1S (Sub.refl _);intro n hn;exact hI.bad' n hn;rw[show gnk (decide (l<3)) Z1c us bad=us by unfold gnk;split;(rename_i hp;rw[hp,Bool.true_and]at ht17;exact Z16 ht17);rfl];refine vQ ?_;refine Jm rfl (JO.callK (Lr:=_) (hF) rfl (.refl _) qF qA ?_);intro z hz;refine vD ?_;refine JO.m (Z4 rfl rfl qU qC qO Zc) (by rfl) ?_;refine vS [0,1,4,5,6] ?_;apply yk
 repeat apply yQ
 refine J.loopG (α:=Ex×List T3×Bool×Bool) (fun s=>[(0,.is (.pointer (some ⟨b,0,none⟩))),(1,.is (.int .i64 l)),(4,.is (.pointer (some ⟨b4,0,none⟩))),(5,.is (.pointer (some ⟨b5,0,none⟩))),(6,.is (.bool s.2.2.2))]) (fun s=>[RB T b s.2.1 s.2.2.1,⟨b5,Zb,.rep (ExR s.1)⟩,⟨b4,Zb,.is (.agg #[.int .i64 0,.int .i64 0,.int .i64 0,.string ⟨#[]⟩,.string ⟨#[]⟩,.string ⟨#[]⟩,.int .i64 0,.slice none 0 0])⟩]) (fun s=>fun _=>True) (fun s=>InvX l us bad s.1 s.2.1 s.2.2.1 s.2.2.2) (fun s=>s.2.1.length) (_,z.2.1,z.2.2,_) [0,1,4,5,6] (.cons rfl (.cons rfl (.cons rfl (.cons rfl (.cons rfl .nil))))) rfl (fun _=>trivial) (by first|exact InvX.not ht17 hz|exact InvX.fac ht17 hz) fun⟨x,vs,bd,c⟩ hI=>?_;try dsimp only
 try dsimp only at hI
 refine vQ ?_;refine Jm rfl (Jq (Z5 rfl) (Jq (Z0 Ze rfl) (Jq (Z1 Z1E rfl rfl) (Jq (Z2e rfl) (vS [0,1,4,5,6,28] ?_)))));refine yC rfl (fun ht28=>?_) (fun ht28=>?_);apply yK;refine vN ?_;apply yk;obtain rfl:bd=false:=by simpa using ht28
 refine vQ ?_;refine Jm rfl (JO.callK (Lr:=_) (Z59 T b0 o0 ha h9 b vs (hI.suf.trans hus)) rfl (.refl _) qF qA ?_);intro _ _;refine vD ?_;refine Jm rfl (Jq (Zgj rfl) (Jq (Zgz rfl) (Ja rfl (Ja rfl (vP [0,1,4,5,6,7,8] ?_)))));refine Jm rfl (Jq (Z13 rfl rfl) (Jm rfl (JO.tg rfl rfl rfl rfl rfl (fun hg=>Z2 (.inl rfl)) (JO.tg rfl rfl rfl rfl rfl (fun hg=>Z2 (.inl rfl)) (JO.tg rfl rfl rfl rfl rfl (fun hg=>Z13 (qR rfl) (qR rfl)) ?_)))));refine Jq (Zn rfl rfl rfl id) (Jm rfl (JO.tg rfl rfl rfl rfl rfl (fun hg=>Z2 (.inl rfl)) (JO.tg rfl rfl rfl rfl rfl (fun hg=>Z2 (qR rfl)) ?_)));refine JO.tgg rfl rfl rfl rfl rfl (fun hg=>Z2 (.inl rfl)) (JO.tgg rfl rfl rfl rfl rfl (fun hg=>Z2Z (qR rfl) (.inl rfl)) ?_);refine JO.tg rfl rfl rfl rfl rfl (fun hg=>Zn (qR rfl) (.inl rfl) (.inl rfl) (fun h=>⟨hg,h⟩)) ?_;refine JO.tg rfl rfl rfl rfl rfl (fun hg=>Z2e (qR rfl)) ?_;refine Jq (Zn rfl rfl rfl id) (vS [0,1,4,5,6,7,8,48] ?_);refine yC rfl (fun ht48=>?_) (fun ht48=>?_);have hne:vs≠[]:=Zfu (by simp only[Bool.and_eq_true,decide_eq_true_eq]at ht48;exact ht48.1.1);have hlt:=ZaP (hI.suf.trans hus) hne;have hkt:=Z5W (hI.suf.trans hus) hne;refine vQ ?_;refine Jm rfl (Jq (Z5 rfl) (Jq (Z0 ZH rfl) (Jq (Z1 Zq rfl rfl) (Jq (Zv (cc:=(T.k vs.tail:Nat)) rfl rfl (inRK (hI.suf.trans hus) hne) qM qM) ?_))));refine Jq (Z5 rfl) (Jq (Z0 ZH rfl) (JO.m (Zj (cs':=[_,_,_]) rfl rfl qU rfl rfl rfl rfl Z2x) (by rfl) ?_));refine vP [0,1,4,5,6,7,8] ?_;refine Jm rfl (Jm rfl (JO.callK (Lr:=_) (hX vs.tail false (binR vs).2 ((List.tail_suffix vs).trans (hI.suf.trans hus)) (by have:=hI.suf.length_le;have:=List.length_pos_iff.2 hne;rw[List.length_tail];omega)) rfl (.refl _) qF qA ?_));intro z2 hz2;refine vD ?_;refine JO.alloc ZT rfl fun b9=>(JO.m (Z4 rfl rfl qU qC qO Zc) (by rfl) ?_);refine vP [0,1,4,5,6,7,8,9] ?_;refine Jm rfl (Jq (Z1J Z6 rfl) (Jq (Z1J Z6 rfl) (Jq (Z6s ZB rfl rfl) (JO.open_ (s:=62) (R:=ExsR [x,z2.1]) rfl ?_))));rintro _ ⟨_,a62,l62,q62,rfl,_⟩;refine JO.fact (KidsR [x,z2.1] a62 l62) (fun X w hf _ w' hk=>by obtain⟨a,len,cap,e,h⟩:=hf (ExsR [x,z2.1] (.slice a62 l62 q62)) qI w' hk;injection e with e1 e2 e3;subst e1 e2;exact h) ?_;refine Jq (Zg (cs:=[_,_,_,_,_,_,_,_]) Z17 (.cons rfl (.cons rfl .nil)) rfl rfl) (JO.m (Z4 rfl rfl qU qC qO Zc) (by rfl) ?_);refine JO.coerO (b:=b5) (T':=.rep (ExR (nd (binR vs).1 [x,z2.1]))) qU (Sub.exMk qI) ?_;refine vP [0,1,4,5,6,8] ?_;refine Jm rfl (Jm rfl (JO.tg rfl rfl rfl rfl rfl (fun hg=>Z2 (.inl rfl)) (JO.tg rfl rfl rfl rfl rfl (fun hg=>Z3U (qR rfl) (.inl rfl)) ?_)));refine Jq (ZF rfl rfl rfl id) (Ja rfl (vS [0,1,4,5,6] ?_));refine J.exit ?_
 repeat first|refine yH ?_|refine yM rfl ?_|refine yE ?_
 repeat first|apply yX|apply yB
 repeat refine JX.normal_block ?_
 refine JX.roundG (x:=(x,vs,false,c)) (nd (binR vs).1 [x,z2.1],z2.2.1,z2.2.2,c||decide ((binR vs).2<=4)) ?_ ?_ [0,1,4,5,6] ?_ ?_ ?_ ?_
 · exact hI.bin ht48 hz2
 · exact(by have h1:=(hz2 (vs.tail.length+1) qM).suf.length_le;have h2:=List.length_pos_iff.2 hne;rw[List.length_tail]at h1;show z2.2.1.length<vs.length;omega)
 · exact qS
 · exact qH
 · exact qG
 · exact fun _ _ _=>fun _ _=>trivial
 apply yK;refine vN ?_;apply yN;refine Jm rfl (Jq (Zu rfl rfl) (Jm rfl (JO.tg rfl rfl rfl rfl rfl (fun hg=>Z2 (.inl rfl)) (JO.tg rfl rfl rfl rfl rfl (fun hg=>ZC (qR rfl) (.inl rfl)) ?_))));refine Jq (Zn rfl rfl rfl id) (Jm rfl (JO.tg rfl rfl rfl rfl rfl (fun hg=>Z2 (.inl rfl)) (JO.tg rfl rfl rfl rfl rfl (fun hg=>Z2e (qR rfl)) ?_)));refine Jq (Zn rfl rfl rfl id) (Jm rfl (JO.tg rfl rfl rfl rfl rfl (fun hg=>Z2 (.inl rfl)) ?_));refine JO.gcallH (g:=10) (s:=79) (b:=true) (cc:=(((binR vs).1==0)&&decide (l<4))&& !c) (T:=.is (.bool (isRB 1 w_IS vs false))) (o2:=RB T b (gnk ((((binR vs).1==0)&&decide (l<4))&& !c) w_IS vs false) false) rfl rfl rfl rfl (fun e=>by rw[gnk,if_neg e]) (fun e hn=>?_) ?_
 · have hn0:gnk ((((binR vs).1==0)&&decide (l<4))&& !c) w_IS vs false=skRB 1 w_IS vs false:=if_pos e
   rw[hn0]at hn;exact JO.callKG (Lr:=_) e (Zm T b0 o0 ha h9 b vs (hI.suf.trans hus) false w_IS) rfl (.refl _) qF (.one (qR rfl) (.one (.inl rfl) .nil)) (fun _ _=>hn)
 refine Jq (Zn rfl rfl rfl id) (vS [0,1,4,5,82] ?_);refine yC rfl (fun ht82=>?_) (fun ht82=>?_);have hS:isRB 1 w_IS vs false=true:=(Bool.and_eq_true _ _ ▸ ht82).2;rw[show gnk ((((binR vs).1==0)&&decide (l<4))&& !c) w_IS vs false=vs.tail by rw[gnk,if_pos (Bool.and_eq_true _ _ ▸ ht82).1];exact Z1f hS];refine vQ ?_;refine Ja rfl (vP [0,1,4,5,10] ?_);refine Jm rfl ?_;refine JO.callK (Lr:=_) (Zm T b0 o0 ha h9 b _ ?hs _ Z1c) rfl (.refl _) qF qA ?_
 case hs=>exact(List.tail_suffix vs).trans (hI.suf.trans hus)
 intro _ _;refine vD ?_;refine vS [0,1,4,5,10,84] ?_;refine yC rfl (fun ht84=>?_) (fun ht84=>?_);refine vQ ?_;refine Ja rfl (vP [0,1,4,5,10] ?_);refine Jm rfl ?_;refine JO.callK (Lr:=_) (Zl T b0 o0 ha h9 b _ ?hs _ 1 qD Z1v) rfl (.refl _) qF qA ?_
 case hs=>exact(Z4i.trans (List.tail_suffix vs)).trans (hI.suf.trans hus)
 intro y hy;refine vD ?_;refine vS [0,1,4,5,10] ?_;rw[Z9o]at hy;refine vQ ?_;refine Jm rfl (Jq (Z1J Z6 rfl) (Jq (Z2b ZB rfl) (JO.open_ (s:=89) (R:=ExsR [x]) rfl ?_)));rintro _ ⟨_,a89,l89,q89,rfl,_⟩;refine JO.fact (KidsR [x] a89 l89) (fun X w hf _ w' hk=>by obtain⟨a,len,cap,e,h⟩:=hf (ExsR [x] (.slice a89 l89 q89)) qI w' hk;injection e with e1 e2 e3;subst e1 e2;exact h) ?_;refine Jq (Zg (cs:=[_,_,_,_,_,_,_,_]) Z17 (.cons rfl (.cons rfl .nil)) rfl rfl) (JO.m (Z4 rfl rfl qU qC qO Zc) (by rfl) ?_);refine JO.coerO (b:=b5) (T':=.rep (ExR (nd _ [x]))) qU (Sub.exMk qI) ?_;refine vP [0,1,4,5] ?_;refine Ja rfl (vS [0,1,4,5,6] ?_);refine J.exit ?_
 repeat first|refine yH ?_|refine yM rfl ?_|refine yE ?_
 repeat first|apply yX|apply yB
 repeat refine JX.normal_block ?_
 refine JX.roundG (x:=(x,vs,false,c)) (nd 19 [x],y.2.1,y.2.2,true) ?_ ?_ [0,1,4,5,6] ?_ ?_ ?_ ?_
 · exact hI.is ht48 ht82 (by rw[if_pos (Z2I ht84).2]) hy
 · exact(by have h1:=(hy.suf.trans (Z2p _ _ _)).length_le;have h2:=(ZG (Z2I hS).2).2;show y.2.1.length<vs.length;omega)
 · exact qS
 · exact qH
 · exact qG
 · exact fun _ _ _=>fun _ _=>trivial
 apply yK;refine vN ?_;apply yN;refine Jm rfl ?_;refine JO.callK (Lr:=_) (Zl T b0 o0 ha h9 b _ ?hs _ 1 qD Z1v) rfl (.refl _) qF qA ?_
 case hs=>exact(Z4i.trans (List.tail_suffix vs)).trans (hI.suf.trans hus)
 intro y hy;refine vD ?_;refine vS [0,1,4,5,10] ?_;rw[Z9o]at hy;refine vQ ?_;refine Jm rfl (Jq (Z1J Z6 rfl) (Jq (Z2b ZB rfl) (JO.open_ (s:=89) (R:=ExsR [x]) rfl ?_)));rintro _ ⟨_,a89,l89,q89,rfl,_⟩;refine JO.fact (KidsR [x] a89 l89) (fun X w hf _ w' hk=>by obtain⟨a,len,cap,e,h⟩:=hf (ExsR [x] (.slice a89 l89 q89)) qI w' hk;injection e with e1 e2 e3;subst e1 e2;exact h) ?_;refine Jq (Zg (cs:=[_,_,_,_,_,_,_,_]) Z17 (.cons rfl (.cons rfl .nil)) rfl rfl) (JO.m (Z4 rfl rfl qU qC qO Zc) (by rfl) ?_);refine JO.coerO (b:=b5) (T':=.rep (ExR (nd _ [x]))) qU (Sub.exMk qI) ?_;refine vP [0,1,4,5] ?_;refine Ja rfl (vS [0,1,4,5,6] ?_);refine J.exit ?_
 repeat first|refine yH ?_|refine yM rfl ?_|refine yE ?_
 repeat first|apply yX|apply yB
 repeat refine JX.normal_block ?_
 refine JX.roundG (x:=(x,vs,false,c)) (nd 18 [x],y.2.1,y.2.2,true) ?_ ?_ [0,1,4,5,6] ?_ ?_ ?_ ?_
 · exact hI.is ht48 ht82 (by rw[if_neg (by have h:=ht84;simpa [isRB] using h)]) hy
 · exact(by have h1:=(hy.suf.trans (Z2p _ _ _)).length_le;have h2:=(ZG (Z2I hS).2).2;show y.2.1.length<vs.length;omega)
 · exact qS
 · exact qH
 · exact qG
 · exact fun _ _ _=>fun _ _=>trivial
 apply yK;refine vN ?_;refine J.exit ?_
 repeat first|refine yH ?_|refine yM rfl ?_|refine yE ?_
 repeat first|apply yX|apply yB
 first|(obtain rfl:bd=true:=by simpa using ht28)|(rw[show gnk ((((binR vs).1==0)&&decide (l<4))&& !c) w_IS vs false=vs by unfold gnk;split;(rename_i hp;rw[hp,Bool.true_and]at ht82;exact Z16 ht82);rfl])
 refine vQ ?_;refine Jq (Z1J Z6 rfl) (JO.m (Z4 rfl rfl qU qC qO Zc) (by rfl) ?_);refine vS [4] ?_;refine vR ?_;refine JX.retLCs (Lr:=[_,_]) rfl (x,vs,false) ?_ qP rfl rfl hb0 rfl Z6 HasOwn.mem Z1S (Sub.refl _);intro n hn;exact hI.stop ht48 ht82 n hn
 repeat apply yQ
 refine J.exit ?_
 repeat first|refine yH ?_|refine yM rfl ?_|refine yE ?_
 repeat first|apply yX|apply yB
 first|(obtain rfl:bd=true:=by simpa using ht28)|(rw[show gnk ((((binR vs).1==0)&&decide (l<4))&& !c) w_IS vs false=vs by unfold gnk;split;(rename_i hp;rw[hp,Bool.true_and]at ht82;exact Z16 ht82);rfl])
 refine vQ ?_;refine Jq (Z1J Z6 rfl) (JO.m (Z4 rfl rfl qU qC qO Zc) (by rfl) ?_);refine vS [4] ?_;refine vR ?_;refine JX.retLCs (Lr:=[_,_]) rfl (x,vs,true) ?_ qP rfl rfl hb0 rfl Z6 HasOwn.mem Z1S (Sub.refl _);intro n hn;exact hI.bad' n hn
theorem CallL.weakZ{P:Program}{f:FuncId}{Z:Type}{L0:List Own}{Φ0:List (World->Prop)}{As:List Ty}{Zp Zp':Z->Prop}{L1:Z->List Own}{R:Z->Ty}(h:CallL P f L0 Φ0 As Zp L1 R)(hz: ∀z,Zp z->Zp' z):CallL P f L0 Φ0 As Zp' L1 R:=
 ⟨h.enter,fun E w vs hw hL hn hΦ ht=>Calls.mono (h.calls E w vs hw hL hn hΦ ht) fun _ _ ⟨v,z,E',he,hE⟩=>⟨v,z,E',he,hz z hE.zp,hE.k,hE.same,hE.wf,hE.l,hE.nd,hE.inn,hE.r⟩⟩
theorem Zfd(T:Rk)(b0 o0:Nat)(ha:T.ts.length≠0->T.ad=some ⟨b0,o0,none⟩)(h9:T.ts.length<=2049)(b:Nat): ∀(m:Nat) (us:List T3) (bad:Bool),us<:+T.ts->us.length<=m->FK T b us bad/\ ∀l,EC T b us bad l
 |m,us,bad,hus,hm=>by
   have ih: ∀vs bd,vs<:+T.ts->vs.length<us.length->FK T b vs bd/\ ∀l,EC T b vs bd l:=fun vs bd hvs hl=>by
     cases m with
     |zero=>omega
     |succ m=>exact Zfd T b0 o0 ha h9 b m vs bd hvs qM
   have hF:FK T b us bad:=Z5Z T b0 o0 ha h9 b us hus bad (fun vs bd hvs hl=>(ih vs bd hvs hl).2 0) (fun vs bd hvs hl=>(ih vs bd hvs hl).1);exact⟨hF,fun l=>Z6O T b0 o0 ha h9 b us hus bad l (fun vs bd k hvs hl=>(ih vs bd hvs hl).2 k) hF⟩
theorem Z9D(T:Rk)(b0 o0:Nat)(ha:T.ts.length≠0->T.ad=some ⟨b0,o0,none⟩)(h9:T.ts.length<=2049)(b:Nat)(ho:okL T.ts):E0 T b:=fun us bad hus=>
 CallL.weakZ ((Zfd T b0 o0 ha h9 b us.length us bad hus (Nat.le_refl _)).2 0) fun _ hz=>by have h:=hz _ (Nat.lt_succ_of_le hus.length_le);rwa [ZkE (ho.suf hus) (Nat.lt_succ_of_le hus.length_le)]at h
theorem Zaw{st:Option (Nat×List Value)}{e:TypeId}{a b c:Own}{L:List Own}:(a::b::c::ownO st e L).Perm (ownO st e (a::b::c::L)):=by
 cases st with
 |none=>exact .refl _
 |some p=>exact(List.perm_middle (l₁:=[a,b,c])).symm.symm
theorem Zl9{e:Ps Ex}(he:Dn e):Dn (rowR e):=by rw[Zgd];exact Z3T he.le
theorem ZmC{G:GoS}{xs:List Ex}{E:Nat->Prop}{v:Value}{w:World}(h:(Ty.rep (SlE exE G xs)).p E v w):(Ty.rep (rwE.T xs)).p E v w:=fun w' hk=>⟨[v],rfl,v,rfl,SlE.exs (h w' hk)⟩
theorem CallL.weakR{P:Program}{f:FuncId}{Z:Type}{L0:List Own}{Φ0:List (World->Prop)}{As:List Ty}{Zp:Z->Prop}{L1:Z->List Own}{R R':Z->Ty}(h:CallL P f L0 Φ0 As Zp L1 R)(hr: ∀z E v w,(R z).p E v w->(R' z).p E v w):CallL P f L0 Φ0 As Zp L1 R':=
 ⟨h.enter,fun E w vs hw hL hn hΦ ht=>Calls.mono (h.calls E w vs hw hL hn hΦ ht) fun _ _ ⟨v,z,E',he,hE⟩=>⟨v,z,E',he,hE.zp,hE.k,hE.same,hE.wf,hE.l,hE.nd,hE.inn,hr z E' v _ hE.r⟩⟩
theorem ZgI(T:Rk)(b0 o0:Nat)(ha:T.ts.length≠0->T.ad=some ⟨b0,o0,none⟩)(h9:T.ts.length<=2049)(b:Nat)(us:List T3)(hus:us<:+T.ts)(bad:Bool)(hE:E0 T b):CallL Tryz.prog Z5c [RB T b us bad] [T.G] [.is (.pointer (some ⟨b,0,none⟩))] (fun z:List Ex×List T3×Bool=>Rv (exprsR T.e us) us bad z) (fun z=>[RB T b z.2.1 z.2.2]) (fun z=>.rep (rwE.T z.1)):=
 CallL.weakR (Z5f T b0 o0 ha h9 b us hus bad hE) fun z E v w h=>ZmC h
theorem Rv.cap2{α:Type}{us:List T3}{bad:Bool}(n m:Nat)(x:α):Rv (if n<=16/\m<=32 then some (x,us)else none) us bad (x,us,(bad||decide ((16:Int)<(n:Int)))||decide ((32:Int)<(m:Int))):=by
 by_cases h:n<=16/\m<=32
 · rw[if_pos h,decide_eq_false (show ¬(16:Int)<(n:Int) by omega),decide_eq_false (show ¬(32:Int)<(m:Int) by omega),Bool.or_false,Bool.or_false];exact Rv.pure x
 · rw[if_neg h,show((bad||decide ((16:Int)<(n:Int)))||decide ((32:Int)<(m:Int)))=true by
     by_cases h1:n<=16
     · rw[decide_eq_true (show(32:Int)<(m:Int) by omega),Bool.or_true]
     · rw[decide_eq_true (show(16:Int)<(n:Int) by omega),Bool.or_true,Bool.true_or]]
   exact Rv.none x
attribute [local irreducible] SlE ExsR
set_option maxHeartbeats 1000000 in
theorem Z7C(T:Rk)(b0 o0:Nat)(ha:T.ts.length≠0->T.ad=some ⟨b0,o0,none⟩)(h9:T.ts.length<=2049)(b:Nat)(us:List T3)(hus:us<:+T.ts)(bad:Bool)(hE:E0 T b):CallL Tryz.prog Z7O [RB T b us bad] [T.G] [.is (.pointer (some ⟨b,0,none⟩))] (fun z:Pz.St×List T3×Bool=>Rv (insertR T.e us) us bad z) (fun z=>[RB T b z.2.1 z.2.2]) (fun z=>.rep (StR 0 z.1)):=
CallL.of (fn:=Tryz.f33) Tryz.func33 (n:=75) rfl rfl rfl (fun _ _=>by kernel_rfl) fun E W hb0=>by
 refine vQ ?_;refine JO.alloc Z1Q rfl fun b2=>(vP [0,2] ?_);refine Jm rfl ?_;refine JO.callK (Lr:=[_]) (Zl T b0 o0 ha h9 b _ ?hs _ 1 qD Zfs) rfl qP qF qA ?_
 case hs=>exact qW
 intro z0 hz0;refine vD ?_;refine vP [0,2] ?_;refine Jm rfl ?_;refine JO.callK (Lr:=[_]) (ZY T b0 o0 ha h9 b _ ?hs _) rfl qP qF qA ?_
 case hs=>exact qW
 intro z1 hz1;have hz1s:z1.2.1<:+us:=hz1.suf.trans hz0.suf;refine vD ?_;refine Jq (Zg (cs:=[_,_,_,_,_,_,_,_,_,_,_,_,_,_]) Z38 (.cons rfl (.cons rfl (.cons rfl .nil))) rfl rfl) (JO.alloc Z1Q rfl fun b3=>(JO.m (Z4 rfl rfl qU (by exact Zh rfl rfl) (by first|exact Zh rfl rfl|exact ZQ) ZV) (by rfl) ?_));refine vP [0,2,3] ?_;refine Jm rfl ?_;refine JO.callK (Lr:=[_,_]) (Z10 T b0 o0 ha h9 b _ ?hs _ s_lp) rfl qP qF qA ?_
 case hs=>exact qW
 intro _ _;refine vD ?_;refine vS [0,2,3,12] ?_;refine J.cutZN (fun x:List ByteArray×Option (Nat×List Value)×Nat×List T3×Bool=>[(0,.is (.pointer (some ⟨b,0,none⟩))),(2,.is (.pointer (some ⟨b2,0,none⟩))),(3,.is (.pointer (some ⟨b3,0,none⟩)))]) (fun x:List ByteArray×Option (Nat×List Value)×Nat×List T3×Bool=>RB T b x.2.2.2.1 x.2.2.2.2::⟨b3,Z3,.is (.agg #[.int .i64 3,.string z1.1,.string ⟨#[]⟩,.slice none 0 0,sliceO x.2.1 (x.1.map strE).length x.2.2.1,.slice none 0 0,.slice none 0 0,.slice none 0 0,.slice none 0 0,.slice none 0 0,.slice none 0 0,.int .i64 (-1),.slice none 0 0,.bool false])⟩::⟨b2,Z3,zSt⟩::ownO x.2.1 Zs []) (fun x:List ByteArray×Option (Nat×List Value)×Nat×List T3×Bool=>Grows Cel.cs 1 (x.1.map strE) x.2.1 x.2.2.1/\x.2.2.2.1<:+us/\ ∀y:Pz.St×List T3×Bool,Rv (insRowsR T.e z1.1 x.1 x.2.2.2.1) x.2.2.2.1 x.2.2.2.2 y->Rv (insertR T.e us) us bad y) ?_ ?_
 · refine yC rfl (fun ht12=>?_) (fun ht12=>?_)
   rw[Z1f ht12];have hu1:z1.2.1.tail<:+T.ts:=(List.tail_suffix _).trans (hz1s.trans hus);refine vQ ?_;refine Ja rfl (vS [0,2,3,4] ?_);apply yk
   repeat apply yQ
   refine J.loopG (α:=List ByteArray×Option (Nat×List Value)×Nat×List T3×Bool×Bool) (fun x=>[(0,.is (.pointer (some ⟨b,0,none⟩))),(2,.is (.pointer (some ⟨b2,0,none⟩))),(3,.is (.pointer (some ⟨b3,0,none⟩))),(4,.is (.bool x.2.2.2.2.2))]) (fun x=>RB T b x.2.2.2.1 x.2.2.2.2.1::⟨b3,Z3,.is (.agg #[.int .i64 3,.string z1.1,.string ⟨#[]⟩,.slice none 0 0,sliceO x.2.1 (x.1.map strE).length x.2.2.1,.slice none 0 0,.slice none 0 0,.slice none 0 0,.slice none 0 0,.slice none 0 0,.slice none 0 0,.int .i64 (-1),.slice none 0 0,.bool false])⟩::⟨b2,Z3,zSt⟩::ownO x.2.1 Zs []) (fun x=>fun _=>True) (fun x=>InvW nameP z1.2.1.tail z1.2.2 x.1 x.2.2.2.1 x.2.2.2.2.1 x.2.2.2.2.2/\Grows Cel.cs 1 (x.1.map strE) x.2.1 x.2.2.1) (fun x=>x.2.2.2.1.length+(if x.2.2.2.2.2 then 1 else 0)) ([],none,0,z1.2.1.tail,z1.2.2,true) [0,2,3,4] (.cons rfl (.cons rfl (.cons rfl (.cons rfl .nil)))) rfl (fun _=>trivial) ⟨InvW.start _ _ _,rfl⟩ fun⟨acc,st,cap,vs,bd,mo⟩ ⟨hI,hG⟩=>?_;try dsimp only
   try dsimp only at hI
   try dsimp only at hG
   refine vQ ?_;refine Jm rfl (Jm rfl (JO.tg rfl rfl rfl rfl rfl (fun hg=>Z2 (.inl rfl)) (JO.tg rfl rfl rfl rfl rfl (fun hg=>Z5 (qR rfl)) ?_)));refine JO.tg rfl rfl rfl rfl rfl (fun hg=>Z0 Ze (qR rfl)) ?_;refine JO.tg rfl rfl rfl rfl rfl (fun hg=>Z1 Z1E (qR rfl) rfl) ?_;refine JO.tg rfl rfl rfl rfl rfl (fun hg=>Z2e (qR rfl)) ?_;refine Jq (Zn rfl rfl rfl id) (vS [0,2,3,20] ?_);refine yC rfl (fun ht20=>?_) (fun ht20=>?_);apply yK;refine vN ?_;apply yk;obtain⟨rfl,rfl⟩:mo=true/\bd=false:=by simpa using ht20
   repeat apply yQ
   refine J.regBgm (G:={z:ByteArray×List T3×Bool // Rv (nameP vs) vs false z}) 3 5 (fun g=>.is (.string g.1.1)) (fun g=>[RB T b g.1.2.1 g.1.2.2]++(⟨b3,Z3,.is (.agg #[.int .i64 3,.string z1.1,.string ⟨#[]⟩,.slice none 0 0,sliceO st (acc.map strE).length cap,.slice none 0 0,.slice none 0 0,.slice none 0 0,.slice none 0 0,.slice none 0 0,.slice none 0 0,.int .i64 (-1),.slice none 0 0,.bool false])⟩::⟨b2,Z3,zSt⟩::ownO st Zs [])) ([⟨b3,Z3,.is (.agg #[.int .i64 3,.string z1.1,.string ⟨#[]⟩,.slice none 0 0,sliceO st (acc.map strE).length cap,.slice none 0 0,.slice none 0 0,.slice none 0 0,.slice none 0 0,.slice none 0 0,.slice none 0 0,.int .i64 (-1),.slice none 0 0,.bool false])⟩]) rfl rfl rfl rfl hmx qK rfl qK (fun o ho=>by rw[List.mem_singleton.1 ho];exact List.mem_cons_of_mem _ List.mem_cons_self) (fun g o ho=>by rw[List.mem_singleton.1 ho];exact List.mem_cons_of_mem _ List.mem_cons_self) qK ?_;refine yz (Z0 Z1k rfl) (yz (Z1 Z20 rfl rfl) (yz (Z2 rfl) ?_));refine RT.bigg (Lq:=[⟨b3,Z3,.is (.agg #[.int .i64 3,.string z1.1,.string ⟨#[]⟩,.slice none 0 0,sliceO st (acc.map strE).length cap,.slice none 0 0,.slice none 0 0,.slice none 0 0,.slice none 0 0,.slice none 0 0,.slice none 0 0,.int .i64 (-1),.slice none 0 0,.bool false])⟩]) (Z3x (Lr:=⟨b3,Z3,.is (.agg #[.int .i64 3,.string z1.1,.string ⟨#[]⟩,.slice none 0 0,sliceO st (acc.map strE).length cap,.slice none 0 0,.slice none 0 0,.slice none 0 0,.slice none 0 0,.slice none 0 0,.slice none 0 0,.int .i64 (-1),.slice none 0 0,.bool false])⟩::⟨b2,Z3,zSt⟩::ownO st Zs []) rfl (ZY T b0 o0 ha h9 b vs (hI.suf.trans hu1) false) (.refl _) qF qA) (fun g=>?_);refine yz (Z2d (p:=strE g.1.1) Zbr ZS rfl qD rfl) ?_;apply yn;obtain⟨z2,hz2⟩:=g;try dsimp only
   refine JO.apO (ys:=[strE z2.1]) Z1i Cel.hlen yV hG rfl rfl (srcE (strE z2.1) ZD) (by simp) (by rw[List.length_map];have:=hI.len;have:=(hu1).length_le;(try dsimp only at*);simp;omega) (by rw[List.length_map];have:=hI.len;have:=(hu1).length_le;simp;omega) rfl (fun st2 cap2 hG2=>?_);rw[ZeV]at hG2 ⊢;refine Jq (Z0 Z1k rfl) (JO.m (Z2Q (cs':=[_,_,_,_,_,_,_,_,_,_,_,_,_,_]) (Z2H _ _ _) (Z2T _ _ _) rfl rfl (Z28 (.there .here)) rfl rfl Z7k) (Upd.same (Z28 (.there .here)) rfl) (JO.subL (L':=RB T b z2.2.1 z2.2.2::⟨b3,Z3,.is (.agg #[.int .i64 3,.string z1.1,.string ⟨#[]⟩,.slice none 0 0,sliceO st2 ((acc++[z2.1]).map strE).length cap2,.slice none 0 0,.slice none 0 0,.slice none 0 0,.slice none 0 0,.slice none 0 0,.slice none 0 0,.int .i64 (-1),.slice none 0 0,.bool false])⟩::⟨b2,Z3,zSt⟩::ownO st2 Zs []) (Z4Q (L:=[_,_,_])).symm (vP [0,2,3] ?_)));refine Jm rfl ?_;refine JO.callK (Lr:=_) (Z10 T b0 o0 ha h9 b _ ?hs _ ZU) rfl (.refl _) qF qA ?_
   case hs=>exact qW
   intro _ _;refine vD ?_;refine Ja rfl ?_;apply yI
   repeat refine JX.normal_block ?_
   refine JX.roundG (x:=(acc,st,cap,vs,false,true)) (acc++[z2.1],st2,cap2,skRB 5 ZU z2.2.1 z2.2.2,z2.2.2,isRB 5 ZU z2.2.1 z2.2.2) ?_ ?_ [0,2,3,4] ?_ ?_ ?_ ?_
   · exact⟨hI.step Z14 hz2,hG2⟩
   · exact(by show _<vs.length+1;exact InvW.less hz2)
   · exact qS
   · exact qH
   · exact qG
   · exact fun _ _ _=>fun _ _=>trivial
   repeat apply yQ
   refine J.exit ?_
   repeat first|refine yH ?_|refine yM rfl ?_|refine yE ?_
   repeat first|apply yX|apply yB
   have hF:=hI.fin (by simpa using ht20);refine vQ ?_;refine Jm rfl ?_;refine JO.callK (Lr:=_) (Zl T b0 o0 ha h9 b _ ?hs _ 5 qD s_rp) rfl (.refl _) qF qA ?_
   case hs=>exact qW
   intro y hy;refine vD ?_;apply yI;refine JX.midZ (acc,st,cap,y.2.1,y.2.2) ?_ [0,2,3] ?_ ?_ ?_
   · exact⟨hG,hy.suf.trans (hI.suf.trans ((List.tail_suffix _).trans hz1s)),fun q hq=>by show Rv (insertR T.e us) us bad q;unfold insertR;exact hz0.bind (hz1.bind (Rv.ite_t ht12 (hF.bind (hy.bind hq))))⟩
   · exact qS
   · exact qH
   · exact qG
   apply yK;rw[Z16 ht12];refine JX.midZ (([]:List ByteArray),none,0,z1.2.1,z1.2.2) ?_ [0,2,3] ?_ ?_ ?_
   · exact⟨rfl,hz1s,fun q hq=>by show Rv (insertR T.e us) us bad q;unfold insertR;exact hz0.bind (hz1.bind (Rv.ite_f ht12 hq))⟩
   · exact qS
   · exact qH
   · exact qG
 · intro⟨ac,sn,cn,vn,bn⟩ ⟨hGn,hvs,hJ⟩
   try dsimp only
   refine vQ ?_;refine Jm rfl ?_;refine JO.callK (Lr:=_) (Zl T b0 o0 ha h9 b _ ?hs _ 1 qD Z9q) rfl (.refl _) qF qA ?_
   case hs=>exact hvs.trans hus
   intro z4 hz4;refine vD ?_;refine vS [0,2,3] ?_;have hu4:z4.2.1<:+T.ts:=hz4.suf.trans (hvs.trans hus);refine vQ ?_;refine Ja rfl (vS [0,2,3,5] ?_);apply yk
   repeat apply yQ
   refine J.loopH (α:=List (Cel rwE)×Option (Nat×List Value)×Nat×List T3×Bool×Bool) (fun x=>[(0,.is (.pointer (some ⟨b,0,none⟩))),(2,.is (.pointer (some ⟨b2,0,none⟩))),(3,.is (.pointer (some ⟨b3,0,none⟩))),(5,.is (.bool x.2.2.2.2.2))]) (fun x=>RB T b x.2.2.2.1 x.2.2.2.2.1::⟨b3,Z3,.is (.agg #[.int .i64 3,.string z1.1,.string ⟨#[]⟩,.slice none 0 0,sliceO sn (ac.map strE).length cn,sliceO x.2.1 x.1.length x.2.2.1,.slice none 0 0,.slice none 0 0,.slice none 0 0,.slice none 0 0,.slice none 0 0,.int .i64 (-1),.slice none 0 0,.bool false])⟩::⟨b2,Z3,zSt⟩::ownO x.2.1 Z35 (ownO sn Zs [])) (fun x=>CelF rwE x.1) (fun x=>InvW (rowR T.e) z4.2.1 z4.2.2 (x.1.map Cel.x) x.2.2.2.1 x.2.2.2.2.1 x.2.2.2.2.2/\Grows Cel.cs 1 x.1 x.2.1 x.2.2.1) (fun x=>x.2.2.2.1.length+(if x.2.2.2.2.2 then 1 else 0)) ([],none,0,z4.2.1,z4.2.2,true) [0,2,3,5] (.cons rfl (.cons rfl (.cons rfl (.cons rfl .nil)))) rfl (fun X w hF=>fun w' hk=>CelF.nil w') ⟨InvW.start _ _ _,rfl⟩ fun⟨ps,st,cap,vs,bd,mo⟩ ⟨hI,hG⟩=>?_;try dsimp only
   try dsimp only at hI
   try dsimp only at hG
   refine vQ ?_;refine Jm rfl (Jm rfl (JO.tg rfl rfl rfl rfl rfl (fun hg=>Z2 (.inl rfl)) (JO.tg rfl rfl rfl rfl rfl (fun hg=>Z5 (qR rfl)) ?_)));refine JO.tg rfl rfl rfl rfl rfl (fun hg=>Z0 Ze (qR rfl)) ?_;refine JO.tg rfl rfl rfl rfl rfl (fun hg=>Z1 Z1E (qR rfl) rfl) ?_;refine JO.tg rfl rfl rfl rfl rfl (fun hg=>Z2e (qR rfl)) ?_;refine Jq (Zn rfl rfl rfl id) (vS [0,2,3,41] ?_);refine yC rfl (fun ht41=>?_) (fun ht41=>?_);apply yK;refine vN ?_;apply yk;obtain⟨rfl,rfl⟩:mo=true/\bd=false:=by simpa using ht41
   refine vQ ?_;refine Jm rfl ?_;refine JO.callK (Lr:=_) (Zl T b0 o0 ha h9 b _ ?hs _ 5 qD s_lp) rfl (.refl _) qF qA ?_
   case hs=>exact hI.suf.trans hu4
   intro y1 hy1;refine vD ?_;refine vS [0,2,3] ?_;refine J.regBgm (G:={q:{z:List Ex×List T3×Bool // Rv (exprsR T.e y1.2.1) y1.2.1 y1.2.2 z}×Cel rwE // q.2.x=q.1.1.1}) 3 5 (fun q=>TC q.1.2) (fun q=>[RB T b q.1.1.1.2.1 q.1.1.1.2.2]++(⟨b3,Z3,.is (.agg #[.int .i64 3,.string z1.1,.string ⟨#[]⟩,.slice none 0 0,sliceO sn (ac.map strE).length cn,sliceO st ps.length cap,.slice none 0 0,.slice none 0 0,.slice none 0 0,.slice none 0 0,.slice none 0 0,.int .i64 (-1),.slice none 0 0,.bool false])⟩::⟨b2,Z3,zSt⟩::ownO st Z35 (ownO sn Zs []))) ([⟨b3,Z3,.is (.agg #[.int .i64 3,.string z1.1,.string ⟨#[]⟩,.slice none 0 0,sliceO sn (ac.map strE).length cn,sliceO st ps.length cap,.slice none 0 0,.slice none 0 0,.slice none 0 0,.slice none 0 0,.slice none 0 0,.int .i64 (-1),.slice none 0 0,.bool false])⟩]) rfl rfl rfl rfl hmx qK rfl qK (fun o ho=>by rw[List.mem_singleton.1 ho];exact List.mem_cons_of_mem _ List.mem_cons_self) (fun g o ho=>by rw[List.mem_singleton.1 ho];exact List.mem_cons_of_mem _ List.mem_cons_self) qK ?_;refine yz (Z0 Z2r rfl) (yz (Z1 Z24 rfl rfl) (yz (Z2 rfl) ?_));refine RT.bigg (Lq:=[⟨b3,Z3,.is (.agg #[.int .i64 3,.string z1.1,.string ⟨#[]⟩,.slice none 0 0,sliceO sn (ac.map strE).length cn,sliceO st ps.length cap,.slice none 0 0,.slice none 0 0,.slice none 0 0,.slice none 0 0,.slice none 0 0,.int .i64 (-1),.slice none 0 0,.bool false])⟩]) (BigOb.pick (f:=fun g:{z:List Ex×List T3×Bool // Rv (exprsR T.e y1.2.1) y1.2.1 y1.2.2 z}=>g.1.1) (Z3x (Lr:=⟨b3,Z3,.is (.agg #[.int .i64 3,.string z1.1,.string ⟨#[]⟩,.slice none 0 0,sliceO sn (ac.map strE).length cn,sliceO st ps.length cap,.slice none 0 0,.slice none 0 0,.slice none 0 0,.slice none 0 0,.slice none 0 0,.int .i64 (-1),.slice none 0 0,.bool false])⟩::⟨b2,Z3,zSt⟩::ownO st Z35 (ownO sn Zs [])) rfl (ZgI T b0 o0 ha h9 b y1.2.1 (hy1.suf.trans (hI.suf.trans hu4)) y1.2.2 hE) (.refl _) qF qA)) (fun g=>?_);refine yz (ZdR rfl (by simp[Op.operands]) (fun E v w _ h=>TC.is E v w h) (Z2d (p:=g.1.2) Zjg Z5b rfl qD (.inr ⟨rfl,rfl⟩))) ?_;apply yn;obtain⟨⟨⟨z2,hz2⟩,p2⟩,hp2⟩:=g;try dsimp only at hp2 ⊢
   refine JO.tcF (s:=49) (p:=p2) rfl ?_;refine JO.apO (ys:=[p2]) Z6V Cel.hlen yV hG rfl rfl (srcE p2 Z2l) (by simp) (by have h1:=hI.len;have h2:=hu4.length_le;rw[List.length_map]at h1;simp;omega) (by have h1:=hI.len;have h2:=hu4.length_le;rw[List.length_map]at h1;simp;omega) rfl (fun st2 cap2 hG2=>?_);refine Jq (Z0 Z2r rfl) (JO.m (Z2Q (cs':=[_,_,_,_,_,_,_,_,_,_,_,_,_,_]) (Z2H _ _ _) (Z2T _ _ _) rfl rfl (Z28 (.there .here)) rfl rfl Zb2) (Upd.same (Z28 (.there .here)) rfl) (JO.subL (L':=RB T b z2.2.1 z2.2.2::⟨b3,Z3,.is (.agg #[.int .i64 3,.string z1.1,.string ⟨#[]⟩,.slice none 0 0,sliceO sn (ac.map strE).length cn,sliceO st2 (ps++[p2]).length cap2,.slice none 0 0,.slice none 0 0,.slice none 0 0,.slice none 0 0,.slice none 0 0,.int .i64 (-1),.slice none 0 0,.bool false])⟩::⟨b2,Z3,zSt⟩::ownO st2 Z35 (ownO sn Zs [])) Zaw (vP [0,2,3] ?_)));refine Jm rfl ?_;refine JO.callK (Lr:=_) (Zl T b0 o0 ha h9 b _ ?hs _ 5 qD s_rp) rfl (.refl _) qF qA ?_
   case hs=>exact hz2.suf.trans (hy1.suf.trans (hI.suf.trans hu4))
   intro y3 hy3;refine vD ?_;refine vP [0,2,3] ?_;refine Jm rfl ?_;refine JO.callK (Lr:=_) (Z10 T b0 o0 ha h9 b _ ?hs _ ZU) rfl (.refl _) qF qA ?_
   case hs=>exact hy3.suf.trans (hz2.suf.trans (hy1.suf.trans (hI.suf.trans hu4)))
   intro _ _;refine vD ?_;refine Ja rfl ?_;apply yI
   repeat refine JX.normal_block ?_
   refine JX.roundG (x:=(ps,st,cap,vs,false,true)) (ps++[p2],st2,cap2,skRB 5 ZU y3.2.1 y3.2.2,y3.2.2,isRB 5 ZU y3.2.1 y3.2.2) ?_ ?_ [0,2,3,5] ?_ ?_ ?_ ?_
   · exact⟨(by rw[List.map_append,List.map_singleton,hp2];exact hI.step (z:=(z2.1,y3.2.1,y3.2.2)) (Zl9 T.e_dn) (hy1.bind (hz2.bind (Rv.map hy3 rfl)))),hG2⟩
   · exact(by show _<vs.length+1;exact InvW.less (part:=rowR T.e) (z:=(z2.1,y3.2.1,y3.2.2)) (hy1.bind (hz2.bind (Rv.map hy3 rfl))))
   · exact qS
   · exact qH
   · exact qG
   · exact fun X w hF=>fun w' hk=>CelF.snoc (hF _ qI w' hk) (hF _ qI w' hk)
   repeat apply yQ
   refine J.exit ?_
   repeat first|refine yH ?_|refine yM rfl ?_|refine yE ?_
   repeat first|apply yX|apply yB
   have hF:=hI.fin (by simpa using ht41);refine vQ ?_;refine Jm rfl (Jm rfl (Jq (Z5 rfl) (Jq (Z0 Ze rfl) (Jq (Z1 Z1E rfl rfl) (Jm rfl (JO.tg rfl rfl rfl rfl rfl (fun hg=>Z0 Z1k (.inl rfl)) (JO.tg rfl rfl rfl rfl rfl (fun hg=>Z1 Z20 (qR rfl) rfl) ?_)))))));refine JO.tg rfl rfl rfl rfl rfl (fun hg=>Z6g hGn ZD (qR rfl)) ?_;refine JO.tg rfl rfl rfl rfl rfl (fun hg=>Z13 (qR rfl) (.inl rfl)) ?_;refine Jq (ZF rfl rfl rfl id) (Jm rfl (JO.tg rfl rfl rfl rfl rfl (fun hg=>Z0 Z2r (.inl rfl)) (JO.tg rfl rfl rfl rfl rfl (fun hg=>Z1 Z24 (qR rfl) rfl) ?_)));refine JO.tg rfl rfl rfl rfl rfl (fun hg=>Z6g hG Z2l (qR rfl)) ?_;refine JO.tg rfl rfl rfl rfl rfl (fun hg=>Z13 (qR rfl) (.inl rfl)) ?_;refine Jq (ZF rfl rfl rfl id) (Jq (Z5 rfl) (Jq (Z0 Ze rfl) (JO.m (Zj (cs':=[_,_,_]) rfl rfl qU rfl rfl rfl rfl Z2D) (by rfl) ?_)));refine vS [2,3] ?_;refine J.freezeOMW (N:=0) (e:=Z35) (sz:=1) (Nat.zero_le _) Cel.hlen hG yV (fun q hq=>by simp only[List.map_cons,List.map_nil,List.mem_singleton]at hq;exact⟨_,List.mem_cons_self,hq.symm⟩) rfl (by cases sn<;>rfl) ?_;refine J.freezeOMW (N:=0) (e:=Zs) (sz:=1) (Nat.zero_le _) Cel.hlen hGn yV (fun q hq=>by simp only[List.map_cons,List.map_nil,List.mem_singleton]at hq;exact⟨_,List.mem_cons_self,hq.symm⟩) rfl rfl ?_;rw[hGn.sl.1,hG.sl.1];refine vQ ?_;refine Jq (ZR (cs:=[_,_,_,_,_,_,_,_,_,_,_,_,_,_]) ZL rfl rfl rfl) (JO.m (Z4 rfl rfl qU (by exact Zh rfl rfl) (by first|exact Zh rfl rfl|exact ZQ) ZV) (by rfl) ?_);refine vS [2] ?_;refine vR ?_;refine JX.retLCs (Lr:=[_,_]) rfl ({stK 3 with tb:=z1.1,names:=ac,rows:=ps.map Cel.x},vs,((bd||decide ((16:Int)<(((ac.map strE).length:Nat):Int)))||decide ((32:Int)<((ps.length:Nat):Int)))) ?_ qP rfl rfl hb0 rfl ZL HasOwn.mem (Z1o rfl) (Sub.st rfl fun X w hf w' hk=>⟨Zw (FrS.nil _),(by have h:=SlE.ofGr hGn (hf _ qI w' hk) (Ze1 ac w') (hf _ qI w' hk);rwa [ZlW,hGn.sl.1]at h),(by have h:=SlE.ofGr0 hG (hf _ qI w' hk) (hf (CelF rwE ps) qI w' hk);rwa [hG.sl.1]at h),Zw trivial,Zw trivial,Zw (FrS.nil _),Z23,Zw trivial,Z23⟩);show Rv (insertR T.e us) us bad _;refine hJ _ ?_;unfold insRowsR;refine hz4.bind (hF.bind ?_);rw[show(ac.map strE).length=ac.length from List.length_map _];dsimp only;rw[show(ps.map Cel.x).length=ps.length from List.length_map _];exact Rv.cap2 _ _ _
end Go.Proofs.YtbedigkncjbggaaGreatDoor
set_option maxRecDepth 20000
namespace Go.Proofs.YtbedigkncjbggaaGreatDoor
open Go Go.Vc
open Go.Pz
theorem ZkY{s t:Option (Nat×List Value)}{e e':TypeId}{a b c:Own}:(a::b::c::ownO s e (ownO t e' [])).Perm (ownO t e' (a::b::c::ownO s e [])):=by
 cases s with
 |none=>
   cases t with
   |none=>exact .refl _
   |some p=>exact List.perm_append_comm (l₁:=[a,b,c]) (l₂:=[_])
 |some q=>
   cases t with
   |none=>exact .refl _
   |some p=>exact List.perm_append_comm (l₁:=[a,b,c,_]) (l₂:=[_])
theorem E0.T{T:Rk}{b:Nat}(hE:E0 T b)(us:List T3)(bad:Bool)(hus:us<:+T.ts):CallL Tryz.prog Z3h [RB T b us bad] [T.G] [.is (.pointer (some ⟨b,0,none⟩)),.is (.int .i64 0)] (fun z:Ex×List T3×Bool=>Rv (T.e us) us bad z) (fun z=>[RB T b z.2.1 z.2.2]) (fun z=>.rep (exE.T z.1)):=
 CallL.weakR (hE us bad hus) fun z E v w h=>by rw[<-Z8Z];exact h
abbrev PcL:=List (ByteArray×Cel exE)
abbrev pcN(l:PcL):List (Cel stE):=l.map fun p=>strE p.1
abbrev pcS(l:PcL):List (Cel exE):=l.map (·.2)
attribute [local irreducible] SlE ExsR
set_option maxHeartbeats 1000000 in
theorem Z7F(T:Rk)(b0 o0:Nat)(ha:T.ts.length≠0->T.ad=some ⟨b0,o0,none⟩)(h9:T.ts.length<=2049)(b:Nat)(us:List T3)(hus:us<:+T.ts)(bad:Bool)(hE:E0 T b):CallL Tryz.prog Z7M [RB T b us bad] [T.G] [.is (.pointer (some ⟨b,0,none⟩))] (fun z:Pz.St×List T3×Bool=>Rv (updateR T.e us) us bad z) (fun z=>[RB T b z.2.1 z.2.2]) (fun z=>.rep (StR 0 z.1)):=
CallL.of (fn:=Tryz.f35) Tryz.func35 (n:=53) rfl rfl rfl (fun _ _=>by kernel_rfl) fun E W hb0=>by
 refine vQ ?_;refine JO.alloc Z1Q rfl fun b2=>(vP [0,2] ?_);refine Jm rfl ?_;refine JO.callK (Lr:=[_]) (ZY T b0 o0 ha h9 b _ ?hs _) rfl qP qF qA ?_
 case hs=>exact qW
 intro z1 hz1;refine vD ?_;refine Jq (Zg (cs:=[_,_,_,_,_,_,_,_,_,_,_,_,_,_]) Z38 (.cons rfl (.cons rfl (.cons rfl .nil))) rfl rfl) (JO.alloc Z1Q rfl fun b3=>(JO.m (Z4 rfl rfl qU (by exact Zh rfl rfl) (by first|exact Zh rfl rfl|exact ZQ) ZV) (by rfl) ?_));refine vP [0,2,3] ?_;refine Jm rfl ?_;refine JO.callK (Lr:=[_,_]) (Zl T b0 o0 ha h9 b _ ?hs _ 1 qD ZgW) rfl qP qF qA ?_
 case hs=>exact qW
 intro z4 hz4;have hu4:z4.2.1<:+T.ts:=hz4.suf.trans (hz1.suf.trans hus);refine vD ?_;refine vP [0,2,3] ?_;refine Ja rfl (vS [0,2,3,4] ?_);apply yk
 repeat apply yQ
 refine J.loopH (α:=PcL×(Option (Nat×List Value)×Nat)×(Option (Nat×List Value)×Nat)×List T3×Bool×Bool) (fun x=>[(0,.is (.pointer (some ⟨b,0,none⟩))),(2,.is (.pointer (some ⟨b2,0,none⟩))),(3,.is (.pointer (some ⟨b3,0,none⟩))),(4,.is (.bool x.2.2.2.2.2))]) (fun x=>RB T b x.2.2.2.1 x.2.2.2.2.1::⟨b3,Z3,.is (.agg #[.int .i64 5,.string z1.1,.string ⟨#[]⟩,.slice none 0 0,sliceO x.2.1.1 (pcN x.1).length x.2.1.2,.slice none 0 0,.slice none 0 0,.slice none 0 0,.slice none 0 0,.slice none 0 0,.slice none 0 0,.int .i64 (-1),sliceO x.2.2.1.1 (pcS x.1).length x.2.2.1.2,.bool false])⟩::⟨b2,Z3,zSt⟩::ownO x.2.1.1 Zs (ownO x.2.2.1.1 Zb [])) (fun x=>CelF exE (pcS x.1)) (fun x=>InvW (setP T.e) z4.2.1 z4.2.2 (x.1.map pcX) x.2.2.2.1 x.2.2.2.2.1 x.2.2.2.2.2/\Grows Cel.cs 1 (pcN x.1) x.2.1.1 x.2.1.2/\Grows Cel.cs 8 (pcS x.1) x.2.2.1.1 x.2.2.1.2) (fun x=>x.2.2.2.1.length+(if x.2.2.2.2.2 then 1 else 0)) ([],(none,0),(none,0),z4.2.1,z4.2.2,true) [0,2,3,4] (.cons rfl (.cons rfl (.cons rfl (.cons rfl .nil)))) rfl (fun X w hF=>fun w' hk=>CelF.nil w') ⟨InvW.start _ _ _,rfl,rfl⟩ fun⟨l,⟨sn,cn⟩,⟨sx,cx⟩,vs,bd,mo⟩ ⟨hI,hGn,hGx⟩=>?_;try dsimp only
 try dsimp only at hI
 try dsimp only at hGn
 try dsimp only at hGx
 refine vQ ?_;refine Jm rfl (Jm rfl (JO.tg rfl rfl rfl rfl rfl (fun hg=>Z2 (.inl rfl)) (JO.tg rfl rfl rfl rfl rfl (fun hg=>Z5 (qR rfl)) ?_)));refine JO.tg rfl rfl rfl rfl rfl (fun hg=>Z0 Ze (qR rfl)) ?_;refine JO.tg rfl rfl rfl rfl rfl (fun hg=>Z1 Z1E (qR rfl) rfl) ?_;refine JO.tg rfl rfl rfl rfl rfl (fun hg=>Z2e (qR rfl)) ?_;refine Jq (Zn rfl rfl rfl id) (vS [0,2,3,17] ?_);refine yC rfl (fun ht17=>?_) (fun ht17=>?_);apply yK;refine vN ?_;apply yk;obtain⟨rfl,rfl⟩:mo=true/\bd=false:=by simpa using ht17
 repeat apply yQ
 refine J.regBgm (G:={z:ByteArray×List T3×Bool // Rv (nameP vs) vs false z}) 3 5 (fun g=>.is (.string g.1.1)) (fun g=>[RB T b g.1.2.1 g.1.2.2]++(⟨b3,Z3,.is (.agg #[.int .i64 5,.string z1.1,.string ⟨#[]⟩,.slice none 0 0,sliceO sn (pcN l).length cn,.slice none 0 0,.slice none 0 0,.slice none 0 0,.slice none 0 0,.slice none 0 0,.slice none 0 0,.int .i64 (-1),sliceO sx (pcS l).length cx,.bool false])⟩::⟨b2,Z3,zSt⟩::ownO sn Zs (ownO sx Zb []))) ([⟨b3,Z3,.is (.agg #[.int .i64 5,.string z1.1,.string ⟨#[]⟩,.slice none 0 0,sliceO sn (pcN l).length cn,.slice none 0 0,.slice none 0 0,.slice none 0 0,.slice none 0 0,.slice none 0 0,.slice none 0 0,.int .i64 (-1),sliceO sx (pcS l).length cx,.bool false])⟩]) rfl rfl rfl rfl hmx qK rfl qK (fun o ho=>by rw[List.mem_singleton.1 ho];exact List.mem_cons_of_mem _ List.mem_cons_self) (fun g o ho=>by rw[List.mem_singleton.1 ho];exact List.mem_cons_of_mem _ List.mem_cons_self) qK ?_;refine yz (Z0 Z1k rfl) (yz (Z1 Z20 rfl rfl) (yz (Z2 rfl) ?_));refine RT.bigg (Lq:=[⟨b3,Z3,.is (.agg #[.int .i64 5,.string z1.1,.string ⟨#[]⟩,.slice none 0 0,sliceO sn (pcN l).length cn,.slice none 0 0,.slice none 0 0,.slice none 0 0,.slice none 0 0,.slice none 0 0,.slice none 0 0,.int .i64 (-1),sliceO sx (pcS l).length cx,.bool false])⟩]) (Z3x (Lr:=⟨b3,Z3,.is (.agg #[.int .i64 5,.string z1.1,.string ⟨#[]⟩,.slice none 0 0,sliceO sn (pcN l).length cn,.slice none 0 0,.slice none 0 0,.slice none 0 0,.slice none 0 0,.slice none 0 0,.slice none 0 0,.int .i64 (-1),sliceO sx (pcS l).length cx,.bool false])⟩::⟨b2,Z3,zSt⟩::ownO sn Zs (ownO sx Zb [])) rfl (ZY T b0 o0 ha h9 b vs (hI.suf.trans hu4) false) (.refl _) qF qA) (fun g=>?_);refine yz (Z2d (p:=strE g.1.1) Zbr ZS rfl qD rfl) ?_;apply yn;obtain⟨z2,hz2⟩:=g;try dsimp only
 refine JO.apO (ys:=[strE z2.1]) Z1i Cel.hlen yV hGn rfl rfl (srcE (strE z2.1) ZD) (by simp) (by have h1:=hI.len;have h2:=hu4.length_le;rw[List.length_map]at h1;simp;omega) (by have h1:=hI.len;have h2:=hu4.length_le;rw[List.length_map]at h1;simp;omega) rfl (fun st2 cap2 hG2=>?_);refine Jq (Z0 Z1k rfl) (JO.m (Z2Q (cs':=[_,_,_,_,_,_,_,_,_,_,_,_,_,_]) (Z2H _ _ _) (Z2T _ _ _) rfl rfl (Z28 (.there .here)) rfl rfl Z7k) (Upd.same (Z28 (.there .here)) rfl) (JO.subL (L':=RB T b z2.2.1 z2.2.2::⟨b3,Z3,.is (.agg #[.int .i64 5,.string z1.1,.string ⟨#[]⟩,.slice none 0 0,sliceO st2 (pcN l++[strE z2.1]).length cap2,.slice none 0 0,.slice none 0 0,.slice none 0 0,.slice none 0 0,.slice none 0 0,.slice none 0 0,.int .i64 (-1),sliceO sx (pcS l).length cx,.bool false])⟩::⟨b2,Z3,zSt⟩::ownO st2 Zs (ownO sx Zb [])) Zaw (vP [0,2,3] ?_)));refine Jm rfl ?_;refine JO.callK (Lr:=_) (Zl T b0 o0 ha h9 b _ ?hs _ 5 qD s_eq) rfl (.refl _) qF qA ?_
 case hs=>exact hz2.suf.trans (hI.suf.trans hu4)
 intro y1 hy1;refine vD ?_;refine vS [0,2,3] ?_;refine J.regBgm (G:={q:{z:Ex×List T3×Bool // Rv (T.e y1.2.1) y1.2.1 y1.2.2 z}×Cel exE // q.2.x=q.1.1.1}) 3 5 (fun q=>TC q.1.2) (fun q=>[RB T b q.1.1.1.2.1 q.1.1.1.2.2]++(⟨b3,Z3,.is (.agg #[.int .i64 5,.string z1.1,.string ⟨#[]⟩,.slice none 0 0,sliceO st2 (pcN l++[strE z2.1]).length cap2,.slice none 0 0,.slice none 0 0,.slice none 0 0,.slice none 0 0,.slice none 0 0,.slice none 0 0,.int .i64 (-1),sliceO sx (pcS l).length cx,.bool false])⟩::⟨b2,Z3,zSt⟩::ownO st2 Zs (ownO sx Zb []))) ([⟨b3,Z3,.is (.agg #[.int .i64 5,.string z1.1,.string ⟨#[]⟩,.slice none 0 0,sliceO st2 (pcN l++[strE z2.1]).length cap2,.slice none 0 0,.slice none 0 0,.slice none 0 0,.slice none 0 0,.slice none 0 0,.slice none 0 0,.int .i64 (-1),sliceO sx (pcS l).length cx,.bool false])⟩]) rfl rfl rfl rfl hmx qK rfl qK (fun o ho=>by rw[List.mem_singleton.1 ho];exact List.mem_cons_of_mem _ List.mem_cons_self) (fun g o ho=>by rw[List.mem_singleton.1 ho];exact List.mem_cons_of_mem _ List.mem_cons_self) qK ?_;refine yz (Z0 Z32 rfl) (yz (Z1 Zk rfl rfl) (yz (Z2 rfl) ?_));refine RT.bigg (Lq:=[⟨b3,Z3,.is (.agg #[.int .i64 5,.string z1.1,.string ⟨#[]⟩,.slice none 0 0,sliceO st2 (pcN l++[strE z2.1]).length cap2,.slice none 0 0,.slice none 0 0,.slice none 0 0,.slice none 0 0,.slice none 0 0,.slice none 0 0,.int .i64 (-1),sliceO sx (pcS l).length cx,.bool false])⟩]) (BigOb.pick (f:=fun g:{z:Ex×List T3×Bool // Rv (T.e y1.2.1) y1.2.1 y1.2.2 z}=>g.1.1) (Z3x (Lr:=⟨b3,Z3,.is (.agg #[.int .i64 5,.string z1.1,.string ⟨#[]⟩,.slice none 0 0,sliceO st2 (pcN l++[strE z2.1]).length cap2,.slice none 0 0,.slice none 0 0,.slice none 0 0,.slice none 0 0,.slice none 0 0,.slice none 0 0,.int .i64 (-1),sliceO sx (pcS l).length cx,.bool false])⟩::⟨b2,Z3,zSt⟩::ownO st2 Zs (ownO sx Zb [])) rfl (hE.T y1.2.1 y1.2.2 (hy1.suf.trans (hz2.suf.trans (hI.suf.trans hu4)))) (.refl _) qF qA)) (fun g=>?_);refine yz (ZdR rfl (by simp[Op.operands]) (fun E v w _ h=>TC.is E v w h) (Z2d (p:=g.1.2) Z4l ZB rfl qD (.inr ⟨rfl,rfl⟩))) ?_;apply yn;obtain⟨⟨⟨z5,hz5⟩,p2⟩,hp2⟩:=g;try dsimp only at hp2 ⊢
 refine JO.tcF (s:=32) (p:=p2) rfl ?_;refine JO.apO (ys:=[p2]) Z1z Cel.hlen yV hGx rfl rfl (srcE p2 Zy) (by simp) (by have h1:=hI.len;have h2:=hu4.length_le;rw[List.length_map]at h1;simp;omega) (by have h1:=hI.len;have h2:=hu4.length_le;rw[List.length_map]at h1;simp;omega) rfl (fun st3 cap3 hG3=>?_);refine Jq (Z0 Z32 rfl) (JO.m (Z2Q (cs':=[_,_,_,_,_,_,_,_,_,_,_,_,_,_]) (Z2H _ _ _) (Z2T _ _ _) rfl rfl (Z28 (.there .here)) rfl rfl Z2k) (Upd.same (Z28 (.there .here)) rfl) (JO.subL (L':=RB T b z5.2.1 z5.2.2::⟨b3,Z3,.is (.agg #[.int .i64 5,.string z1.1,.string ⟨#[]⟩,.slice none 0 0,sliceO st2 (pcN l++[strE z2.1]).length cap2,.slice none 0 0,.slice none 0 0,.slice none 0 0,.slice none 0 0,.slice none 0 0,.slice none 0 0,.int .i64 (-1),sliceO st3 (pcS l++[p2]).length cap3,.bool false])⟩::⟨b2,Z3,zSt⟩::ownO st2 Zs (ownO st3 Zb [])) ZkY ?_));have hpn:pcN l++[strE z2.1]=pcN (l++[(z2.1,p2)]):=by simp[pcN]
 have hpx:pcS l++[p2]=pcS (l++[(z2.1,p2)]):=by simp[pcS]
 rw[hpn]at hG2 ⊢;rw[hpx]at hG3 ⊢;refine vP [0,2,3] ?_;refine Jm rfl ?_;refine JO.callK (Lr:=_) (Z10 T b0 o0 ha h9 b _ ?hs _ ZU) rfl (.refl _) qF qA ?_
 case hs=>exact hz5.suf.trans (hy1.suf.trans (hz2.suf.trans (hI.suf.trans hu4)))
 intro _ _;refine vD ?_;refine Ja rfl ?_;apply yI
 repeat refine JX.normal_block ?_
 refine JX.roundG (x:=(l,(sn,cn),(sx,cx),vs,false,true)) (l++[(z2.1,p2)],(st2,cap2),(st3,cap3),skRB 5 ZU z5.2.1 z5.2.2,z5.2.2,isRB 5 ZU z5.2.1 z5.2.2) ?_ ?_ [0,2,3,4] ?_ ?_ ?_ ?_
 · exact⟨(by rw[List.map_append,List.map_singleton,show pcX (z2.1,p2)=(z2.1,z5.1) by rw[<-hp2]];exact hI.step (z:=((z2.1,z5.1),z5.2.1,z5.2.2)) (Z77 T.e_dn) (hz2.bind (hy1.bind (Rv.map hz5 rfl)))),hG2,hG3⟩
 · exact(by show _<vs.length+1;exact InvW.less (part:=setP T.e) (z:=((z2.1,z5.1),z5.2.1,z5.2.2)) (hz2.bind (hy1.bind (Rv.map hz5 rfl))))
 · exact qS
 · exact qH
 · exact qG
 · exact fun X w hF=>fun w' hk=>(by rw[<-hpx];exact CelF.snoc (hF _ qI w' hk) (hF _ qI w' hk))
 repeat apply yQ
 refine J.exit ?_
 repeat first|refine yH ?_|refine yM rfl ?_|refine yE ?_
 repeat first|apply yX|apply yB
 have hF:=hI.fin (by simpa using ht17);refine vQ ?_;refine Jm rfl (JO.callK (Lr:=_) (Z3Z T b0 o0 ha h9 b vs (hI.suf.trans hu4) bd hE) rfl (.refl _) qF qA ?_);intro w5 hw5;refine vD ?_;refine JO.openEv (s:=37) rfl (fun aw lw cw _ _=>?_);refine Jq (Z0 Z26 rfl) (JO.m (Zj (cs':=[_,_,_,_,_,_,_,_,_,_,_,_,_,_]) rfl rfl qU rfl rfl rfl rfl Z2k) (by rfl) ?_);refine vP [0,2,3] ?_;refine Jm rfl (Jm rfl (Jq (Z5 rfl) (Jq (Z0 Ze rfl) (Jq (Z1 Z1E rfl rfl) (Jm rfl (JO.tg rfl rfl rfl rfl rfl (fun hg=>Z0 Z1k (.inl rfl)) (JO.tg rfl rfl rfl rfl rfl (fun hg=>Z1 Z20 (qR rfl) rfl) ?_)))))));refine JO.tg rfl rfl rfl rfl rfl (fun hg=>Z6g hGn ZD (qR rfl)) ?_;refine JO.tg rfl rfl rfl rfl rfl (fun hg=>Z13 (qR rfl) (.inl rfl)) ?_;refine Jq (ZF rfl rfl rfl id) (Jq (Z5 rfl) (Jq (Z0 Ze rfl) (JO.m (Zj (cs':=[_,_,_]) rfl rfl qU rfl rfl rfl rfl Z2D) (by rfl) ?_)));refine vS [2,3] ?_;refine J.freezeOMW (N:=0) (e:=Zs) (sz:=1) (Nat.zero_le _) Cel.hlen hGn yV (fun q hq=>by simp only[List.map_cons,List.map_nil,List.mem_singleton]at hq;exact⟨_,List.mem_cons_self,hq.symm⟩) rfl (by cases sx<;>rfl) ?_;refine J.freezeOMW (N:=0) (e:=Zb) (sz:=8) (Nat.zero_le _) Cel.hlen hGx yV (fun q hq=>by simp only[List.map_cons,List.map_nil,List.mem_singleton]at hq;exact⟨_,List.mem_cons_self,hq.symm⟩) rfl rfl ?_;rw[hGn.sl.1,hGx.sl.1];refine vQ ?_;refine Jq (ZR (cs:=[_,_,_,_,_,_,_,_,_,_,_,_,_,_]) ZL rfl rfl rfl) (JO.m (Z4 rfl rfl qU (by exact Zh rfl rfl) (by first|exact Zh rfl rfl|exact ZQ) ZV) (by rfl) ?_);refine vS [2] ?_;refine vR ?_;refine JX.retLCs (Lr:=[_,_]) rfl ({stK 5 with tb:=z1.1,names:=(l.map pcX).map (·.1),sets:=(l.map pcX).map (·.2),where_:=w5.1},w5.2.1,w5.2.2||decide (((16:Nat):Int)<(((pcN l).length:Nat):Int))) ?_ qP rfl rfl hb0 rfl ZL HasOwn.mem (Z1o rfl) (Sub.st rfl fun X w hf w' hk=>⟨Zw (FrS.nil _),(by have h:=SlE.ofGr hGn (hf _ qI w' hk) (show CelF stE (pcN l) w' from fun p hp=>by obtain⟨c,_,rfl⟩:=List.mem_map.1 hp;rfl) (hf _ qI w' hk);rw[hGn.sl.1]at h;rwa [show(pcN l).map Cel.x=(l.map pcX).map (·.1) by simp[pcN]]at h),Zw trivial,Zw trivial,Zw trivial,hf _ qI w' hk,Z23,Zw trivial,(by have h:=SlE.exs (SlE.ofGr0 hGx (hf _ qI w' hk) (hf (CelF exE (pcS l)) qI w' hk));rw[hGx.sl.1]at h;rwa [show(pcS l).map Cel.x=(l.map pcX).map (·.2) by simp[pcS]]at h)⟩);show Rv (updateR T.e us) us bad _;unfold updateR;refine hz1.bind (hz4.bind (hF.bind (hw5.bind ?_)));rw[show(pcN l).length=(l.map pcX).length by simp[pcN]];exact Rv.cap _ _ _
end Go.Proofs.YtbedigkncjbggaaGreatDoor
namespace Go.Pz
open Go Go.Vc
theorem ZkU{us:List T3}{z:Src×List T3}(h:sourceP us=some z):z.1.on=[]:=by
 unfold sourceP at h;obtain⟨n,_,h⟩:=bnd h;refine Z3K h (fun h=>?_) fun h=>Z3K h (fun h=>?_) fun h=>?_
 · obtain⟨m,_,rfl⟩:=mpd h;rfl
 · obtain⟨m,_,rfl⟩:=mpd h;rfl
 · injection h with h;subst h;rfl
theorem Rv.src{us:List T3}{bad:Bool}{z:Src×List T3×Bool}(h:Rv (sourceP us) us bad z):Rv (sourceP us) us bad ((⟨z.1.tb,z.1.nm,[]⟩:Src),z.2.1,z.2.2):=by
 refine⟨h.1,h.2.1,fun hb=>?_⟩;rcases h.2.2 hb with⟨h1,h2⟩|⟨h1,h2⟩
 · refine .inl ⟨h1,?_⟩
   rw[h2];have h3:=ZkU h2;obtain⟨⟨tb,nm,on⟩,r,bd⟩:=z;dsimp only at h3 ⊢;rw[h3]
 · exact .inr ⟨h1,h2⟩
structure InvJ (e:Ps Ex) (us0:List T3) (bad0:Bool) (acc:List Src) (us:List T3) (bad:Bool):Prop where
 suf:us<:+us0
 fin': ∀y:List Src×List T3×Bool,Rv (joinsC e us) us bad y->Rv (joinsC e us0) us0 bad0 (acc++y.1,y.2.1,y.2.2)
 cnt:bad=false->acc.length+us.length<=us0.length
 len:acc.length<=us0.length+1
theorem InvJ.start(e:Ps Ex)(us:List T3)(bad:Bool):InvJ e us bad [] us bad:=⟨List.suffix_refl _,fun _ h=>h,fun _=>by simp,by simp⟩
theorem InvJ.step{e:Ps Ex}(he:Dn e){us0 us:List T3}{bad0:Bool}{acc:List Src}(h:InvJ e us0 bad0 acc us false)(hj:isJ us=true){y1:Unit×List T3×Bool}(h1:Rv (wantP 1 Z3c (skT 1 ZW us)) (skT 1 ZW us) false y1){s:Src×List T3×Bool}(h2:Rv (sourceP y1.2.1) y1.2.1 y1.2.2 s)
   {y3:Unit×List T3×Bool}(h3:Rv (wantP 1 w_ON s.2.1) s.2.1 s.2.2 y3){z:Ex×List T3×Bool}(h4:Rv (e y3.2.1) y3.2.1 y3.2.2 z):InvJ e us0 bad0 (acc++[{s.1 with on:=[z.1]}]) z.2.1 z.2.2:=by
 have hp:Rv (joinP e (skT 1 ZW us)) (skT 1 ZW us) false (({s.1 with on:=[z.1]}:Src),z.2.1,z.2.2):=by
   unfold joinP;exact h1.bind (h2.bind (h3.bind (Rv.map h4 rfl)))
 have hk:skT 1 ZW us<:+us:=Z2p _ _ _;have hc:=h.cnt rfl;refine⟨(hp.suf.trans hk).trans h.suf,fun y hy=>?_,fun hb=>?_,by rw[List.length_append,List.length_singleton];omega⟩
 · rw[List.append_assoc]
   refine h.fin' (({s.1 with on:=[z.1]}:Src)::y.1,y.2.1,y.2.2) ?_;rw[Zc0 he hj];have h5:=hp.bind (f:=fun s=>(joinsC e s.2).map fun y=>(s.1::y.1,y.2)) (y:=(({s.1 with on:=[z.1]}:Src)::y.1,y.2.1,y.2.2)) (Rv.map (f:=fun y=>(({s.1 with on:=[z.1]}:Src)::y.1,y.2)) hy rfl);exact⟨h5.1.trans hk,h5.2.1,h5.2.2⟩
 · have h6:=(Z4O he _ _ (hp.ok hb).2).2
   have h7:=hk.length_le;rw[List.length_append,List.length_singleton];simp only at h6
   omega
theorem InvJ.bad{e:Ps Ex}{us0 us:List T3}{bad0:Bool}{acc:List Src}(h:InvJ e us0 bad0 acc us true):Rv (joinsC e us0) us0 bad0 (acc,us,true):=by
 have:=h.fin' ([],us,true) (Rv.badly (List.suffix_refl _) _)
 rwa [List.append_nil]at this
theorem InvJ.stop{e:Ps Ex}{us0 us:List T3}{bad0:Bool}{acc:List Src}(h:InvJ e us0 bad0 acc us false)(hj:isJ us=false):Rv (joinsC e us0) us0 bad0 (acc,us,false):=by
 have:=h.fin' ([],us,false) (by rw[Zdb hj];exact Rv.pure _)
 rwa [List.append_nil]at this
end Go.Pz
