/- The parser: atoms; expressions, by the tokens that are left. No condition. -/
import Derived.Test.YtbedigkncjbggaaGreatDoorXQ7
import Derived.Test.YtbedigkncjbggaaGreatDoorXQ1
import Derived.Test.YtbedigkncjbggaaGreatDoorXQ5
import Derived.Test.YtbedigkncjbggaaGreatDoorXG7
set_option maxRecDepth 20000
namespace Go.Proofs.YtbedigkncjbggaaGreatDoor
open Go Go.Vc
open Go.Pz
theorem Z46{e:Ps Ex}{ts:List T3}(h:ts≠[]):atomP e ts=if((ts.headD t3D).k==3)=true then some (lit 1 (ts.headD t3D).n em,ts.tail)else if((ts.headD t3D).k==4)=true then some (lit 3 0 (ts.headD t3D).t,ts.tail)else if((ts.headD t3D).k==2)=true then(if isT 5 Z5p ts.tail=true then(nameP ts.tail.tail).map fun z=>(.mk 2 0 0 em (ts.headD t3D).t z.1 0 [],z.2)else some (.mk 2 0 0 em em (ts.headD t3D).t 0 [],ts.tail))else if((ts.headD t3D).k==1)=true then kwP e ts else(wantP 5 s_lp ts).bind fun y=>(e y.2).bind fun x=>(wantP 5 s_rp x.2).map fun v=>(x.1,v.2):=by
 cases ts with
 |nil=>exact absurd rfl h
 |cons t r=>rw[atomP];rfl
theorem Zgx{ts:List T3}(h:ts≠[])(hk:((ts.headD t3D).k==2)=true):nameP ts=some ((ts.headD t3D).t,ts.tail):=by
 cases ts with
 |nil=>exact absurd rfl h
 |cons t r=>unfold nameP;rw[takeP,if_pos (show(t.k==2)=true from hk)];rfl
theorem Z92(T:Tk)(hc:T.ts.length<=T.cap)(b:Nat)(ts:List T3)(hts:ts<:+T.ts)(e:Ps Ex)(exprDn: ∀{us:List T3} {z:Ex×List T3},e us=some z->z.2<:+us)(hex: ∀us,us<:+T.ts->us.length<ts.length->CallP Tryz.prog Z1w [PB T b (us)] [T.G,AF] [.is (.pointer (some ⟨b,0,none⟩))] (e (us)=none) flt (fun z:Ex×List T3=>e (us)=some z) (fun z=>[PB T b z.2]) (fun z=>.rep (ExR z.1))):CallP Tryz.prog Z3k [PB T b ts] [T.G,AF] [.is (.pointer (some ⟨b,0,none⟩))] (atomP e ts=none) flt (fun z:Ex×List T3=>atomP e ts=some z) (fun z=>[PB T b z.2]) (fun z=>.rep (ExR z.1)):=
CallP.of (fn:=Tryz.f192) Tryz.func192 (n:=79) rfl rfl rfl (fun _ _=>by kernel_rfl) fun E W hb0=>by
 refine vQ ?_;refine JO.alloc ZT rfl fun b2=>(vP [0,2] ?_);refine Jm rfl (Jm rfl (Jq (Z5 rfl) (Jq (Z0 Zz rfl) (Jq (Z1 ZJ rfl rfl) (Jq (ZE Z12 rfl) (Jq (Z13 rfl rfl) ?_))))));refine JO.callPK (Lr:=_) (ZP (.pointer (some ⟨b,0,none⟩)) _) rfl (Z3q _) Z3j qA (fun hbad=>?_) ?_
 · exact JX.pnI (by cases ts with|nil=>rfl|cons t r=>simp at hbad)
 intro z hz;have hne:ts≠[]:=Z43 hz;refine vD ?_;refine vP [0,2] ?_;refine Jm rfl (Jq (Z5 rfl) (Jq (Z0 Zz rfl) (Jq (Z1 ZJ rfl rfl) (Jq (Z9 Z1m rfl rfl rfl qM (Z3z hne)) ?_))));refine Jq (Z3W (enc:=T3.cells) (sz:=3) (i:=T.k ts) (y:=ts.headD t3D) (cs:=T3.cells (ts.headD t3D)) ZM rfl qI rfl (Tk.head hts hne) (by rw[Tk.j_eq hc hts hne];rfl) rfl) ?_;refine JO.alloc Z1C rfl fun b3=>(JO.m (Z4 rfl rfl qU qC qO ZI) (by rfl) ?_);refine vP [0,2,3] ?_;refine Jq (Z0 Z1n rfl) (Jq (Z1 Zq rfl rfl) (vS [0,2,3,21] ?_));apply yk;refine vQ ?_;refine Jq (Zu rfl rfl) (Ja rfl (vS [0,2,3,21,22] ?_));refine yC rfl (fun ht22=>?_) (fun ht22=>?_);have k3:((ts.headD t3D).k==3)=true:=ht22;refine vQ ?_;refine Jm rfl (Jm rfl (Jq (Z5 rfl) (Jq (Z0 Zz rfl) (Jq (Z1 ZJ rfl rfl) (Jq (Z6X Z12 Z1m rfl rfl qM (by have:=Z3z hne;omega)) ?_)))));refine Jq (Z5 rfl) (Jq (Z0 Zz rfl) (JO.m (Zj (cs':=[_]) rfl rfl qU rfl rfl rfl rfl Z4D) (by rfl) ?_));refine vP [2,3] ?_;refine Jq (Z0 Z8u rfl) (Jq (Z1 Z2y rfl rfl) (Jq (Zg (cs:=[_,_,_]) Z2G (.cons rfl (.cons rfl .nil)) rfl rfl) (Jq (Zo rfl (Z3L 1 (ts.headD t3D).n em) qA) ?_)));refine JO.m (Z4 rfl rfl qU qC qO Zc) (by rfl) ?_;refine vS [2] ?_;refine vR ?_;refine JX.toP ?_;exact JX.retLCs (Lr:=[_,_]) rfl (lit 1 (ts.headD t3D).n em,ts.tail) (by rw[Z46 hne];rw[if_pos k3]) (List.Perm.trans (List.perm_append_comm (l₁:=[_,_]) (l₂:=[_])) (.of_eq (congrArg (fun v=>Own.mk b Z3S (.is (.agg #[v]))::[_,_]) (Tk.tail hc hts hne)))) rfl rfl hb0 rfl Z6 HasOwn.mem Z1S (Sub.refl _);have n3: ¬((ts.headD t3D).k==3)=true:=by rw[ht22];decide
 refine vQ ?_;refine Jq (Zu rfl rfl) (Ja rfl (vS [0,2,3,21,36] ?_));refine yC rfl (fun ht36=>?_) (fun ht36=>?_);have k4:((ts.headD t3D).k==4)=true:=ht36;refine vQ ?_;refine Jm rfl (Jm rfl (Jq (Z5 rfl) (Jq (Z0 Zz rfl) (Jq (Z1 ZJ rfl rfl) (Jq (Z6X Z12 Z1m rfl rfl qM (by have:=Z3z hne;omega)) ?_)))));refine Jq (Z5 rfl) (Jq (Z0 Zz rfl) (JO.m (Zj (cs':=[_]) rfl rfl qU rfl rfl rfl rfl Z4D) (by rfl) ?_));refine vP [2,3] ?_;refine Jq (Z0 Z1K rfl) (Jq (Z1 Za rfl rfl) (Jq (Zg (cs:=[_,_,_]) Z2G (.cons rfl (.cons rfl .nil)) rfl rfl) (Jq (Zo rfl (Z3L 3 0 (ts.headD t3D).t) qA) ?_)));refine JO.m (Z4 rfl rfl qU qC qO Zc) (by rfl) ?_;refine vS [2] ?_;refine vR ?_;refine JX.toP ?_;exact JX.retLCs (Lr:=[_,_]) rfl (lit 3 0 (ts.headD t3D).t,ts.tail) (by rw[Z46 hne];rw[if_neg n3,if_pos k4]) (List.Perm.trans (List.perm_append_comm (l₁:=[_,_]) (l₂:=[_])) (.of_eq (congrArg (fun v=>Own.mk b Z3S (.is (.agg #[v]))::[_,_]) (Tk.tail hc hts hne)))) rfl rfl hb0 rfl Z6 HasOwn.mem Z1S (Sub.refl _);have n4: ¬((ts.headD t3D).k==4)=true:=by rw[ht36];decide
 refine vQ ?_;refine Jq (Zu rfl rfl) (Ja rfl (vS [0,2,21,50] ?_));refine yC rfl (fun ht50=>?_) (fun ht50=>?_);have k2:((ts.headD t3D).k==2)=true:=ht50;refine vQ ?_;refine Jm rfl ?_;refine JO.callPK (Lr:=[_,_]) (Z3f T hc b ts hts) rfl (List.perm_append_comm (l₁:=[_,_]) (l₂:=[_])) qF qA (fun hbad=>?_) ?_
 · exact JX.pnI (by exact absurd hbad (by rw[Zgx hne k2];simp))
 intro z1 hz1;obtain rfl:z1=((ts.headD t3D).t,ts.tail):=by rw[Zgx hne k2]at hz1;exact(Option.some.inj hz1).symm
 refine vD ?_;refine Jq (Zg (cs:=[_,_,_,_,_,_,_,_]) Z17 (.cons rfl (.cons rfl .nil)) rfl rfl) (JO.alloc ZT rfl fun b4=>(JO.m (Z4 rfl rfl qU qC qO Zc) (by rfl) ?_));refine vP [0,2,4] ?_;refine Jm rfl (JO.callK (Lr:=[_,_,_]) (ZX T hc b ts.tail (Z1h hts) Z5p) rfl (.swap _ _ _) qF qA ?_);intro _ _;refine vD ?_;refine vS [0,2,4,56] ?_;refine yC rfl (fun ht56=>?_) (fun ht56=>?_);have hdt:isT 5 Z5p ts.tail=true:=ht56;rw[Z2C hdt]
 repeat apply yQ
 refine J.regBPm (Bad:=nameP ts.tail.tail=none) (ch:=flt) (G:={z:ByteArray×List T3 // nameP ts.tail.tail=some z}) 3 5 (fun hbad=>?_) (Tg:=fun g=>.is (.string g.1.1)) (Lg:=fun g=>[PB T b g.1.2]++[⟨b4,Zb,.is (.agg #[.int .i64 2,.int .i64 0,.int .i64 0,.string ⟨#[]⟩,.string ⟨#[]⟩,.string (ts.headD t3D).t,.int .i64 0,.slice none 0 0])⟩,⟨b3,Z1u,.is (.agg #[.int .i64 (ts.headD t3D).k,.string (ts.headD t3D).t,.int .i64 (ts.headD t3D).n])⟩,⟨b2,Zb,.is (.agg #[.int .i64 0,.int .i64 0,.int .i64 0,.string ⟨#[]⟩,.string ⟨#[]⟩,.string ⟨#[]⟩,.int .i64 0,.slice none 0 0])⟩]) ([⟨b4,Zb,.is (.agg #[.int .i64 2,.int .i64 0,.int .i64 0,.string ⟨#[]⟩,.string ⟨#[]⟩,.string (ts.headD t3D).t,.int .i64 0,.slice none 0 0])⟩,⟨b3,Z1u,.is (.agg #[.int .i64 (ts.headD t3D).k,.string (ts.headD t3D).t,.int .i64 (ts.headD t3D).n])⟩,⟨b2,Zb,.is (.agg #[.int .i64 0,.int .i64 0,.int .i64 0,.string ⟨#[]⟩,.string ⟨#[]⟩,.string ⟨#[]⟩,.int .i64 0,.slice none 0 0])⟩]) rfl rfl rfl rfl hmx qK rfl qK (fun _ h=>List.mem_cons_of_mem _ h) (fun g o ho=>List.mem_cons_of_mem _ ho) ?_
 · exact JX.pnI (by rw[Z46 hne];rw[if_neg n3,if_neg n4,if_pos k2];rw[if_pos hdt,hbad];rfl)
 refine yz (Z0 Z3H rfl) (yz (Z1 Za rfl rfl) (yz (Z2 rfl) ?_));refine RT.bigP (Lq:=[⟨b4,Zb,.is (.agg #[.int .i64 2,.int .i64 0,.int .i64 0,.string ⟨#[]⟩,.string ⟨#[]⟩,.string (ts.headD t3D).t,.int .i64 0,.slice none 0 0])⟩,⟨b3,Z1u,.is (.agg #[.int .i64 (ts.headD t3D).k,.string (ts.headD t3D).t,.int .i64 (ts.headD t3D).n])⟩,⟨b2,Zb,.is (.agg #[.int .i64 0,.int .i64 0,.int .i64 0,.string ⟨#[]⟩,.string ⟨#[]⟩,.string ⟨#[]⟩,.int .i64 0,.slice none 0 0])⟩]) (Z87 rfl (Z3f T hc b ts.tail.tail (Z1h (Z1h hts))) (.refl _) qF qA) ?_;refine yz (Z0 Z4q rfl) ?_;apply yn;intro g;obtain⟨z,hg2⟩:=g;refine vD ?_;refine JO.m (Zj (cs':=[_,_,_,_,_,_,_,_]) rfl rfl qU rfl rfl rfl rfl Z4a) (by rfl) ?_;refine Jq (Z0 Z3H rfl) (JO.m (Zj (cs':=[_,_,_,_,_,_,_,_]) rfl rfl qU rfl rfl rfl rfl Z4a) (by rfl) ?_);refine vS [2,4] ?_
 first|(have hdt:isT 5 Z5p ts.tail=false:=ht56;rw[Z37 hdt])|skip
 refine vQ ?_;refine Jq (Ob.im (ZR (cs:=[_,_,_,_,_,_,_,_]) Z6 rfl rfl rfl) (Sub.leaf (k:=2) (vk:=0) (vn:=0) (vs:=em) (sl:=0))) (JO.m (Z4 rfl rfl qU qC qO Zc) (by rfl) ?_);refine vS [2] ?_;refine vR ?_;refine JX.toP ?_;exact JX.retLCs (Lr:=[_,_,_]) rfl (.mk 2 0 0 em (ts.headD t3D).t z.1 0 [],z.2) (by rw[Z46 hne];rw[if_neg n3,if_neg n4,if_pos k2];rw[if_pos hdt,hg2];rfl) (.refl _) rfl rfl hb0 rfl Z6 HasOwn.mem Z1S (Sub.refl _);apply yK
 repeat first|apply yX|apply yB
 first|(have hdt:isT 5 Z5p ts.tail=false:=ht56;rw[Z37 hdt])|skip
 refine vQ ?_;refine Jq (Ob.im (ZR (cs:=[_,_,_,_,_,_,_,_]) Z6 rfl rfl rfl) (Sub.leaf (k:=2) (vk:=0) (vn:=0) (vs:=em) (sl:=0))) (JO.m (Z4 rfl rfl qU qC qO Zc) (by rfl) ?_);refine vS [2] ?_;refine vR ?_;refine JX.toP ?_;exact JX.retLCs (Lr:=[_,_,_]) rfl (.mk 2 0 0 em em (ts.headD t3D).t 0 [],ts.tail) (by rw[Z46 hne];rw[if_neg n3,if_neg n4,if_pos k2];rw[if_neg (by rw[hdt];decide)]) (.refl _) rfl rfl hb0 rfl Z6 HasOwn.mem Z1S (Sub.refl _);have n2: ¬((ts.headD t3D).k==2)=true:=by rw[ht50];decide
 refine vQ ?_;refine Jq (Zu rfl rfl) (Ja rfl (vS [0,2,64] ?_));refine yC rfl (fun ht64=>?_) (fun ht64=>?_);have k1:((ts.headD t3D).k==1)=true:=ht64;refine vQ ?_;refine Jm rfl ?_;refine JO.callPK (Lr:=[_,_]) (Z7a T hc b ts hts e exprDn hex) rfl (List.perm_append_comm (l₁:=[_,_]) (l₂:=[_])) qF qA (fun hbad=>?_) ?_
 · exact JX.pnI (by rw[Z46 hne];rw[if_neg n3,if_neg n4,if_neg n2,if_pos k1];exact hbad)
 intro z hz;refine vD ?_;refine JO.m (Z4 rfl rfl qU qC qO Zc) (by rfl) ?_;refine vS [2] ?_;refine vR ?_;refine JX.toP ?_;exact JX.retLCs (Lr:=[_,_]) rfl z (by rw[Z46 hne];rw[if_neg n3,if_neg n4,if_neg n2,if_pos k1];exact hz) (.refl _) rfl rfl hb0 rfl Z6 HasOwn.mem Z1S (Sub.refl _);apply yK
 repeat first|apply yX|apply yB
 have n1: ¬((ts.headD t3D).k==1)=true:=by rw[ht64];decide
 refine vQ ?_;refine Jm rfl (Jm rfl (JO.callK (Lr:=[_,_]) (ZX T hc b ts hts s_lp) rfl (List.perm_append_comm (l₁:=[_,_]) (l₂:=[_])) qF qA ?_));intro _ _;refine vD ?_;refine JO.callPK (Lr:=_) (ZP (.pointer (some ⟨b,0,none⟩)) (isT 5 s_lp ts)) rfl (Z3q _) Z3j qA (fun hbad=>?_) ?_
 · exact JX.pnI (by rw[Z46 hne];rw[if_neg n3,if_neg n4,if_neg n2,if_neg n1];rw[wantN hbad];rfl)
 intro _ hlp;refine vD ?_;refine vS [0,2] ?_;rw[Z2C hlp];refine vQ ?_;refine Jm rfl ?_;refine JO.callPK (Lr:=[_,_]) (hex ts.tail (Z1h hts) (ZG hlp).2) rfl (.refl _) qF qA (fun hbad=>?_) ?_
 · exact JX.pnI (by rw[Z46 hne];rw[if_neg n3,if_neg n4,if_neg n2,if_neg n1];rw[wantY hlp];simp only[Option.bind_some];rw[hbad];rfl)
 intro z hz;refine vD ?_;refine JO.alloc ZT rfl fun b5=>(JO.m (Z4 rfl rfl qU qC qO Zc) (by rfl) ?_);refine vP [0,2,5] ?_;refine Jm rfl (Jm rfl (JO.callK (Lr:=[_,_,_]) (ZX T hc b z.2 ((exprDn hz).trans (Z1h hts)) s_rp) rfl (.swap _ _ _) qF qA ?_));intro _ _;refine vD ?_;refine JO.callPK (Lr:=_) (ZP (.pointer (some ⟨b,0,none⟩)) (isT 5 s_rp z.2)) rfl (Z3q _) Z3j qA (fun hbad=>?_) ?_
 · exact JX.pnI (by rw[Z46 hne];rw[if_neg n3,if_neg n4,if_neg n2,if_neg n1];rw[wantY hlp];simp only[Option.bind_some];rw[hz];simp only[Option.bind_some];rw[wantN hbad];rfl)
 intro _ hrp;refine vD ?_;refine vS [2,5] ?_;rw[Z2C hrp];refine vQ ?_;refine Jq (Z1J Z6 rfl) (JO.m (Z4 rfl rfl qU qC qO Zc) (by rfl) ?_);refine vS [2] ?_;refine vR ?_;refine JX.toP ?_;exact JX.retLCs (Lr:=[_,_,_]) rfl (z.1,z.2.tail) (by rw[Z46 hne];rw[if_neg n3,if_neg n4,if_neg n2,if_neg n1];rw[wantY hlp];simp only[Option.bind_some];rw[hz];simp only[Option.bind_some];rw[wantY hrp];rfl) (.refl _) rfl rfl hb0 rfl Z6 HasOwn.mem Z1S (Sub.refl _)
theorem exprDn'(N:Nat){us:List T3}{z:Ex×List T3}(h:exprP N us=some z):z.2<:+us:=(Z34 N _ _ h).1
theorem ZhW(T:Tk)(hc:T.ts.length<=T.cap)(b:Nat): ∀(N:Nat) (ts:List T3),ts<:+T.ts->ts.length<N->CallP Tryz.prog Z1w [PB T b (ts)] [T.G,AF] [.is (.pointer (some ⟨b,0,none⟩))] (exprP N (ts)=none) flt (fun z:Ex×List T3=>exprP N (ts)=some z) (fun z=>[PB T b z.2]) (fun z=>.rep (ExR z.1))
 |0,ts,hts,hl=>absurd hl qM
 |N+1,ts,hts,hl=>by
   have he:=(Z34 N).le;have hat: ∀us,us<:+T.ts->us.length<=N->CallP Tryz.prog Z3k [PB T b (us)] [T.G,AF] [.is (.pointer (some ⟨b,0,none⟩))] (atomP (exprP N) (us)=none) flt (fun z:Ex×List T3=>atomP (exprP N) (us)=some z) (fun z=>[PB T b z.2]) (fun z=>.rep (ExR z.1)):=fun us hus hu=>Z92 T hc b us hus (exprP N) (exprDn' N) fun vs hvs hv=>ZhW T hc b N vs hvs qM;have hfa: ∀us,us<:+T.ts->us.length<=N->CallP Tryz.prog Z2f [PB T b (us)] [T.G,AF] [.is (.pointer (some ⟨b,0,none⟩))] (factorP (exprP N) (us)=none) flt (fun z:Ex×List T3=>factorP (exprP N) (us)=some z) (fun z=>[PB T b z.2]) (fun z=>.rep (ExR z.1)):=fun us hus hu=>Z58 T hc b (exprP N) N hat us.length us hus hu (Nat.le_refl _);have hpr: ∀us,us<:+T.ts->us.length<=N->CallP Tryz.prog Z2R [PB T b (us)] [T.G,AF] [.is (.pointer (some ⟨b,0,none⟩))] (prodP (exprP N) (us)=none) flt (fun z:Ex×List T3=>prodP (exprP N) (us)=some z) (fun z=>[PB T b z.2]) (fun z=>.rep (ExR z.1)):=fun us hus hu=>Z7r T hc b us hus (exprP N) he fun vs hvs hv=>hfa vs hvs qM;have hsu: ∀us,us<:+T.ts->us.length<=N->CallP Tryz.prog Z3u [PB T b (us)] [T.G,AF] [.is (.pointer (some ⟨b,0,none⟩))] (sumP (exprP N) (us)=none) flt (fun z:Ex×List T3=>sumP (exprP N) (us)=some z) (fun z=>[PB T b z.2]) (fun z=>.rep (ExR z.1)):=fun us hus hu=>Z9K T hc b us hus (exprP N) he fun vs hvs hv=>hpr vs hvs qM;have hno: ∀us,us<:+T.ts->us.length<=N->CallP Tryz.prog Z2u [PB T b (us)] [T.G,AF] [.is (.pointer (some ⟨b,0,none⟩))] (notP (exprP N) (us)=none) flt (fun z:Ex×List T3=>notP (exprP N) (us)=some z) (fun z=>[PB T b z.2]) (fun z=>.rep (ExR z.1)):=fun us hus hu=>Z5N T hc b (exprP N) he N hsu us.length us hus hu (Nat.le_refl _);have han: ∀us,us<:+T.ts->us.length<=N->CallP Tryz.prog Z3v [PB T b (us)] [T.G,AF] [.is (.pointer (some ⟨b,0,none⟩))] (andP (exprP N) (us)=none) flt (fun z:Ex×List T3=>andP (exprP N) (us)=some z) (fun z=>[PB T b z.2]) (fun z=>.rep (ExR z.1)):=fun us hus hu=>Z9w T hc b us hus (exprP N) he fun vs hvs hv=>hno vs hvs qM;exact Z8F T hc b ts hts (exprP N) he fun vs hvs hv=>han vs hvs qM
end Go.Proofs.YtbedigkncjbggaaGreatDoor
namespace Go.Pz
open Go Go.Vc
theorem Z6Z{α:Type}{part:Ps α}(hp:Dn0 part): ∀(n m:Nat) (ts:List T3),ts.length<=n->ts.length<=m->listG part n ts=listG part m ts
 |0,m,ts,h,_=>by
   have:ts=[]:=List.length_eq_zero_iff.1 qM;subst this;cases m with
   |zero=>rfl
   |succ m=>rw[listG,listG,if_neg (by exact Bool.false_ne_true)]
 |n+1,0,ts,_,h=>by
   have:ts=[]:=List.length_eq_zero_iff.1 qM;subst this;rw[listG,listG,if_neg (by exact Bool.false_ne_true)]
 |n+1,m+1,ts,h,h'=>by
   rw[listG,listG]
   split
   · rename_i hi
     have h1:=(ZG hi).2;exact Zr fun y hy=>by
       have h2:=(hp _ _ hy).length_le;rw[Z6Z hp n m y.2 qM qM]
   · rfl
def listC{α:Type}(part:Ps α):Ps (List α):=fun ts=>listG part ts.length ts
theorem Zja{α:Type}{part:Ps α}{ts:List T3}(h:isT 5 ZU ts=false):listC part ts=some ([],ts):=by
 unfold listC;cases ts.length with
 |zero=>rfl
 |succ n=>rw[listG,if_neg (by rw[h];decide)]
theorem ZhO{α:Type}{part:Ps α}(hp:Dn0 part){ts:List T3}(h:isT 5 ZU ts=true):listC part ts=(part ts.tail).bind fun z=>(listC part z.2).map fun y=>(z.1::y.1,y.2):=by
 have h1:=(ZG h).2;unfold listC;rw[Z6Z hp _ (ts.length+1) ts qM qM,listG,if_pos h];exact Zr fun y hy=>by
   have h2:=(hp _ _ hy).length_le;rw[Z6Z hp _ y.2.length y.2 qM qM]
def listI{α:Type}(most:Nat)(part:Ps α)(xs:List α):Ps (List α):=fun us=>(listC part us).bind fun y=>if xs.length+y.1.length<=most then some (xs++y.1,y.2)else none
theorem Zbi{α:Type}(most:Nat)(part:Ps α)(ts:List T3):listP most part ts=(part ts).bind fun z=>listI most part [z.1] z.2:=by
 unfold listP listI;refine Zr fun z _=>Zr fun y _=>?_;simp only[List.length_singleton,List.singleton_append];rw[Nat.add_comm]
theorem ZeF{α:Type}{most:Nat}{part:Ps α}{xs:List α}{us:List T3}(h:isT 5 ZU us=false):listI most part xs us=if xs.length<=most then some (xs,us)else none:=by
 unfold listI;rw[Zja h]
 simp
theorem Zdq{α:Type}{most:Nat}{part:Ps α}(hp:Dn0 part){xs:List α}{us:List T3}(h:isT 5 ZU us=true):listI most part xs us=(part us.tail).bind fun z=>listI most part (xs++[z.1]) z.2:=by
 unfold listI;rw[ZhO hp h,bas];refine Zr fun z _=>?_;cases listC part z.2 with
 |none=>rfl
 |some y=>
   simp only[Option.map_some,Option.bind_some,List.length_cons,List.length_append,List.length_nil,List.append_assoc,List.singleton_append]
   congr 1
   simp only[eq_iff_iff];omega
theorem ZgZ{α:Type}{most:Nat}{part:Ps α}{xs:List α}{us:List T3}(h:isT 5 ZU us=false)(hm: ¬xs.length<=most):listI most part xs us=none:=by rw[ZeF h,if_neg hm]
end Go.Pz
set_option maxRecDepth 20000
namespace Go.Proofs.YtbedigkncjbggaaGreatDoor
open Go Go.Vc Go.Pz
theorem Zhf{v:Value}(h:v.oneCell'=true):v.cells= #[v]:=by
 cases v<;>first|rfl|cases h
theorem Zet{cs:List Value}(h:cs.length=1)(ho: ∀u∈cs,u.oneCell'=true):(hdv cs).cells=cs.toArray:=by
 match cs,h with
 |[a],_=>exact Zhf (ho a List.mem_cons_self)
theorem Z4l:exE.flat:=fun p=>rfl
theorem Zft:itE.flat:=fun p=>rfl
theorem Zej:kyE.flat:=fun p=>rfl
theorem Zjl:coE.flat:=fun p=>rfl
theorem Z9g:srE.flat:=fun p=>rfl
theorem Zbr:stE.flat:=fun p=>Zet p.h p.o
theorem Zjg:rwE.flat:=fun p=>Zet p.h p.o
abbrev FC(N:Nat):GoS:=FrS N Z1X 4
abbrev FN(N:Nat):GoS:=FrS N Zs 1
abbrev FX(N:Nat):GoS:=FrS N Zb 8
abbrev stV(st:St)(vc vn vr vi vf vw vg vo vs:Value):Value:=.agg #[.int .i64 st.kind,.string st.tb,.string st.nm,vc,vn,vr,vi,vf,vw,vg,vo,.int .i64 st.limit,vs,.bool st.hash]
def StR(N:Nat)(st:St)(v:Value)(w:World):Prop:=∃vc vn vr vi vf vw vg vo vs:Value,v=stV st vc vn vr vi vf vw vg vo vs/\SlE coE (FC N) st.cols vc w/\SlE stE (FN N) st.names vn w/\SlE rwE noS st.rows vr w/\SlE itE noS st.items vi w/\SlE srE noS st.from_ vf w/\SlE exE (FX N) st.where_ vw w/\ExsR st.group vg w/\SlE kyE noS st.order vo w/\ExsR st.sets vs w
abbrev nilv:Value:=.slice none 0 0
theorem Zw{α:Type}{E:Enc α}{G:GoS}{w:World}(hG:G none 0 0 w):SlE E G [] nilv w:=⟨[],none,0,0,rfl,rfl,Nat.le_refl _,⟨rfl,fun h=>absurd rfl h⟩,(fun p hp=>by cases hp),hG⟩
theorem Z23{w:World}:ExsR [] nilv w:=⟨none,0,0,rfl,rfl,fun h=>absurd rfl h⟩
theorem Sub.st{L:List Own}{Φ:List (World->Prop)}{N:Nat}{st:St}{cs:Array Value}{vc vn vr vi vf vw vg vo vs:Value}(hc:Value.agg cs=stV st vc vn vr vi vf vw vg vo vs)
   (h: ∀X w,(∀F∈Φ,Pers X w F)->∀w',Keeps X w w'->SlE coE (FC N) st.cols vc w'/\SlE stE (FN N) st.names vn w'/\SlE rwE noS st.rows vr w'/\SlE itE noS st.items vi w'/\SlE srE noS st.from_ vf w'/\SlE exE (FX N) st.where_ vw w'/\ExsR st.group vg w'/\SlE kyE noS st.order vo w'/\ExsR st.sets vs w'):
   Sub L Φ (.is (.agg cs)) (.rep (StR N st)):=fun X v w hf e=>by
 rw[show v=_ from e,hc];intro w' hk;exact⟨vc,vn,vr,vi,vf,vw,vg,vo,vs,rfl,h X w hf.2 w' hk⟩
theorem ZhF{N:Nat}{st:St}{X:Nat->Prop}{v:Value}{w:World}(h:Pers X w (StR N st v)): ∃vc vn vr vi vf vw vg vo vs:Value,v=stV st vc vn vr vi vf vw vg vo vs/\Pers X w (SlE coE (FC N) st.cols vc)/\Pers X w (SlE stE (FN N) st.names vn)/\Pers X w (SlE rwE noS st.rows vr)/\Pers X w (SlE itE noS st.items vi)/\Pers X w (SlE srE noS st.from_ vf)/\Pers X w (SlE exE (FX N) st.where_ vw)/\Pers X w (ExsR st.group vg)/\Pers X w (SlE kyE noS st.order vo)/\Pers X w (ExsR st.sets vs):=by
 obtain⟨vc,vn,vr,vi,vf,vw,vg,vo,vs,hv,_⟩:=h.now;have key: ∀w',Keeps X w w'->SlE coE (FC N) st.cols vc w'/\SlE stE (FN N) st.names vn w'/\SlE rwE noS st.rows vr w'/\SlE itE noS st.items vi w'/\SlE srE noS st.from_ vf w'/\SlE exE (FX N) st.where_ vw w'/\ExsR st.group vg w'/\SlE kyE noS st.order vo w'/\ExsR st.sets vs w':=fun w' hk=>by
   obtain⟨vc',vn',vr',vi',vf',vw',vg',vo',vs',hv',h1⟩:=h w' hk;rw[hv]at hv';injection hv' with hv'
   injection hv' with hv'
   simp only[List.cons.injEq,and_true,true_and]at hv';obtain⟨e1,e2,e3,e4,e5,e6,e7,e8,e9⟩:=hv';subst e1 e2 e3 e4 e5 e6 e7 e8 e9;exact h1
 exact⟨vc,vn,vr,vi,vf,vw,vg,vo,vs,hv,fun w' hk=>(key w' hk).1,fun w' hk=>(key w' hk).2.1,fun w' hk=>(key w' hk).2.2.1,fun w' hk=>(key w' hk).2.2.2.1,fun w' hk=>(key w' hk).2.2.2.2.1,fun w' hk=>(key w' hk).2.2.2.2.2.1,fun w' hk=>(key w' hk).2.2.2.2.2.2.1,fun w' hk=>(key w' hk).2.2.2.2.2.2.2.1,fun w' hk=>(key w' hk).2.2.2.2.2.2.2.2⟩
section
variable{P:Program}{c:Ctx}{K:List (Nat×Ty)}{L:List Own}{Φ:List (World->Prop)}{Q:Exit->Act->World->Prop}
theorem SA.openSt{N s:Nat}{st:St}{X:Nat->Prop}{a:Act}{w:World}(h:Go.Vc.look K s=some (.rep (StR N st)))(hs:SA c K L Φ X a w): ∃vc vn vr vi vf vw vg vo vs:Value,SA c ((s,.is (stV st vc vn vr vi vf vw vg vo vs))::K) L (SlE coE (FC N) st.cols vc::SlE stE (FN N) st.names vn::SlE rwE noS st.rows vr::SlE itE noS st.items vi::SlE srE noS st.from_ vf::SlE exE (FX N) st.where_ vw::ExsR st.group vg::SlE kyE noS st.order vo::ExsR st.sets vs::Φ) X a w:=by
 obtain⟨vc,vn,vr,vi,vf,vw,vg,vo,vs,hv,h1,h2,h3,h4,h5,h6,h7,h8,h9⟩:=ZhF (hs.k s _ h:Pers X w (StR N st (a.tmps.getD s undef)));refine⟨vc,vn,vr,vi,vf,vw,vg,vo,vs,hs.tell hv [_,_,_,_,_,_,_,_,_] fun F hF=>?_⟩;simp only[List.mem_cons,List.mem_nil_iff,or_false]at hF;rcases hF with rfl|rfl|rfl|rfl|rfl|rfl|rfl|rfl|rfl<;>assumption
theorem J.openSt{N s:Nat}{st:St}{y:Code}(h:Go.Vc.look K s=some (.rep (StR N st)))
  (hj: ∀vc vn vr vi vf vw vg vo vs:Value,J P c ((s,.is (stV st vc vn vr vi vf vw vg vo vs))::K) L (SlE coE (FC N) st.cols vc::SlE stE (FN N) st.names vn::SlE rwE noS st.rows vr::SlE itE noS st.items vi::SlE srE noS st.from_ vf::SlE exE (FX N) st.where_ vw::ExsR st.group vg::SlE kyE noS st.order vo::ExsR st.sets vs::Φ) y Q):J P c K L Φ y Q:=by
 refine⟨fun X a w hs=>?_⟩;obtain⟨vc,vn,vr,vi,vf,vw,vg,vo,vs,h1⟩:=SA.openSt h hs;exact(hj vc vn vr vi vf vw vg vo vs).out X a w h1
end
end Go.Proofs.YtbedigkncjbggaaGreatDoor
set_option maxRecDepth 20000
namespace Go.Proofs.YtbedigkncjbggaaGreatDoor
open Go Go.Vc
open Go.Pz
inductive LK|ex|it|ky|co|st|rw
namespace LK
abbrev f:LK->Nat
 | .ex=>Z8B
 | .it=>Z98
 | .ky=>Z9B
 | .co=>Z7R
 | .st=>Zab
 | .rw=>Z7t
abbrev e:LK->Nat
 | .ex=>Zb
 | .it=>Z4x
 | .ky=>Z4g
 | .co=>Z1X
 | .st=>Zs
 | .rw=>Z35
abbrev s:LK->Nat
 | .ex=>Z35
 | .it=>ZcS
 | .ky=>ZdF
 | .co=>Zbt
 | .st=>Zfa
 | .rw=>Zb4
abbrev z:LK->Nat
 | .ex=>8
 | .it=>9
 | .ky=>9
 | .co=>4
 | .st=>1
 | .rw=>1
abbrev y:LK->Nat
 | .ex=>104
 | .it=>112
 | .ky=>112
 | .co=>32
 | .st=>16
 | .rw=>24
noncomputable def n:LK->Func
 | .ex=>Tryz.f118
 | .it=>Tryz.f114
 | .ky=>Tryz.f119
 | .co=>Tryz.f143
 | .st=>Tryz.f121
 | .rw=>Tryz.f110
theorem func(k:LK):Tryz.prog.funcs[k.f]? =some k.n:=by cases k;exact Tryz.func118;exact Tryz.func114;exact Tryz.func119;exact Tryz.func143;exact Tryz.func121;exact Tryz.func110
theorem ap(k:LK):ApTy Tryz.prog k.s k.e k.z k.y:=by cases k;exact Z1z;exact Z8Q;exact Za2;exact Z7e;exact Z1i;exact Z6V
theorem sl(k:LK): ∃zs,SlShape Tryz.prog k.s k.e k.z zs/\zs.length=k.z:=by cases k;exact⟨_,ZB,rfl⟩;exact⟨_,Z9e,rfl⟩;exact⟨_,Z9W,rfl⟩;exact⟨_,Z7g,rfl⟩;exact⟨_,ZS,rfl⟩;exact⟨_,Z5b,rfl⟩
theorem un(k:LK):Tryz.prog.underlying k.s=some (.slice k.e):=by cases k;exact Zy;exact Z36;exact Z2X;exact Z3D;exact ZD;exact Z2l
end LK
theorem ZlN(k:LK){α β S:Type}(N:Nat)(T:Tk)(hc:T.ts.length<=T.cap)(h9:T.ts.length<=2049)(b:Nat)(ts:List T3)(hts:ts<:+T.ts)(En:Enc β)(hE:En.flat)(hs:En.sz=k.z)(part:Ps α)(proj:β->α)(hpd:Dn part)(X:S->List Own)(I:S->List β->Prop)(s0:S)(hI0:I s0 [])(hXb: ∀s,∀o∈X s0,∃o'∈X s,o'.b=o.b)(hXo: ∀s,(X s).all (fun o=>o.T.out)=true)(most:Nat)(fp:FuncId)(cp:List Value)(hpart: ∀us s l,us<:+T.ts->l.length+us.length<=ts.length->I s l->CallP Tryz.prog fp (PB T b us::X s) [T.G,AF,NH N] ([.is (.pointer (some ⟨b,0,none⟩))]++cp.map Ty.is) (part us=none) flt (fun z:β×List T3×S=>part us=some (proj z.1,z.2.1)/\I z.2.2 (l++[z.1])) (fun z=>PB T b z.2.1::X z.2.2) (fun z=>.rep (En.T z.1))):CallP Tryz.prog k.f (PB T b ts::X s0) [T.G,AF,NH N] [.is (.pointer (some ⟨b,0,none⟩)),.is (.int .i64 (most:Int)),.is (.func (.func fp) #[] cp.toArray)] (listP most part ts=none) flt (fun z:List β×List T3×S=>listP most part ts=some (z.1.map proj,z.2.1)/\I z.2.2 z.1) (fun z=>PB T b z.2.1::X z.2.2) (fun z=>.rep (SlE En (FrS N k.e En.sz) z.1)):=by
 have hsl:=k.sl;have hap:=k.ap;have hun:=k.un;obtain⟨zs,hsl,hzl⟩:=hsl
 let e:=k.e
 cases k
 all_goals
   refine CallP.ofN (N:=N) (List.mem_cons_of_mem _ (List.mem_cons_of_mem _ List.mem_cons_self)) (fn:=LK.n _) (LK.func _) (n:=27) rfl rfl rfl (fun _ _=>by kernel_rfl) fun E W hNW hb0=>?_;refine vQ ?_;refine Ja rfl (vP [0,1,2] ?_);refine Jm rfl (Jm rfl ?_);refine JO.callPvK (cp:=cp) (Lr:=[]) rfl (hpart ts s0 [] hts (by simp) hI0) rfl (.of_eq (List.append_nil _).symm) qF (.one rfl .nil) (fun hbad=>?_) ?_
   · exact JX.pnI (by rw[Zbi,hbad];rfl)
   rintro⟨x1,us1,s1⟩ ⟨hz1,hI1⟩;refine vD ?_
   try simp only[List.append_nil]
   refine JO.openT (s:=10) rfl (fun p1 hp1=>?_);refine JO.buildE hE (by rw[hs];exact hsl) (by rw[hs];exact hzl) (by rw[hs];decide) rfl rfl (fun b11=>?_);refine Ja rfl (vS [0,1,2,7] ?_);apply yk
   repeat apply yQ
   refine J.loopH (α:=List (Cel En)×Option (Nat×List Value)×Nat×List T3×S) (fun x=>[(0,.is (.pointer (some ⟨b,0,none⟩))),(1,.is (.int .i64 (most:Int))),(2,.is (.func (.func fp) #[] cp.toArray)),(7,.is (sliceO x.2.1 x.1.length x.2.2.1))]) (fun x=>ownO x.2.1 e (PB T b x.2.2.2.1::X x.2.2.2.2)) (fun x=>CelF En x.1) (fun x=>x.2.2.2.1<:+T.ts/\x.1.length+x.2.2.2.1.length<=ts.length/\Grows Cel.cs En.sz x.1 x.2.1 x.2.2.1/\I x.2.2.2.2 (x.1.map Cel.x)/\listP most part ts=listI most part ((x.1.map Cel.x).map proj) x.2.2.2.1) (fun x=>x.2.2.2.1.length) ([p1],some (b11,p1.cs),1,us1,s1) [0,1,2,7] (.cons rfl (.cons rfl (.cons rfl (.cons rfl .nil)))) rfl (fun X w hF=>fun w' hk p hp=>by rw[List.mem_singleton.1 hp];exact hF _ List.mem_cons_self w' hk) ⟨(show us1<:+ts from(hpd _ _ hz1).1).trans hts,(show 1+us1.length<=ts.length by have:us1.length<ts.length:=(hpd _ _ hz1).2;omega),growE p1,(by rw[List.map_singleton,hp1];exact hI1),(by rw[Zbi,hz1,List.map_singleton,hp1];rfl)⟩ fun⟨ps,st,cap,us,s⟩ ⟨hus,hlen,hG,hIs,hP⟩=>?_;try dsimp only
   try dsimp only at hus
   try dsimp only at hlen
   try dsimp only at hG
   try dsimp only at hIs
   try dsimp only at hP
   refine vQ ?_;refine Jm rfl (JO.subL (L':=PB T b us::ownO st e (X s)) Zc9.symm (JO.callK (Lr:=ownO st e (X s)) (ZX T hc b us hus ZU) rfl (.refl _) qF qA ?_));intro _ _;refine vD ?_;refine JO.subL (L':=ownO st e (PB T b (skT 5 ZU us)::X s)) Zc9 (vS [0,1,2,7,13] ?_);refine yC rfl (fun ht13=>?_) (fun ht13=>?_);apply yK;refine vN ?_;apply yk;have hcm:isT 5 ZU us=true:=ht13;rw[Z2C hcm];refine vQ ?_;refine Jm rfl (Jm rfl (Jm rfl (JO.subL (L':=(PB T b us.tail::X s)++ownO st e []) Z4Q.symm ?_)));refine JO.callPvK (cp:=cp) (Lr:=ownO st e []) rfl (hpart us.tail s (ps.map Cel.x) (Z1h hus) (by have:=(ZG hcm).2;rw[List.length_map];omega) hIs) rfl (.refl _) qF (.one rfl .nil) (fun hbad=>?_) ?_
   · exact JX.pnI (by rw[hP,Zdq hpd.le hcm,hbad];rfl)
   rintro⟨x2,us2,s2⟩ ⟨hz2,hI2⟩;refine vD ?_;refine JO.subL (L':=ownO st e (PB T b us2::X s2)) Z4Q ?_;refine JO.openT (s:=17) rfl (fun p2 hp2=>?_);have hd2:=(hpd _ _ hz2).2;have hlt:=(ZG hcm).2;have hle9:=hts.length_le;refine Jq (Z2d hE (by rw[hs];exact hsl) (by rw[hs];exact hzl) (by rw[hs];decide) rfl) ?_;refine JO.apO (ys:=[p2]) (by rw[hs];exact hap) Cel.hlen .here hG rfl rfl (srcE p2 hun) (by simp) (by show(ps.length+1)*_<=140737488355328;exact Nat.le_trans (Nat.mul_le_mul_right _ (show ps.length+1<=4096 by omega)) qD) (by show ps.length+1<=9223372036854775807;omega) rfl (fun st2 cap2 hG2=>?_);refine Ja rfl ?_;apply yI
   repeat refine JX.normal_block ?_
   refine JX.roundG (x:=(ps,st,cap,us,s)) (ps++[p2],st2,cap2,us2,s2) ?_ ?_ [0,1,2,7] ?_ ?_ ?_ ?_
   · exact⟨(show us2<:+us.tail from(hpd _ _ hz2).1).trans (Z1h hus),(by show(ps++[p2]).length+us2.length<=ts.length;rw[List.length_append];show ps.length+1+us2.length<=ts.length;have:us2.length<us.tail.length:=hd2;omega),hG2,(by rw[List.map_append,List.map_singleton,hp2];exact hI2),(by rw[hP,Zdq hpd.le hcm,hz2,List.map_append,List.map_singleton,hp2,List.map_append];rfl)⟩
   · exact(by show us2.length<us.length;have:us2.length<us.tail.length:=hd2;omega)
   · exact qS
   · exact qH
   · exact qG
   · exact fun X w hF=>fun w' hk=>CelF.snoc (hF _ qI w' hk) (hF _ List.mem_cons_self w' hk)
   repeat apply yQ
   refine J.exit ?_
   repeat first|refine yH ?_|refine yM rfl ?_|refine yE ?_
   repeat first|apply yX|apply yB
   have hcm:isT 5 ZU us=false:=ht13;rw[Z37 hcm];rw[hG.sl.1];refine vQ ?_;refine Jm rfl (Jm rfl (Jq (ZE hun rfl) (Jm rfl (Jq (Z3U rfl rfl) ?_))));refine JO.callPK (Lr:=_) (ZP (.pointer (some ⟨b,0,none⟩)) (decide ((ps.length:Int)<=(most:Int)))) rfl (Z3q _) Z3j qA (fun hbad=>?_) ?_
   · exact JX.pnI (by rw[hP];exact ZgZ hcm (by rw[List.length_map,List.length_map];have:=of_decide_eq_false hbad;omega))
   intro _ hmo;refine vD ?_;refine vS [7] ?_;refine J.freezeOMW (e:=e) (sz:=En.sz) hNW Cel.hlen hG .here (fun q hq=>?_) rfl (by rw[List.all_cons,hXo];rfl) ?_
   · rw[List.map_cons]at hq
     rcases List.mem_cons.1 hq with rfl|hq
     · exact⟨_,List.mem_cons_self,rfl⟩
     · obtain⟨o,ho,e⟩:=List.mem_map.1 hq
       obtain⟨o2,ho2,e2⟩:=hXb s o ho;exact⟨o2,List.mem_cons_of_mem _ ho2,e2.trans e⟩
   refine vQ ?_;refine Jm rfl (Ja rfl (vS [6] ?_));refine vR ?_;refine JX.toP ?_;exact JX.retL1 (Lr:=[]) rfl (ps.map Cel.x,us,s) ⟨by rw[hP,ZeF hcm,if_pos (by rw[List.length_map,List.length_map];have:=of_decide_eq_true hmo;omega)],hIs⟩ (.of_eq (List.append_nil _).symm) (by rw[List.all_cons,hXo];rfl) rfl hb0 rfl (Sub.slE hG.sl.2 qI qI (fun X w hf=>hf _ qI))
theorem Zfp(k:LK){α:Type}(N:Nat)(T:Tk)(hc:T.ts.length<=T.cap)(h9:T.ts.length<=2049)(b:Nat)(ts:List T3)(hts:ts<:+T.ts)(En:Enc α)(hE:En.flat)(hs:En.sz=k.z)(part:Ps α)(hpd:Dn part)(most:Nat)(fp:FuncId)(hpart: ∀us,us<:+T.ts->us.length<=ts.length->CallP Tryz.prog fp [PB T b us] [T.G,AF,NH N] [.is (.pointer (some ⟨b,0,none⟩))] (part us=none) flt (fun z:α×List T3=>part us=some z) (fun z=>[PB T b z.2]) (fun z=>.rep (En.T z.1))):
  CallP Tryz.prog k.f [PB T b ts] [T.G,AF,NH N] [.is (.pointer (some ⟨b,0,none⟩)),.is (.int .i64 (most:Int)),.is (fv fp)] (listP most part ts=none) flt (fun z:List α×List T3=>listP most part ts=some z) (fun z=>[PB T b z.2]) (fun z=>.rep (SlE En (FrS N k.e En.sz) z.1)):=
 (ZlN k (S:=Unit) N T hc h9 b ts hts En hE hs part id hpd (fun _=>[]) (fun _ _=>True) () trivial (fun _ _ h=>by cases h) (fun _=>rfl) most fp [] fun us s l hus hu _=>(hpart us hus qM).map id (fun z=>(z.1,z.2,())) (fun z hz=>⟨hz,trivial⟩) (fun z _=>rfl) (fun z _=>rfl)).map id (fun z=>(z.1,z.2.1)) (fun z hz=>by have:=hz.1;rwa [List.map_id]at this) (fun _ _=>rfl) (fun _ _=>rfl)
inductive WK|ex|co|st
namespace WK
abbrev k:WK->LK
 | .ex=>.ex
 | .co=>.co
 | .st=>.st
abbrev f:WK->Nat
 | .ex=>Z7H
 | .co=>Z6W
 | .st=>Z8M
noncomputable def n:WK->Func
 | .ex=>Tryz.f112
 | .co=>Tryz.f106
 | .st=>Tryz.f109
theorem func(k:WK):Tryz.prog.funcs[k.f]? =some k.n:=by cases k;exact Tryz.func112;exact Tryz.func106;exact Tryz.func109
end WK
theorem Sub.itAll{L:List Own}{Φ:List (World->Prop)}:Sub L Φ (.is (.agg #[.bool true,.int .i64 0,.int .i64 0,.int .i64 0,.string em,.string em,.string em,.int .i64 0,.slice none 0 0])) (.rep (itE.T ⟨true,ex0⟩)):=fun X v w hf e=>by
 rw[show v=_ from e];exact fun w' _=>⟨_,rfl,exCells 0 0 0 em em em 0 none 0 0,rfl,ZdW⟩
theorem Sub.itEx{L:List Own}{Φ:List (World->Prop)}{x:Ex}{es:List Value}{cs:Array Value}(hF:ExR x (.agg es.toArray)∈Φ)(hc:cs=(Value.bool false::es).toArray):Sub L Φ (.is (.agg cs)) (.rep (itE.T ⟨false,x⟩)):=fun X v w hf e=>by
 rw[show v=_ from e,hc];exact fun w' hk=>⟨_,rfl,es,rfl,hf.2 _ hF w' hk⟩
theorem Sub.kyEx{L:List Own}{Φ:List (World->Prop)}{x:Ex}{d:Bool}{es:List Value}{cs:Array Value}(hF:ExR x (.agg es.toArray)∈Φ)(hc:cs=(es++[Value.bool d]).toArray):Sub L Φ (.is (.agg cs)) (.rep (kyE.T ⟨x,d⟩)):=fun X v w hf e=>by
 rw[show v=_ from e,hc];exact fun w' hk=>⟨_,rfl,es,rfl,hf.2 _ hF w' hk⟩
attribute [local irreducible] SlE ExsR
def PlF(k:Int)(v:Value)(w:World):Prop:=∃bx,v= .func (.func Z3g) #[] #[.pointer (some ⟨bx,0,none⟩)]/\HeapIs bx [.int .i64 k] Z6z w
theorem Sub.plF{L:List Own}{Φ:List (World->Prop)}{k:Int}{bx:Nat}(hF:HeapIs bx [.int .i64 k] Z6z∈Φ):Sub L Φ (.is (.func (.func Z3g) #[] #[.pointer (some ⟨bx,0,none⟩)])) (.rep (PlF k)):=fun X v w hf e=>by
 rw[show v=_ from e];exact fun w' hk=>⟨bx,rfl,hf.2 _ hF w' hk⟩
theorem Z97(N:Nat)(T:Tk)(hc:T.ts.length<=T.cap)(h9:T.ts.length<=2049)(b:Nat)(ts:List T3)(hts:ts<:+T.ts)(e:Ps Ex)(hex: ∀us,us<:+T.ts->us.length<=ts.length->CallP Tryz.prog Z1w [PB T b (us)] [T.G,AF] [.is (.pointer (some ⟨b,0,none⟩))] (e (us)=none) flt (fun z:Ex×List T3=>e (us)=some z) (fun z=>[PB T b z.2]) (fun z=>.rep (ExR z.1))):CallP Tryz.prog Z5B [PB T b ts] [T.G,AF,NH N] [.is (.pointer (some ⟨b,0,none⟩))] (itemP e ts=none) flt (fun z:Pz.Itm×List T3=>itemP e ts=some z) (fun z=>[PB T b z.2]) (fun z=>.rep (itE.T z.1)):=
CallP.of (fn:=Tryz.f115) Tryz.func115 (n:=9) rfl rfl rfl (fun _ _=>by kernel_rfl) fun E W hb0=>by
 refine vQ ?_;refine JO.alloc Z6p rfl fun b2=>(vP [0,2] ?_);refine Jm rfl (JO.callK (Lr:=[_]) (ZX T hc b (ts) (hts) Z1g) rfl (List.perm_append_comm (l₁:=[_]) (l₂:=[_])) qF qA ?_);intro _ _;refine vD ?_;refine vS [0,2,4] ?_;refine yC rfl (fun ht4=>?_) (fun ht4=>?_);have hs:isT 5 Z1g ts=true:=ht4;rw[Z2C hs];refine vQ ?_;refine Jq (Zg (cs:=[_,_,_,_,_,_,_,_,_]) Z6q (.cons rfl .nil) rfl rfl) (JO.m (Z4 rfl rfl qU qC qO Z4z) (by rfl) ?_);refine vS [2] ?_;refine vR ?_;refine JX.toP ?_;exact JX.retLCs (Lr:=[_]) rfl (⟨true,ex0⟩,ts.tail) (by unfold itemP;rw[if_pos hs]) (.refl _) rfl rfl hb0 rfl Z3V HasOwn.mem (Z1o rfl) Sub.itAll;apply yK
 repeat first|apply yX|apply yB
 have hs:isT 5 Z1g ts=false:=ht4;rw[Z37 hs];refine vQ ?_;refine Jm rfl ?_;refine JO.callPK (Lr:=[_]) (hex ts hts (Nat.le_refl _)) rfl (.refl _) qF qA (fun hbad=>?_) ?_
 · exact JX.pnI (by unfold itemP;rw[if_neg (by rw[hs];decide),hbad];rfl)
 intro z hz;refine vD ?_;refine JO.openA (s:=7) rfl (fun a7 l7 q7 b7_ o7_ _ _=>?_);refine Jq (Zg (cs:=[_,_,_,_,_,_,_,_,_]) Z6q (.cons rfl .nil) rfl rfl) (JO.m (Z4 rfl rfl qU qC qO Z4z) (by rfl) ?_);refine vS [2] ?_;refine vR ?_;refine JX.toP ?_;exact JX.retLCs (Lr:=[_]) rfl (⟨false,z.1⟩,z.2) (by unfold itemP;rw[if_neg (by rw[hs];decide),hz];rfl) (.refl _) rfl rfl hb0 rfl Z3V HasOwn.mem (Z1o rfl) (Sub.itEx qI rfl)
theorem Z9m(N:Nat)(T:Tk)(hc:T.ts.length<=T.cap)(h9:T.ts.length<=2049)(b:Nat)(ts:List T3)(hts:ts<:+T.ts)(e:Ps Ex)(exprDn: ∀{us:List T3} {z:Ex×List T3},e us=some z->z.2<:+us)(hex: ∀us,us<:+T.ts->us.length<=ts.length->CallP Tryz.prog Z1w [PB T b (us)] [T.G,AF] [.is (.pointer (some ⟨b,0,none⟩))] (e (us)=none) flt (fun z:Ex×List T3=>e (us)=some z) (fun z=>[PB T b z.2]) (fun z=>.rep (ExR z.1))):CallP Tryz.prog Z5H [PB T b ts] [T.G,AF,NH N] [.is (.pointer (some ⟨b,0,none⟩))] (keyP e ts=none) flt (fun z:Pz.Ky×List T3=>keyP e ts=some z) (fun z=>[PB T b z.2]) (fun z=>.rep (kyE.T z.1)):=
CallP.of (fn:=Tryz.f120) Tryz.func120 (n:=14) rfl rfl rfl (fun _ _=>by kernel_rfl) fun E W hb0=>by
 refine vQ ?_;refine JO.alloc Z4Y rfl fun b2=>(vP [0,2] ?_);refine Jm rfl ?_;refine JO.callPK (Lr:=[_]) (hex ts hts (Nat.le_refl _)) rfl (List.perm_append_comm (l₁:=[_]) (l₂:=[_])) qF qA (fun hbad=>?_) ?_
 · exact JX.pnI (by unfold keyP;rw[hbad];rfl)
 intro z hz;refine vD ?_;refine JO.openA (s:=5) rfl (fun a5 l5 q5 b5_ o5_ _ _=>?_);refine Jq (Zg (cs:=[_,_,_,_,_,_,_,_,_]) ZbN (.cons rfl .nil) rfl rfl) (JO.alloc Z4Y rfl fun b3=>(JO.m (Z4 rfl rfl qU qC qO Z3Q) (by rfl) ?_));refine vP [0,2,3] ?_;refine Jm rfl (JO.callK (Lr:=[_,_]) (ZZ T hc b (z.2) (((exprDn hz).trans hts)) Z55) rfl (.swap _ _ _) qF qA ?_);intro _ _;refine vD ?_;refine Jq (Z2e rfl) (vS [0,2,3,9] ?_);refine yC rfl (fun ht9=>?_) (fun ht9=>?_);have ha:isT 1 Z55 z.2=false:=by simpa using ht9
 rw[Z37 ha];refine vQ ?_;refine Jm rfl (JO.callK (Lr:=[_,_]) (ZZ T hc b (z.2) (((exprDn hz).trans hts)) Z4s) rfl (.refl _) qF qA ?_);intro _ _;refine vD ?_;refine Jq (Z0 Z5T rfl) (JO.m (Zj (cs':=[_,_,_,_,_,_,_,_,_]) rfl rfl qU rfl rfl rfl rfl Z2D) (by rfl) ?_);refine vS [2,3] ?_
 first|(have ha:isT 1 Z55 z.2=true:=(by simpa using ht9);rw[Z2C ha])|skip
 refine vQ ?_;refine Jq (ZR (cs:=[_,_,_,_,_,_,_,_,_]) Z2V rfl rfl rfl) (JO.m (Z4 rfl rfl qU qC qO Z3Q) (by rfl) ?_);refine vS [2] ?_;refine vR ?_;refine JX.toP ?_;exact JX.retLCs (Lr:=[_,_]) rfl (⟨z.1,isT 1 Z4s z.2⟩,skT 1 Z4s z.2) (by unfold keyP;rw[hz,Option.map_some,if_neg (by rw[ha];decide)]) (.refl _) rfl rfl hb0 rfl Z2V HasOwn.mem (Z1o rfl) (Sub.kyEx qI rfl);apply yK
 repeat first|apply yX|apply yB
 first|(have ha:isT 1 Z55 z.2=true:=(by simpa using ht9);rw[Z2C ha])|skip
 refine vQ ?_;refine Jq (ZR (cs:=[_,_,_,_,_,_,_,_,_]) Z2V rfl rfl rfl) (JO.m (Z4 rfl rfl qU qC qO Z3Q) (by rfl) ?_);refine vS [2] ?_;refine vR ?_;refine JX.toP ?_;exact JX.retLCs (Lr:=[_,_]) rfl (⟨z.1,false⟩,z.2.tail) (by unfold keyP;rw[hz,Option.map_some,if_pos ha]) (.refl _) rfl rfl hb0 rfl Z2V HasOwn.mem (Z1o rfl) (Sub.kyEx qI rfl)
theorem Z7i(N:Nat)(T:Tk)(hc:T.ts.length<=T.cap)(h9:T.ts.length<=2049)(b:Nat)(ts:List T3)(hts:ts<:+T.ts)(e:Ps Ex)(hex: ∀us,us<:+T.ts->us.length<=ts.length->CallP Tryz.prog Z1w [PB T b (us)] [T.G,AF] [.is (.pointer (some ⟨b,0,none⟩))] (e (us)=none) flt (fun z:Ex×List T3=>e (us)=some z) (fun z=>[PB T b z.2]) (fun z=>.rep (ExR z.1))):CallP Tryz.prog Z8l [PB T b ts] [T.G,AF,NH N] [.is (.pointer (some ⟨b,0,none⟩))] (whereP e ts=none) flt (fun z:List Ex×List T3=>whereP e ts=some z) (fun z=>[PB T b z.2]) (fun z=>.rep (SlE exE (FX N) z.1)):=
CallP.ofN (N:=N) (List.mem_cons_of_mem _ (List.mem_cons_of_mem _ List.mem_cons_self)) (fn:=Tryz.f117) Tryz.func117 (n:=9) rfl rfl rfl (fun _ _=>by kernel_rfl) fun E W hNW hb0=>by
 refine vQ ?_;refine Ja rfl (vP [0] ?_);refine Jm rfl (JO.callK (Lr:=[]) (ZZ T hc b (ts) (hts) Z91) rfl (.refl _) qF qA ?_);intro _ _;refine vD ?_;refine Jq (Z2e rfl) (vS [0,5] ?_);refine yC rfl (fun ht5=>?_) (fun ht5=>?_);have hw:isT 1 Z91 ts=false:=by simpa using ht5
 rw[Z37 hw];refine vQ ?_;refine Ja rfl (vS [2] ?_);refine vR ?_;refine JX.toP ?_;exact JX.retL1 (Lr:=[]) rfl ([],ts) (by unfold whereP;rw[if_neg (by rw[hw];decide)]) (.refl _) rfl rfl hb0 rfl (Sub.slENil fun _=>FrS.nil _);apply yK
 repeat first|apply yX|apply yB
 have hw:isT 1 Z91 ts=true:=by simpa using ht5
 rw[Z2C hw];refine vQ ?_;refine Jm rfl ?_;refine JO.callPK (Lr:=[]) (hex ts.tail (Z1h hts) (by have:=(ZG hw).2;omega)) rfl (.refl _) qF qA (fun hbad=>?_) ?_
 · exact JX.pnI (by unfold whereP;rw[if_pos hw,hbad];rfl)
 intro z hz;refine vD ?_;rw[Z8Z];refine JO.openT (s:=7) rfl (fun p1 hp1=>?_);refine JO.buildE Z4l ZB rfl qD rfl rfl (fun b8=>?_);refine Ja rfl (vS [2] ?_);refine J.freezeOMW (e:=Zb) (sz:=8) hNW Cel.hlen (growE p1) .here (fun q hq=>by simp only[List.map_cons,List.map_nil,List.mem_singleton]at hq;exact⟨_,List.mem_cons_self,hq.symm⟩) rfl rfl ?_;refine J.fact (CelF exE [p1]) (fun X w hf _=>fun w' hk p hp=>by rw[List.mem_singleton.1 hp];exact hf _ qI w' hk) ?_;refine vR ?_;refine JX.toP ?_;exact JX.retL1 (Lr:=[]) rfl ([p1].map Cel.x,z.2) (by unfold whereP;rw[if_pos hw,hz,List.map_singleton,hp1];rfl) (.refl _) rfl rfl hb0 rfl (Sub.slEO (growE p1) qI qI qI)
theorem Z6Q(k:Int):CallTy Tryz.prog ZdH [.is (.int .i64 k)] (.rep (PlF k)):=
 CallTy.of (fn:=Tryz.f63) Tryz.func63 (n:=4) rfl rfl rfl (fun _ _=>by kernel_rfl) fun E W=>by
 refine vQ ?_;refine JO.box rfl rfl fun b1=>(Ja rfl (vP [1] ?_));refine Jq (Z4A .nil (.cons rfl .nil)) (Ja rfl (vS [2] ?_));refine J.freeze1 rfl (fun _ h=>h) rfl rfl ?_;refine vR ?_;exact JX.ret1sub rfl rfl rfl (Sub.plF List.mem_cons_self)
end Go.Proofs.YtbedigkncjbggaaGreatDoor
set_option maxRecDepth 20000
namespace Go.Proofs.YtbedigkncjbggaaGreatDoor
open Go Go.Vc
open Go.Pz
abbrev pcX(z:ByteArray×Cel exE):ByteArray×Ex:=(z.1,z.2.x)
def p0E:Cel exE:=⟨ex0,exCells 0 0 0 em em em 0 none 0 0,rfl,by
 intro u hu;simp only[exCells,List.mem_cons,List.mem_nil_iff,or_false]at hu;rcases hu with rfl|rfl|rfl|rfl|rfl|rfl|rfl|rfl<;>rfl⟩
structure UpM where
 z:Option ((Ex×List T3)×Cel exE)
 ap:Option (Nat×List Value×Nat)
 e8:Bool
 e10:Bool
structure UpM.inv (e:Ps Ex) (us:List T3) (ps:List (Cel exE)) (s:UpM) (D:Array Bool):Prop where
 z:D.getD 3 false=s.z.isSome
 r: ∀z,s.z=some z->e us=some z.1/\z.2.x=z.1.1
 a:D.getD 6 false=s.ap.isSome
 g: ∀a,s.ap=some a->Grows Cel.cs 8 (ps++[p0E]) (some (a.1,a.2.1)) a.2.2
 e8:D.getD 8 false=s.e8
 e10:D.getD 10 false=s.e10
 c6:D.getD 6 false=true->∀j,j<6->D.getD j false=true
 c7:D.getD 7 false=true->D.getD 6 false=true
 c8:D.getD 8 false=true->D.getD 6 false=true
 c10:D.getD 10 false=true->D.getD 6 false=true
attribute [local irreducible] SlE ExsR
end Go.Proofs.YtbedigkncjbggaaGreatDoor
set_option maxRecDepth 20000
namespace Go.Proofs.YtbedigkncjbggaaGreatDoor
open Go Go.Vc
open Go.Pz
attribute [local irreducible] SlE ExsR
end Go.Proofs.YtbedigkncjbggaaGreatDoor
set_option maxRecDepth 20000
namespace Go.Proofs.YtbedigkncjbggaaGreatDoor
open Go Go.Vc
open Go.Pz
attribute [local irreducible] SlE ExsR
end Go.Proofs.YtbedigkncjbggaaGreatDoor
namespace Go.Pz
open Go Go.Vc
theorem Z8r{e:Ps Ex}(he:Dn e): ∀(n m:Nat) (ts:List T3),ts.length<=n->ts.length<=m->joinsG e n ts=joinsG e m ts
 |0,m,ts,h,_=>by
   have:ts=[]:=List.length_eq_zero_iff.1 qM;subst this;cases m with
   |zero=>rfl
   |succ m=>rw[joinsG,joinsG,if_neg (by exact Bool.false_ne_true)]
 |n+1,0,ts,_,h=>by
   have:ts=[]:=List.length_eq_zero_iff.1 qM;subst this;rw[joinsG,joinsG,if_neg (by exact Bool.false_ne_true)]
 |n+1,m+1,ts,h,h'=>by
   rw[joinsG,joinsG]
   split
   · exact Zr fun y hy=>by
       have h2:=(Z4O he _ _ hy).2;have h3:=(Z2p 1 ZW ts).length_le;rw[Z8r he n m y.2 qM qM]
   · rfl
def joinsC(e:Ps Ex):Ps (List Src):=fun ts=>joinsG e ts.length ts
def isJ(us:List T3):Bool:=isT 1 ZW us||isT 1 Z3c us
theorem Zdb{e:Ps Ex}{ts:List T3}(h:isJ ts=false):joinsC e ts=some ([],ts):=by
 unfold joinsC;cases ts.length with
 |zero=>rfl
 |succ n=>rw[joinsG,if_neg (by rw[show(isT 1 ZW ts||isT 1 Z3c ts)=false from h];decide)]
theorem Zc0{e:Ps Ex}(he:Dn e){ts:List T3}(h:isJ ts=true):joinsC e ts=(joinP e (skT 1 ZW ts)).bind fun s=>(joinsC e s.2).map fun y=>(s.1::y.1,y.2):=by
 unfold joinsC;rw[Z8r he _ (ts.length+1) ts qM qM,joinsG,if_pos (by exact h)];exact Zr fun y hy=>by
   have h2:=(Z4O he _ _ hy).2;have h3:=(Z2p 1 ZW ts).length_le;rw[Z8r he _ y.2.length y.2 qM qM]
def joinI(e:Ps Ex)(xs:List Src):Ps (List Src):=fun us=>(joinsC e us).map fun y=>(xs++y.1,y.2)
theorem Z4U{e:Ps Ex}{xs:List Src}{us:List T3}(h:isJ us=false):joinI e xs us=some (xs,us):=by
 unfold joinI;rw[Zdb h];simp
theorem Z6v{e:Ps Ex}(he:Dn e){xs:List Src}{us:List T3}(h:isJ us=true):joinI e xs us=(joinP e (skT 1 ZW us)).bind fun s=>joinI e (xs++[s.1]) s.2:=by
 unfold joinI;rw[Zc0 he h,Option.map_bind];refine Zr fun s _=>?_;simp only[Function.comp];cases joinsC e s.2 with
 |none=>rfl
 |some y=>simp
def qTail(e:Ps Ex)(is:List Itm)(xs:List Src):Ps St:=fun us=>
 if xs.length<=4 then(whereP e us).bind fun w=>(groupP e w.2).bind fun g=>(orderP e g.2).bind fun o=>(limitP o.2).map fun l=>
  ({stK 4 with items:=is,from_:=xs,where_:=w.1,group:=g.1,order:=o.1,limit:=l.1},l.2)
 else none
theorem Z2J(e:Ps Ex)(ts:List T3):queryP e ts=(listP 16 (itemP e) ts).bind fun i=>(wantP 1 Z6E i.2).bind fun a=>(sourceP a.2).bind fun s=>(joinI e [s.1] s.2).bind fun j=>qTail e i.1 j.1 j.2:=by
 unfold queryP joinI;refine Zr fun i _=>Zr fun a _=>Zr fun s _=>?_;show(joinsC e s.2).bind _=_;cases joinsC e s.2 with
 |none=>rfl
 |some j=>simp only[Option.bind_some,Option.map_some,qTail,List.singleton_append,List.length_cons]
theorem Zce{e:Ps Ex}{us:List T3}(h:isT 1 Z5C us=true):groupP e us=(wantP 1 w_BY us.tail).bind fun a=>listP 16 e a.2:=by unfold groupP;rw[if_pos h]
theorem Zkx{e:Ps Ex}{us:List T3}(h:isT 1 Z5C us=false):groupP e us=some ([],us):=by unfold groupP;rw[if_neg (by rw[h];decide)]
theorem Zcr{e:Ps Ex}{us:List T3}(h:isT 1 Z4X us=true):orderP e us=(wantP 1 w_BY us.tail).bind fun a=>listP 16 (keyP e) a.2:=by unfold orderP;rw[if_pos h]
theorem ZkA{e:Ps Ex}{us:List T3}(h:isT 1 Z4X us=false):orderP e us=some ([],us):=by unfold orderP;rw[if_neg (by rw[h];decide)]
theorem Zgu{us:List T3}(h:isT 1 Z6a us=true):limitP us=(takeP 3 us.tail).map fun z=>(z.1.n,z.2):=by unfold limitP;rw[if_pos h]
theorem Zl7{us:List T3}(h:isT 1 Z6a us=false):limitP us=some (-1,us):=by unfold limitP;rw[if_neg (by rw[h];decide)]
theorem Zdr{us:List T3}{z:Src×List T3}(h:sourceP us=some z):z.1.on=[]:=by
 unfold sourceP at h;obtain⟨n,_,h⟩:=bnd h
 split at h
 · obtain⟨m,_,rfl⟩:=mpd h;rfl
 split at h
 · obtain⟨m,_,rfl⟩:=mpd h;rfl
 · injection h with h;subst h;rfl
theorem Ziw(us:List T3):(isT 1 ZW us||((decide ((0:Int)<(((skT 1 ZW us).length:Nat):Int))&&seq ((skT 1 ZW us).headD t3D).t Z3c)&&(((skT 1 ZW us).headD t3D).k==1)))=isJ us:=by
 unfold isJ;cases h:isT 1 ZW us with
 |true=>rfl
 |false=>
   have hs:skT 1 ZW us=us:=by unfold skT;rw[h];rfl
   rw[hs];cases us with
   |nil=>rfl
   |cons t r=>
     rw[decide_eq_true (show(0:Int)<(((t::r).length:Nat):Int) by simp),Bool.true_and,Z1G];show(false||(sq t.t Z3c&&(t.k==1)))=(false||((t.k==1)&&sq t.t Z3c));rw[Bool.and_comm]
end Go.Pz
namespace Go.Pz
open Go Go.Vc
theorem Z80{e:Ps Ex}(he:Dn e){us:List T3}{z:List Ex×List T3}(h:whereP e us=some z):z.2<:+us:=by
 unfold whereP at h
 split at h
 · rename_i hi
   obtain⟨v,h5,rfl⟩:=mpd h;exact(he _ _ h5).1.trans (ZG hi).1
 · injection h with h;subst h;exact List.suffix_refl us
end Go.Pz
