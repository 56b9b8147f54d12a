/- The document's reader: Parse. No condition. -/
import Derived.Test.YtbedigkncjbggaaGreatDoorXQ14
import Derived.Test.YtbedigkncjbggaaGreatDoorXQ15
import Derived.Test.YtbedigkncjbggaaGreatDoorXQ8
import Derived.Test.YtbedigkncjbggaaGreatDoorXQ6
import Derived.Test.YtbedigkncjbggaaGreatDoorXQ9
import Derived.Test.YtbedigkncjbggaaGreatDoorXQ10
import Derived.Test.YtbedigkncjbggaaGreatDoorXG8
import Derived.Test.YtbedigkncjbggaaGreatDoorXQ2
import Derived.Test.YtbedigkncjbggaaGreatDoorRows
import Derived.Deep.DeepHandedRow
import Derived.Deep.DeepWitnessRowRef
import Derived.Lib.LaidCaseMet
import Derived.Lib.LaidIn
import Derived.PinnedBridge
import Derived.ProofKit
import Derived.Test.YtbedigkncjbggaaGreatDoorXG1
import Derived.Stop.LaidErr
import Derived.Lib.LaidTab
import Derived.Lib.SmallJoins
import Derived.Shelf.Vars
import Derived.JoinedCond
import Derived.ChangeMaps5
import Derived.Test.YtbedigkncjbggaaGreatDoorCards
import Derived.Test.YtbedigkncjbggaaGreatDoorTie
import Derived.Test.YtbedigkncjbggaaGreatDoorXQ1
set_option maxRecDepth 20000
namespace Go.Proofs.YtbedigkncjbggaaGreatDoor
open Go Go.Vc
open Go.Pz
theorem Zgj(ts:List T3)(T:Rk)(b:Nat)(h:T.ts=ts):(⟨b,Z3t,.is (.agg #[.slice T.ad ts.length T.cap,.int .i64 0,.bool false])⟩:Own)=RB T b T.ts false:=by
 subst h;show _=(⟨b,Z3t,.is (.agg #[.slice T.ad T.ts.length T.cap,.int .i64 ((T.ts.length-T.ts.length:Nat):Int),.bool false])⟩:Own);rw[Nat.sub_self];rfl
theorem rd_R{ts:List T3}(ho:okL ts):stmtR (exprP (ts.length+1)) ts=stmtP (exprP (ts.length+1)) ts:=Zg9 _ ho
theorem Zi0{l:List T3×Int}(h:l.2=0)(ho:okL l.1){z:Pz.St×List T3×Bool}(hz:Rv (stmtR (exprP (l.1.length+1)) l.1) l.1 false z)(hb:z.2.2=true\/skRB 5 Z4W z.2.1 z.2.2≠[]):readS l=(st0,30):=by
 rw[rd_R ho]at hz;refine Zc8 h ?_;rcases hz.2.2 rfl with⟨h1,h2⟩|⟨_,h2⟩
 · rcases hb with hb|hb
   · rw[hb]at h1;cases h1
   · rw[h1]at hb
     refine Zbx h2 fun e=>hb ?_;have e':=List.length_eq_zero_iff.1 e;unfold skT at e';unfold skRB isRB
     simpa using e'
 · exact ZcE h2
theorem Zhc{l:List T3×Int}(ho:okL l.1){z:Pz.St×List T3×Bool}(hz:Rv (stmtR (exprP (l.1.length+1)) l.1) l.1 false z)(hb:z.2.2=false)(hs:skRB 5 Z4W z.2.1 z.2.2=[]):stmtP (exprP (l.1.length+1)) l.1=some (z.1,z.2.1)/\wholeP l.1=some z.1:=by
 rw[rd_R ho]at hz;have h2:=(hz.ok hb).2;refine⟨h2,ZbK h2 ?_⟩;rw[hb]at hs;unfold skRB isRB at hs;unfold skT;simp only[Bool.not_false,Bool.true_and]at hs;rw[hs];rfl
theorem k_ne{T:Rk}{us:List T3}(hs:us<:+T.ts):((T.k us:Nat):Int)=(T.ts.length:Int)↔us=[]:=by
 have:=hs.length_le;unfold Rk.k
 constructor
 · intro h;exact List.length_eq_zero_iff.1 qM
 · rintro rfl;simp
attribute [local irreducible] SlE ExsR
set_option maxHeartbeats 2000000 in
theorem ZbV(s:ByteArray):CallL Tryz.prog Z9d (Z:=Unit) [] [] [.is (.string s)] (fun _=>True) (fun _=>[]) (fun _=>.tup2 (.rep (StR 0 (readS (lx s)).1)) (.is (.int .i64 (readS (lx s)).2))):=
CallL.of (fn:=Tryz.f14) Tryz.func14 (n:=102) rfl rfl rfl (fun _ _=>by kernel_rfl) fun E W hb0=>by
 refine vQ ?_;refine JO.alloc ZT rfl fun b2=>(Ja rfl (vP [0,2] ?_));refine Jm rfl (Jq (ZN rfl (ZdA s) qA) ?_);refine Jm rfl (Jq (Z2c rfl) (Jq (Z2d rfl) (Ja rfl (Ja rfl (vP [2,4,5] ?_)))));refine Jm rfl (Jq (Z28 rfl rfl) (vS [2,4,5,16] ?_));refine yC rfl (fun ht16=>?_) (fun ht16=>?_);refine vQ ?_;refine Jq (Zd (cs:=[_,_,_,_,_,_,_,_,_,_,_,_,_,_]) Z1w .nil rfl rfl) (Jm rfl (JO.m (Z2 rfl rfl qU (by exact Zb rfl rfl) (by first|exact Zb rfl rfl|exact ZF) Zo) (by rfl) ?_));refine Ja rfl (vS [2,3] ?_);refine vR ?_;exact JX.retLC1s (Lr:=_) (A:=.rep (StR 0 st0)) (B:=.int .i64 (lx s).2) rfl () trivial (.refl _) rfl hb0 rfl rfl Zj qI (ZQ rfl) rfl SrZero (by show Ty.tup2 (.rep (StR 0 (readS (lx s)).1)) (.is (.int .i64 (readS (lx s)).2))=_;rw[ZeU (l:=lx s) (by simpa using ht16)]);apply yK
 repeat first|apply yX|apply yB
 have hq:(lx s).2=0:=by simpa using ht16
 have hok0:okL (lx s).1:=ZgX _;have h90:(lx s).1.length<=2049:=Z92 _;refine J.openSlC (s:=4) rfl (fun a0 len0 cap0 b0 o0 hl0 ha0 hlc0=>?_);subst hl0;obtain⟨T,rfl,rfl,hts⟩: ∃T:Rk,a0=T.ad/\cap0=T.cap/\T.ts=(lx s).1:=⟨⟨(lx s).1,a0,cap0⟩,rfl,rfl,rfl⟩;rw[<-hts]at hok0 h90 ha0 ⊢;have hok:okL T.ts:=hok0;have h9:T.ts.length<=2049:=h90;have ha:T.ts.length≠0->T.ad=some ⟨b0,o0,none⟩:=ha0;refine vQ ?_;refine Jm rfl (Jq (Zd (cs:=[_,_,_]) Z7e (.cons rfl .nil) rfl rfl) (JO.box rfl rfl fun b21=>(Ja rfl (vS [2,4,6] ?_))));refine J.subP (L':=[RB T b21 T.ts false,_]) (.of_eq (by rw[<-Zgj T.ts T b21 rfl])) ?_;refine vQ ?_;refine Jq (Zd (cs:=[_,_,_,_,_,_,_,_,_,_,_,_,_,_]) Z1w (.cons rfl .nil) rfl rfl) (JO.alloc ZT rfl fun b7=>(JO.m (Z2 rfl rfl qU (by exact Zb rfl rfl) (by first|exact Zb rfl rfl|exact ZF) Zo) (by rfl) ?_));refine vS [2,4,6,7] ?_;refine J.cutZN (fun x:Pz.St×List T3×Bool=>[(2,.is (.pointer (some ⟨b2,0,none⟩))),(4,.is (.slice T.ad T.ts.length T.cap)),(6,.is (.pointer (some ⟨b21,0,none⟩))),(7,.is (.pointer (some ⟨b7,0,none⟩)))]) (fun x:Pz.St×List T3×Bool=>RB T b21 x.2.1 x.2.2::⟨b7,Z3,.rep (StR 0 x.1)⟩::⟨b2,Z3,zSt⟩::[]) (fun x:Pz.St×List T3×Bool=>Rv (stmtR T.e T.ts) T.ts false x) ?_ ?_
 · apply yk
   refine J.front b21 (by repeat(first|exact .here|apply Front.there)) ?_;refine vQ ?_;refine Jm rfl ?_;refine JO.callK (Lr:=_) (Zg T b0 o0 ha h9 b21 _ ?hs _ Z5c) rfl (.refl _) qF qA ?_
   case hs=>exact List.suffix_refl _
   intro _ _;refine vD ?_;refine Ja rfl (vS [2,4,6,7,26] ?_);refine yC rfl (fun ht26=>?_) (fun ht26=>?_);rw[Z1e ht26];refine vQ ?_;refine Jm rfl ?_;refine JO.callK (Lr:=_) (Z7k T b0 o0 ha h9 b21 _ ?hs _) rfl (.refl _) qF qA ?_
   case hs=>exact(List.tail_suffix _)
   intro z8 hz8;refine vD ?_;refine JO.m (Z2 rfl rfl qU (by exact Zb rfl rfl) (by first|exact Zb rfl rfl|exact ZF) Zo) (by rfl) ?_;apply yI
   repeat refine JX.normal_block ?_
   refine JX.midZ (z8) ?_ [2,4,6,7] ?_ ?_ ?_
   · exact(by show Rv (stmtR T.e T.ts) T.ts false _;unfold stmtR;exact Rv.ite_t ht26 (hz8))
   · exact qS
   · exact qH
   · exact qG
   rw[Z19 ht26];refine vQ ?_;refine Jm rfl ?_;refine JO.callK (Lr:=_) (Zg T b0 o0 ha h9 b21 _ ?hs _ Z57) rfl (.refl _) qF qA ?_
   case hs=>exact List.suffix_refl _
   intro _ _;refine vD ?_;refine Ja rfl (vS [2,4,6,7,31] ?_);refine yC rfl (fun ht31=>?_) (fun ht31=>?_);rw[Z1e ht31];refine vQ ?_;refine Jm rfl ?_;refine JO.callK (Lr:=_) (Z7i T b0 o0 ha h9 b21 _ ?hs _ (Z8Y T b0 o0 ha h9 b21 hok)) rfl (.refl _) qF qA ?_
   case hs=>exact(List.tail_suffix _)
   intro z10 hz10;refine vD ?_;refine JO.m (Z2 rfl rfl qU (by exact Zb rfl rfl) (by first|exact Zb rfl rfl|exact ZF) Zo) (by rfl) ?_;apply yI
   repeat refine JX.normal_block ?_
   refine JX.midZ (z10) ?_ [2,4,6,7] ?_ ?_ ?_
   · exact(by show Rv (stmtR T.e T.ts) T.ts false _;unfold stmtR;exact Rv.ite_f ht26 (Rv.ite_t ht31 (hz10)))
   · exact qS
   · exact qH
   · exact qG
   rw[Z19 ht31];refine vQ ?_;refine Jm rfl ?_;refine JO.callK (Lr:=_) (Zg T b0 o0 ha h9 b21 _ ?hs _ Z58) rfl (.refl _) qF qA ?_
   case hs=>exact List.suffix_refl _
   intro _ _;refine vD ?_;refine Ja rfl (vS [2,4,6,7,36] ?_);refine yC rfl (fun ht36=>?_) (fun ht36=>?_);rw[Z1e ht36];refine vQ ?_;refine Jm rfl ?_;refine JO.callK (Lr:=_) (Z7K T b0 o0 ha h9 b21 _ ?hs _ (Z8Y T b0 o0 ha h9 b21 hok)) rfl (.refl _) qF qA ?_
   case hs=>exact(List.tail_suffix _)
   intro z12 hz12;refine vD ?_;refine JO.m (Z2 rfl rfl qU (by exact Zb rfl rfl) (by first|exact Zb rfl rfl|exact ZF) Zo) (by rfl) ?_;apply yI
   repeat refine JX.normal_block ?_
   refine JX.midZ (z12) ?_ [2,4,6,7] ?_ ?_ ?_
   · exact(by show Rv (stmtR T.e T.ts) T.ts false _;unfold stmtR;exact Rv.ite_f ht26 (Rv.ite_f ht31 (Rv.ite_t ht36 (hz12))))
   · exact qS
   · exact qH
   · exact qG
   rw[Z19 ht36];refine vQ ?_;refine Jm rfl ?_;refine JO.callK (Lr:=_) (Zg T b0 o0 ha h9 b21 _ ?hs _ Z5h) rfl (.refl _) qF qA ?_
   case hs=>exact List.suffix_refl _
   intro _ _;refine vD ?_;refine Ja rfl (vS [2,4,6,7,41] ?_);refine yC rfl (fun ht41=>?_) (fun ht41=>?_);rw[Z1e ht41];refine vQ ?_;refine Jm rfl ?_;refine JO.callK (Lr:=_) (Z79 T b0 o0 ha h9 b21 _ ?hs _ (Z8Y T b0 o0 ha h9 b21 hok)) rfl (.refl _) qF qA ?_
   case hs=>exact(List.tail_suffix _)
   intro z14 hz14;refine vD ?_;refine JO.m (Z2 rfl rfl qU (by exact Zb rfl rfl) (by first|exact Zb rfl rfl|exact ZF) Zo) (by rfl) ?_;apply yI
   repeat refine JX.normal_block ?_
   refine JX.midZ (z14) ?_ [2,4,6,7] ?_ ?_ ?_
   · exact(by show Rv (stmtR T.e T.ts) T.ts false _;unfold stmtR;exact Rv.ite_f ht26 (Rv.ite_f ht31 (Rv.ite_f ht36 (Rv.ite_t ht41 (hz14)))))
   · exact qS
   · exact qH
   · exact qG
   rw[Z19 ht41];refine vQ ?_;refine Jm rfl ?_;refine JO.callK (Lr:=_) (Zg T b0 o0 ha h9 b21 _ ?hs _ Z5f) rfl (.refl _) qF qA ?_
   case hs=>exact List.suffix_refl _
   intro _ _;refine vD ?_;refine Ja rfl (vS [2,4,6,7,46] ?_);refine yC rfl (fun ht46=>?_) (fun ht46=>?_);rw[Z1e ht46];refine vQ ?_;refine Jm rfl ?_;refine JO.callK (Lr:=_) (Zh T b0 o0 ha h9 b21 _ ?hs _ 1 qD Z5G) rfl (.refl _) qF qA ?_
   case hs=>exact(List.tail_suffix _)
   intro z16 hz16;have hu16:z16.2.1<:+T.ts:=hz16.suf.trans (List.tail_suffix _);refine vD ?_;refine vP [2,4,6,7] ?_;refine Jq (Z0 Z2r rfl) (JO.m (Z9 (cs':=[_,_,_,_,_,_,_,_,_,_,_,_,_,_]) rfl rfl qU rfl rfl rfl rfl Z29) (by rfl) ?_);refine vP [2,4,6,7] ?_;refine Jm rfl ?_;refine JO.callK (Lr:=_) (ZY T b0 o0 ha h9 b21 _ ?hs _) rfl (.refl _) qF qA ?_
   case hs=>exact hu16
   intro n18 hn18;refine vD ?_;refine Jq (Z0 Z32 rfl) (JO.m (Z9 (cs':=[_,_,_,_,_,_,_,_,_,_,_,_,_,_]) rfl rfl qU rfl rfl rfl rfl Z2Q) (by rfl) ?_);refine vP [2,4,6,7] ?_;refine Jm rfl (JO.callK (Lr:=_) (Z3E T b0 o0 ha h9 b21 n18.2.1 (hn18.suf.trans hu16) _ (Z8Y T b0 o0 ha h9 b21 hok)) rfl (.refl _) qF qA ?_);intro w19 hw19;refine vD ?_;refine JO.openEv (s:=56) rfl (fun aw lw cw _ _=>?_);refine Jq (Z0 Z26 rfl) (JO.m (Z9 (cs':=[_,_,_,_,_,_,_,_,_,_,_,_,_,_]) rfl rfl qU rfl rfl rfl rfl Z1I) (by rfl) ?_);refine JO.coerO (T':=.rep (StR 0 ({stK 6 with tb:=n18.1,where_:=w19.1}))) qU (Sub.st rfl fun X w hf w' hk=>⟨Za (FrS.nil _),Za (FrS.nil _),Za trivial,Za trivial,Za trivial,hf _ qI w' hk,Z16,Za trivial,Z16⟩) ?_;apply yI
   repeat refine JX.normal_block ?_
   refine JX.midZ (({stK 6 with tb:=n18.1,where_:=w19.1},w19.2.1,w19.2.2)) ?_ [2,4,6,7] ?_ ?_ ?_
   · exact(by show Rv (stmtR T.e T.ts) T.ts false _;unfold stmtR;exact Rv.ite_f ht26 (Rv.ite_f ht31 (Rv.ite_f ht36 (Rv.ite_f ht41 (Rv.ite_t ht46 (by unfold removeP;exact hz16.bind (hn18.bind (Rv.map (f:=fun w:List Ex×List T3=>(({stK 6 with tb:=n18.1,where_:=w.1}:Pz.St),w.2)) hw19 rfl))))))))
   · exact qS
   · exact qH
   · exact qG
   rw[Z19 ht46];refine vQ ?_;refine Jm rfl ?_;refine JO.callK (Lr:=_) (Zg T b0 o0 ha h9 b21 _ ?hs _ Z5X) rfl (.refl _) qF qA ?_
   case hs=>exact List.suffix_refl _
   intro _ _;refine vD ?_;refine Ja rfl (vS [2,4,6,7,58] ?_);refine yC rfl (fun ht58=>?_) (fun ht58=>?_);rw[Z1e ht58];refine vQ ?_;refine Jq (Z0 Z2r rfl) (JO.m (Z9 (cs':=[_,_,_,_,_,_,_,_,_,_,_,_,_,_]) rfl rfl qU rfl rfl rfl rfl Z29) (by rfl) ?_);refine JO.coerO (T':=.rep (StR 0 (stK 7))) qU (Sub.st rfl fun X w hf w' hk=>⟨Za (FrS.nil _),Za (FrS.nil _),Za trivial,Za trivial,Za trivial,Za (FrS.nil _),Z16,Za trivial,Z16⟩) ?_;apply yI
   repeat refine JX.normal_block ?_
   refine JX.midZ ((stK 7,T.ts.tail,false)) ?_ [2,4,6,7] ?_ ?_ ?_
   · exact(by show Rv (stmtR T.e T.ts) T.ts false _;unfold stmtR;exact Rv.ite_f ht26 (Rv.ite_f ht31 (Rv.ite_f ht36 (Rv.ite_f ht41 (Rv.ite_f ht46 (Rv.ite_t ht58 (Rv.pure _)))))))
   · exact qS
   · exact qH
   · exact qG
   rw[Z19 ht58];refine vQ ?_;refine Jm rfl ?_;refine JO.callK (Lr:=_) (Zg T b0 o0 ha h9 b21 _ ?hs _ Z59) rfl (.refl _) qF qA ?_
   case hs=>exact List.suffix_refl _
   intro _ _;refine vD ?_;refine Ja rfl (vS [2,4,6,7,62] ?_);refine yC rfl (fun ht62=>?_) (fun ht62=>?_);rw[Z1e ht62];refine vQ ?_;refine Jq (Z0 Z2r rfl) (JO.m (Z9 (cs':=[_,_,_,_,_,_,_,_,_,_,_,_,_,_]) rfl rfl qU rfl rfl rfl rfl Z29) (by rfl) ?_);refine JO.coerO (T':=.rep (StR 0 (stK 8))) qU (Sub.st rfl fun X w hf w' hk=>⟨Za (FrS.nil _),Za (FrS.nil _),Za trivial,Za trivial,Za trivial,Za (FrS.nil _),Z16,Za trivial,Z16⟩) ?_;apply yI
   repeat refine JX.normal_block ?_
   refine JX.midZ ((stK 8,T.ts.tail,false)) ?_ [2,4,6,7] ?_ ?_ ?_
   · exact(by show Rv (stmtR T.e T.ts) T.ts false _;unfold stmtR;exact Rv.ite_f ht26 (Rv.ite_f ht31 (Rv.ite_f ht36 (Rv.ite_f ht41 (Rv.ite_f ht46 (Rv.ite_f ht58 (Rv.ite_t ht62 (Rv.pure _))))))))
   · exact qS
   · exact qH
   · exact qG
   rw[Z19 ht62];refine vQ ?_;refine Jm rfl ?_;refine JO.callK (Lr:=_) (Zg T b0 o0 ha h9 b21 _ ?hs _ Z3V) rfl (.refl _) qF qA ?_
   case hs=>exact List.suffix_refl _
   intro _ _;refine vD ?_;refine Ja rfl (vS [2,4,6,7,66] ?_);refine yC rfl (fun ht66=>?_) (fun ht66=>?_);rw[Z1e ht66];refine vQ ?_;refine Jq (Z0 Z2r rfl) (JO.m (Z9 (cs':=[_,_,_,_,_,_,_,_,_,_,_,_,_,_]) rfl rfl qU rfl rfl rfl rfl Z29) (by rfl) ?_);refine JO.coerO (T':=.rep (StR 0 (stK 9))) qU (Sub.st rfl fun X w hf w' hk=>⟨Za (FrS.nil _),Za (FrS.nil _),Za trivial,Za trivial,Za trivial,Za (FrS.nil _),Z16,Za trivial,Z16⟩) ?_;apply yI
   repeat refine JX.normal_block ?_
   refine JX.midZ ((stK 9,T.ts.tail,false)) ?_ [2,4,6,7] ?_ ?_ ?_
   · exact(by show Rv (stmtR T.e T.ts) T.ts false _;unfold stmtR;exact Rv.ite_f ht26 (Rv.ite_f ht31 (Rv.ite_f ht36 (Rv.ite_f ht41 (Rv.ite_f ht46 (Rv.ite_f ht58 (Rv.ite_f ht62 (Rv.ite_t ht66 (Rv.pure _)))))))))
   · exact qS
   · exact qH
   · exact qG
   rw[Z19 ht66];refine vQ ?_;refine Jm rfl (Jq (Z4 rfl) (Jq (Z0 Ze rfl) (JO.m (Z9 (cs':=[_,_,_]) rfl rfl qU rfl rfl rfl rfl Z1A) (by rfl) ?_)));refine JO.coerO (T':=.rep (StR 0 (stK 0))) qU (Sub.st rfl fun X w hf w' hk=>⟨Za (FrS.nil _),Za (FrS.nil _),Za trivial,Za trivial,Za trivial,Za (FrS.nil _),Z16,Za trivial,Z16⟩) ?_;apply yI
   repeat refine JX.normal_block ?_
   refine JX.midZ ((stK 0,T.ts,true)) ?_ [2,4,6,7] ?_ ?_ ?_
   · exact(by show Rv (stmtR T.e T.ts) T.ts false _;unfold stmtR;exact Rv.ite_f ht26 (Rv.ite_f ht31 (Rv.ite_f ht36 (Rv.ite_f ht41 (Rv.ite_f ht46 (Rv.ite_f ht58 (Rv.ite_f ht62 (Rv.ite_f ht66 (Rv.none _)))))))))
   · exact qS
   · exact qH
   · exact qG
 · intro⟨st,us,bd⟩ hst
   try dsimp only
   refine vQ ?_;refine Jm rfl ?_;refine JO.callK (Lr:=_) (ZZ T b0 o0 ha h9 b21 _ ?hs _ Z4W) rfl (.refl _) qF qA ?_
   case hs=>exact hst.suf
   intro _ _;refine vD ?_;refine vP [2,4,6,7] ?_;refine Jm rfl (Jq (Z4 rfl) (Jq (Z0 Ze rfl) (Jq (Z5 Z1O rfl rfl) (Jm rfl (JO.tg rfl rfl rfl rfl rfl (fun hg=>Z1 (.inl rfl)) (JO.tg rfl rfl rfl rfl rfl (fun hg=>Z4 (qR rfl)) ?_))))));refine JO.tg rfl rfl rfl rfl rfl (fun hg=>Z0 ZK (qR rfl)) ?_;refine JO.tg rfl rfl rfl rfl rfl (fun hg=>Z5 Zx (qR rfl) rfl) ?_;refine JO.tg rfl rfl rfl rfl rfl (fun hg=>Z1 (.inl rfl)) (JO.tg rfl rfl rfl rfl rfl (fun hg=>ZD ZR (qR rfl)) ?_);refine JO.tg rfl rfl rfl rfl rfl (fun hg=>Z28 (qR rfl) (qR rfl)) ?_;refine Jq (Zw rfl rfl rfl id) (vS [2,7,84] ?_);refine yC rfl (fun ht84=>?_) (fun ht84=>?_);have hrd:readS (lx s)=(st0,30):=Zi0 hq (by rw[<-hts];exact hok) (z:=(st,us,bd)) (by rw[<-hts];exact hst) (by rcases Bool.or_eq_true_iff.1 ht84 with h|h;exact .inl h;exact .inr fun e=>by rw[e]at h;simp[Rk.k]at h);refine vQ ?_;refine Jq (Zd (cs:=[_,_,_,_,_,_,_,_,_,_,_,_,_,_]) Z1w .nil rfl rfl) (JO.m (Z2 rfl rfl qU (by exact Zb rfl rfl) (by first|exact Zb rfl rfl|exact ZF) Zo) (by rfl) ?_);refine Ja rfl (vS [2,3] ?_);refine vR ?_;exact JX.retLC1s (Lr:=_) (A:=.rep (StR 0 st0)) (B:=.int .i64 30) rfl () trivial (.refl _) rfl hb0 rfl rfl Zj qI (ZQ rfl) rfl SrZero (by show Ty.tup2 (.rep (StR 0 (readS (lx s)).1)) (.is (.int .i64 (readS (lx s)).2))=_;rw[hrd]);apply yK
   repeat first|apply yX|apply yB
   obtain⟨hbd,hke⟩:=Bool.or_eq_false_iff.1 ht84;have hsk:skRB 5 Z4W us bd=[]:=(k_ne (T:=T) (Z3X.trans hst.suf)).1 (by simpa using hke);obtain⟨hsp,hwp⟩:=Zhc (l:=lx s) (z:=(st,us,bd)) (by rw[<-hts];exact hok) (by rw[<-hts];exact hst) hbd hsk;try dsimp only at hsp hwp
   have hsm:SmS st:=Zas hsp;have hec: ∀x∈exsOf st,ect x<=4096:=fun x hx=>Nat.le_trans (Zbc (Z2K _) (Z9V _) (Nat.le_refl _) hsp x hx) (by have h1:(lx s).1.length<=2049:=Z92 s.data.toList;omega);have hxl:=Zbz hsm;refine J.front b7 (by repeat(first|exact .here|apply Front.there)) ?_;refine J.openOwnSt fun vc vn vr vi vf vw vg vo vs h1c=>?_;refine vQ ?_;refine Jq (ZU (cs:=[_,_,_,_,_,_,_,_,_,_,_,_,_,_]) Zj rfl rfl rfl) (Jq (ZN rfl (Z7F 0 st hsm) (.sub rfl (Sub.st rfl fun X w hf w' hk=>⟨hf _ qI w' hk,hf _ qI w' hk,hf _ qI w' hk,hf _ qI w' hk,hf _ qI w' hk,hf _ qI w' hk,hf _ qI w' hk,hf _ qI w' hk,hf _ qI w' hk⟩) .nil)) ?_);refine Ja rfl (vP [2,7,8] ?_);refine Ja rfl (vS [2,7,8,9] ?_);apply yk
   repeat apply yQ
   refine J.openExs (s:=8) rfl (fun al ll cl bl ol hll hal=>?_);refine J.loopF (α:=Nat) (fun k=>[(2,_),(7,_),(8,.is (.slice al ll cl)),(9,.is (.int .i64 (k:Nat)))]) (fun k=>k<=ll/\ ∀j,j<k->¬32<hgt ((exsOf st).getD j ex0)) (fun k=>ll-k) 0 [2,7,8,9] (.cons rfl (.cons rfl (.cons rfl (.cons rfl .nil)))) ⟨Nat.zero_le _,fun j hj=>absurd hj (Nat.not_lt_zero j)⟩ fun i ⟨hi,hih⟩=>?_;refine vQ ?_;refine Jm rfl (Jm rfl (Jq (ZD Zs rfl) (Jq (Z10 rfl rfl) (vS [2,7,8,9,91] ?_))));refine yC rfl (fun ht91=>?_) (fun ht91=>?_)
   try simp only[yd,yf]at ht91
   apply yK;refine vN ?_;apply yk;refine vQ ?_;refine Jm rfl (Jm rfl (Jq (Zi Z2A rfl (hal qM) rfl qM qM) ?_));refine Jq (Z4C (i:=i) (kid:=(exsOf st).getD i ex0) Z8 rfl qI (hal qM) (Z5L qM) qM) ?_;refine Jq (ZN rfl (Z86 4096 ((exsOf st).getD i ex0) (hec _ (Z4p qM)) (hec _ (Z4p qM))) (.one rfl .nil)) ?_;refine Jq (Z1r rfl rfl) (vS [2,7,8,9,99] ?_);refine yC rfl (fun ht99=>?_) (fun ht99=>?_)
   try simp only[yd,yf]at ht99
   refine vQ ?_;refine Jq (Zd (cs:=[_,_,_,_,_,_,_,_,_,_,_,_,_,_]) Z1w .nil rfl rfl) (JO.m (Z2 rfl rfl qU (by exact Zb rfl rfl) (by first|exact Zb rfl rfl|exact ZF) Zo) (by rfl) ?_);refine Ja rfl (vS [2,3] ?_);refine vR ?_;exact JX.retLC1s (Lr:=_) (A:=.rep (StR 0 st0)) (B:=.int .i64 31) rfl () trivial (.refl _) rfl hb0 rfl rfl Zj qI (ZQ rfl) rfl SrZero (by show Ty.tup2 (.rep (StR 0 (readS (lx s)).1)) (.is (.int .i64 (readS (lx s)).2))=_;rw[ZgM hq hwp (List.any_eq_true.2 ⟨_,Z4p (xs:=exsOf st) (i:=i) qM,by rw[decide_eq_true_eq];omega⟩)])
   try simp only[yd,yf]at ht99
   apply yK;refine vN ?_;apply yN;refine Jm rfl (Jq (Zv (cc:=((i+1:Nat):Int)) rfl rfl qM qM qM) ?_);refine Ja rfl ?_;apply yI
   repeat refine JX.normal_block ?_
   refine JX.roundS (i+1) ?_ ?_ [2,7,8,9] ?_ ?_ ?_
   · exact⟨qM,fun j hj=>by rcases Nat.lt_succ_iff_lt_or_eq.1 hj with h|rfl;exact hih j h;omega⟩
   · exact qM
   · exact qS
   · exact qB
   · exact qB
   try simp only[yd,yf]at ht91
   repeat apply yQ
   refine J.exit ?_
   repeat first|refine yH ?_|refine yM rfl ?_|refine yE ?_
   refine vN ?_;apply yN;refine Jq (ZU (cs:=[_,_,_,_,_,_,_,_,_,_,_,_,_,_]) Zj rfl rfl rfl) (JO.m (Z2 rfl rfl qU (by exact Zb rfl rfl) (by exact Z9R h1c) Zo) (by rfl) ?_);refine Ja rfl (vS [2,3] ?_);refine vR ?_;exact JX.retLC1s (Lr:=_) (A:=.rep (StR 0 st)) (B:=.int .i64 0) rfl () trivial (.refl _) rfl hb0 rfl rfl Zj qI (ZQ rfl) rfl (Sub.st rfl fun X w hf w' hk=>⟨hf _ qI w' hk,hf _ qI w' hk,hf _ qI w' hk,hf _ qI w' hk,hf _ qI w' hk,hf _ qI w' hk,hf _ qI w' hk,hf _ qI w' hk,hf _ qI w' hk⟩) (by show Ty.tup2 (.rep (StR 0 (readS (lx s)).1)) (.is (.int .i64 (readS (lx s)).2))=_;rw[Zfy hq hwp (List.any_eq_false.2 fun x hx=>by obtain⟨j,hj,rfl⟩:=List.getElem_of_mem hx;have h:=hih j qM;simpa [List.getD_eq_getElem?_getD,hj] using h)])
end Go.Proofs.YtbedigkncjbggaaGreatDoor
set_option maxRecDepth 20000
namespace Go.Proofs.YtbedigkncjbggaaGreatDoor
open Go Go.Vc
open Go.Pz
theorem c_RF(s:ByteArray):CallF Tryz.prog Z9d [] [.is (.string s)] (.tup2 (.rep (StR 0 (prS s.data.toList).1)) (.is (.int .i64 (prS s.data.toList).2))):=CallL.toF (ZbV s) rfl
set_option maxHeartbeats 2000000 in
theorem Z9N(s:ByteArray)(hsz:s.data.toList.length<=140737488351232):CallF Tryz.prog Z9E [NH 0,GF,AF] [.is (.string s)] (.is (.bool true)):=
CallF.of (fn:=Tryz.f3) Tryz.func3 (n:=27) rfl rfl rfl (fun _ _=>by kernel_rfl) fun E W=>by
 have hs1:=Zi1 s.data.toList;have hPN:=fun N=>c_PF N s;have hRF:=c_RF s
 generalize prS s.data.toList=p at hs1 hPN hRF
 refine vQ ?_;refine Ja rfl (vP [0] ?_);refine Jq (Z43 rfl ZbZ qF .nil) ?_;refine Jq (Z22 rfl) (vS [0,8] ?_);refine yC rfl (fun ht8=>?_) (fun ht8=>?_);refine vQ ?_;refine Ja rfl (vS [2] ?_);refine vR ?_;exact JX.ret1is rfl rfl (by exact absurd ht8 qD);apply yK;refine vN ?_;apply yN;refine Jm rfl (Jq (Z43 rfl (hPN 0) qF qA) ?_);refine Jm rfl (Jq (Z2c rfl) (Jq (Z2d rfl) (JO.alloc ZT rfl fun b3=>(JO.m (Z2 rfl rfl qU (by exact Zb rfl rfl) (by exact ZF) Zo) (by rfl) ?_))));refine Ja rfl (vP [0,3,4] ?_);refine Jm rfl (Jq (Z43 rfl hRF (fun _ h=>by cases h) (.one rfl .nil)) ?_);refine Jm rfl (Jq (Z2c rfl) (Jq (Z2d rfl) (JO.alloc ZT rfl fun b5=>(JO.m (Z2 rfl rfl qU (by exact Zb rfl rfl) (by exact ZF) Zo) (by rfl) ?_))));refine Ja rfl (vS [3,4,5,6] ?_);refine J.front b3 (by repeat(first|exact .here|apply Front.there)) ?_;refine J.openOwnSt fun vc vn vr vi vf vw vg vo vs h1c=>?_;refine J.front b5 (by repeat(first|exact .here|apply Front.there)) ?_;refine J.openOwnSt fun vcz vnz vrz viz vfz vwz vgz voz vsz h1cz=>?_
 repeat apply yQ
 refine J.reg0 hmx qK qK ?_;refine yz (Z1 rfl) (yz (Z1 rfl) (yz (ZP rfl rfl) (yz (Z1 rfl) (yg rfl rfl rfl (fun hg=>ZU (cs:=[_,_,_,_,_,_,_,_,_,_,_,_,_,_]) Zj (.inl rfl) rfl rfl) (yg rfl rfl rfl (fun hg=>ZU (cs:=[_,_,_,_,_,_,_,_,_,_,_,_,_,_]) Zj (.inl rfl) rfl rfl) (yg rfl rfl rfl (fun hg=>ZN (.inl rfl) (ZcJ 0 0 p.1 hs1.1 hs1.2) (.sub (qR rfl) (Sub.st rfl fun X w hf w' hk=>⟨hf _ qI w' hk,hf _ qI w' hk,hf _ qI w' hk,hf _ qI w' hk,hf _ qI w' hk,hf _ qI w' hk,hf _ qI w' hk,hf _ qI w' hk,hf _ qI w' hk⟩) (.sub (qR rfl) (Sub.st rfl fun X w hf w' hk=>⟨hf _ qI w' hk,hf _ qI w' hk,hf _ qI w' hk,hf _ qI w' hk,hf _ qI w' hk,hf _ qI w' hk,hf _ qI w' hk,hf _ qI w' hk,hf _ qI w' hk⟩) .nil))) ?_))))));refine yz (Zl rfl rfl rfl id) (yz (Z2l rfl) ?_);apply yn;refine FinS.nil0 ?_;refine vS [2] ?_;refine vR ?_;exact JX.ret1is rfl rfl (by simp)
end Go.Proofs.YtbedigkncjbggaaGreatDoor
set_option maxRecDepth 100000
namespace Go.Proofs.YtbedigkncjbggaaGreatDoor
open Go Go.Vc Go.Shelf Go.ChangeShapes Go.WideShapes Go.ChangeAt Go.RowKit
theorem own:ownKnob Tryz.prog.godebug=none:=by kernel_rfl
theorem laidOut:laidOutB Tryz.prog=true:=by kernel_rfl
def litCells:DataW Unit->Array Value
 | .agg l=>(l.map fun| .lit (.int k z)=>Value.int k z|_=>undef).toArray
 |_=> #[]
def accCells:Array Value:=((List.range 16).flatMap fun i=>[Value.int .u8 (Lib.accLo i),Value.int .u8 (Lib.accHi i)]).toArray
def wsCells:Array Value:=([9,13,1,32,133,101,160,5760,5600,8192,8202,1,8232,8233,1,8239,8287,48,12288,12288,1].map fun z=>Value.int .u16 z).toArray
noncomputable def laidWorld(os:Os):World:=
 let N:=(World.settled Tryz.prog os).heap.size
 let w0:=World.holding Tryz.prog os ⟨#[.cells Lib.caseCells5 (Z4O.t 208),.cells #[.slice (some ⟨N+2,0,none⟩) 7 7,.slice none 0 0,.int .i64 2] 217,.cells wsCells 220],#[],[]⟩
 let put (h:Array Obj) (g:Nat) (cs:Array Value):Array Obj:=h.modify g fun
  | .cells _ t frozen=>.cells cs t frozen
  |o=>o
 let h0:=put w0.heap 0 (litCells Rows.laid_strings_asciiSpace)
 let h3:=put h0 3 #[.slice (some ⟨N,0,none⟩) 336 336]
 let h4:=put h3 4 #[.pointer (some ⟨N+1,0,none⟩)]
 let h5:=put h4 5 (Lib.firstTab.map fun z=>Value.int .u8 z).toArray
 let h6:=put h5 6 accCells
 let h2:=put h6 2 (litCells Rows.laid_internal_strconv_uint64pow10)
 let h7:=put h2 7 (litCells Rows.laid_math_bits_deBruijn32tab)
 let h8:=put h7 8 (litCells Rows.laid_math_bits_deBruijn64tab)
 {w0 with heap:=h8}
noncomputable abbrev N0:Nat:=(World.settled Tryz.prog default).heap.size
noncomputable abbrev LW(os:Os)(args:Array Value):World:=((laidWorld os).forCall (fun _ _=>0) ⟨#[],args,[]⟩).memory
theorem Zfw(os:Os)(args:Array Value):LaidIn Tryz.prog (LW os args) [("unicode/utf8.acceptRanges",Rows.laid_unicode_utf8_acceptRanges)] [6]:=
 LaidIn.of_run [6] 8 qK qK qK qK
theorem ZdL(os:Os)(args:Array Value):LaidIn Tryz.prog (LW os args) [("unicode/utf8.first",Rows.laid_unicode_utf8_first)] [5]:=
 LaidIn.of_run [5] 8 qK qK qK qK
theorem Zdr{P:Program}{ρ:Ren}(L:Lays.n274 P ρ)(t206:P.underlying (ρ.t 206)=some (.array 3 (ρ.t 21)))(X:CaseExtra P ρ){w:World}(R:Nat)(t:TypeId)(hgR:ρ.g 13≠R)
   (hvar:w.heap[ρ.g 13]? =some (.cells #[.slice (some ⟨R,0,none⟩) Lib.caseA.size Lib.caseA.size] (ρ.t 162) (0,0)))
   (hblk:w.heap[R]? =some (.cells Lib.caseCells5 t (0,0))):LaidIn P w [("unicode.CaseRanges",Lib.caseData)] [ρ.g 13,R]:=by
 have hT:=caseTab_of_block hblk;have hread:=case_slice_reads L t206 X hT caseA_wf (by rw[Lib.caseA_size];unfold maxLen;omega) 0;rw[case_rows_data]at hread;have hv:w.var? P "unicode.CaseRanges"=some #[.slice (some ⟨R,0,none⟩) Lib.caseA.size Lib.caseA.size]:=by simp[World.var?,X.n13,hvar]
 refine LaidIn.one (cs:= #[.slice (some ⟨R,0,none⟩) Lib.caseA.size Lib.caseA.size]) [ρ.g 13,R] X.n13 X.y13 hv hread ?_ ?_ ?_
 · refine List.nodup_append.2 ⟨row_nodup _ _,row_nodup _ _,?_⟩
   intro a ha b hb e;obtain⟨i,_,rfl⟩:=MemPlace.mem_row.1 ha;obtain⟨j,_,rfl⟩:=MemPlace.mem_row.1 hb
   simp at e
   exact hgR e.1
 · intro b off hp
   rcases List.mem_append.1 hp with hp|hp
   · obtain⟨i,hi,e⟩:=MemPlace.mem_row.1 hp
     cases e;refine⟨⟨_,_,hvar⟩,fun u v hc=>?_⟩;obtain rfl:i=0:=by simp at hi;omega
     rw[Lib.cell_of_heap hvar]at hc
     simp at hc
   · obtain⟨i,hi,e⟩:=MemPlace.mem_row.1 hp
     cases e;refine⟨⟨_,_,hblk⟩,fun u v hc=>?_⟩;obtain⟨c0,c1,c2,c3,c4⟩:=hT (i / 5) qM;have hi5:0+i=0+i / 5*5+i % 5:=by omega
     simp only at hc;rw[hi5]at hc;have hm:i % 5<5:=Nat.mod_lt _ qM
     match hk:i % 5,hm with
     |0,_=>rw[hk,Nat.add_zero,c0]at hc;cases hc
     |1,_=>rw[hk,c1]at hc;cases hc
     |2,_=>rw[hk,c2]at hc;cases hc
     |3,_=>rw[hk,c3]at hc;cases hc
     |4,_=>rw[hk,c4]at hc;cases hc
 · intro x hx
   rcases List.mem_append.1 hx with hx|hx
   · obtain⟨i,_,rfl⟩:=MemPlace.mem_row.1 hx
     exact List.mem_cons_self
   · obtain⟨i,_,rfl⟩:=MemPlace.mem_row.1 hx
     exact List.mem_cons_of_mem _ List.mem_cons_self
theorem caseX:CaseExtra Tryz.prog Z4O:=⟨by kernel_rfl,by kernel_rfl,by kernel_rfl,by kernel_rfl,by kernel_rfl,by kernel_rfl⟩
theorem ZeF(os:Os)(args:Array Value):LaidIn Tryz.prog (LW os args) [("unicode.CaseRanges",Rows.laid_unicode_CaseRanges)] [3,N0]:=by
 show LaidIn Tryz.prog (LW os args) [("unicode.CaseRanges",Go.Pinned.caseRanges)] [3,N0];rw[Pinned.caseRanges_eq];exact Zdr {lays158 with} lays158.t206 caseX N0 (Z4O.t 208) (of_decide_eq_true qK) qK qK
theorem Zg3(os:Os)(args:Array Value):LaidIn Tryz.prog (LW os args) [("unicode.White_Space",Rows.laid_unicode_White_Space)] [4,N0+1,N0+2]:=
 LaidIn.of_run [4,N0+1,N0+2] 8 qK qK qK qK
theorem Zfr(os:Os)(args:Array Value):LaidIn Tryz.prog (LW os args) [("strings.asciiSpace",Rows.laid_strings_asciiSpace)] [0]:=
 LaidIn.of_run [0] 8 qK qK qK qK
theorem Zfn(os:Os)(args:Array Value):laidMet Tryz.prog Rows.parseOnceRow.laid (LW os args):=
 (((((Zfw os args).append (Zg3 os args) qK).append (Zfr os args) qK).append (ZeF os args) qK).append (ZdL os args) qK).met
end Go.Proofs.YtbedigkncjbggaaGreatDoor
set_option maxRecDepth 100000
namespace Go.Proofs.YtbedigkncjbggaaGreatDoor
open Go Go.Vc Go.ChangeShapes Go.WideShapes Go.ChangeAt Go.RowKit
theorem ZeQ{W:World}(h:W.ShapedOpen Tryz.prog):GF W:=
 cell_of_shapedOpen_int (zero:= #[.int .i64 0]) (t:=3) h (of_decide_eq_true qK) qK rfl qK qK Tryz.underlying3
theorem ZeZ{W:World}{a:Addr}{v:Value}(h:W.cell? a=some v): ∀w',Keeps noX W w'->w'.cell? a=some v:=fun w' hk=>by
 unfold World.cell? at h ⊢;cases hb:W.heap[a.block]? with
 |none=>rw[hb]at h;simp at h
 |some o=>
   rw[hk.get hb (fun h=>h)];rw[hb]at h;exact h
theorem Zh1{W:World}(h:GF W):Pers noX W GF:=fun w' hk=>by
 obtain⟨m,hm⟩:=h;exact⟨m,ZeZ hm w' hk⟩
theorem ZfR:Tryz.prog.readableRec ZJ=true/\ZJ<Tryz.prog.types.size:=⟨by kernel_rfl,of_decide_eq_true qK⟩
theorem size1{H:Type}{l:List UInt8}(h:(DataW.weightsEach (H:=H) Tryz.prog [ZJ] [.lit (.string l)]).all (· <=reachBytes)=true):l.length<=140737488351232:=by
 simp only[DataW.weightsEach,DataW.weights,List.append_nil,List.all_cons,List.all_nil,Bool.and_true,decide_eq_true_eq]at h;exact h
theorem Zhk{W:World}(h:laidMetH Tryz.prog Rows.parseOnceRow.laid W):AF W:=by
 have h1:laidMet Tryz.prog Rows.parseOnceRow.laid W:=h;exact Lib.tabIs_of_head (t:=187) (e:=5) (n:=256) (by kernel_rfl:Tryz.prog.globalNamed "strings.asciiSpace"=some 0) qK qK qK qK qK (laidMet.tail (laidMet.tail h1))
theorem ZhL{W:World}(h:AF W):Pers noX W AF:=fun w' hk=>
 Joins.tab_stays (by kernel_rfl:Tryz.prog.globalNamed "strings.asciiSpace"=some 0) h hk.below (Nat.le_refl _)
end Go.Proofs.YtbedigkncjbggaaGreatDoor
set_option maxRecDepth 100000
namespace Go.Proofs.YtbedigkncjbggaaGreatDoor
open Go Go.Vc Go.ChangeShapes Go.WideShapes Go.ChangeAt Go.RowKit
open Go.ChangeMaps (open_string)
theorem ZaT(os:Os)(args:Array Value):laidMet Tryz.prog Rows.parseReadsRow.laid (LW os args):=Zfn os args
theorem Z9Q(os:Os){H:Type}(enc:TypeId×Value->H):
  (OpenSpec.ofChange Rows.parseReadsSpec).preRow enc Tryz.prog Tryz.f3 Rows.parseReadsRow.domain false Rows.parseReadsRow.laid (LW os #[.string ⟨#[]⟩]) #[.string ⟨#[]⟩]:=by
 have hw:(DataW.whole enc Tryz.prog (LW os #[.string ⟨#[]⟩]) Tryz.f3.params.toList Rows.parseReadsSpec.vars false (#[.string ⟨#[]⟩]:Array Value).toList 8).map (fun x=>(x.1,x.2.1))=some ([.lit (.string [])],[]):=by kernel_rfl
 obtain⟨⟨x1,x2,x3⟩,hx,hx1⟩:=Option.map_eq_some_iff.1 hw;simp only[Prod.mk.injEq]at hx1;obtain⟨rfl,rfl⟩:=hx1;exact OpenSpec.preRow_of_cond 8 hx qK (fun k hk=>by cases hk) qK (ZaT os _)
set_option maxHeartbeats 2000000 in
theorem Za5(os:Os)(started:os.Started)(H:Type)(enc:TypeId×Value->H)(F:Stop.Interp):
   ReturnsInHanded {} Tryz.checked os 3 .any ((OpenSpec.ofChange Rows.parseReadsSpec).preRow enc Tryz.prog Tryz.f3 Rows.parseReadsRow.domain false Rows.parseReadsRow.laid) (((OpenSpec.ofChange Rows.parseReadsSpec).at F).post enc Tryz.prog Tryz.f3 false true false false):=by
 refine returnsInHanded_of_row (C:=Tryz.checked) (s:=OpenSpec.ofChange Rows.parseReadsSpec) own started qK Tryz.func3
   (witness_row_atRef (enc:=enc) (C:=Tryz.checked) false (laidWorld os) #[.string ⟨#[]⟩] rfl qK qK qK (Z9Q os enc)) ?_
 intro W base args ds gs before hval0 hW _ _ hsz0 hL hsh _;have hW':=hW;obtain⟨p,q,hA0,hV,rfl,hfz,hnd⟩:=hW;have hA:DataW.TrodAll enc Tryz.prog W 0 (fun _=>true) true [ZJ] args.toList ds p:=hA0;have hgf:=Zh1 (ZeQ hsh);have haf:=ZhL (Zhk hL);obtain⟨v0,d0,rfl,rfl,h0⟩:=trodAll_one hA;obtain⟨rfl,rfl⟩:=trodVars_none hV;obtain⟨s,rfl,rfl,rfl,_⟩:=open_string Zf (hval0 0 ZJ v0 rfl rfl) h0;have hsz:(DataW.weightsEach (H:=H) Tryz.prog [ZJ] [.lit (.string s.data.toList)]).all (· <=reachBytes)=true:=hsz0;refine((Z9N s (by exact size1 hsz)).calls noX W [.string s] (fun _ h=>h.elim) (fun F hF=>by rcases yc.1 hF with rfl|hF;exact fun w' _=>Nat.zero_le _;rcases yc.1 hF with rfl|hF;exact hgf;rcases yc.1 hF with rfl|hF;exact haf;cases hF) ⟨rfl,trivial⟩).mono fun e W' ⟨v,he,hk,hR⟩=>?_;subst he;have hR':v= .bool true:=hR;subst hR';exact⟨_,rfl,ZeR (f:=Tryz.f3) (s:=Rows.parseReadsSpec) (tB:=Ze7) laidOut (mem1 ZfR) qK qK rfl rfl rfl rfl hW' hk⟩
theorem ZaR:Rows.ParseReadsSaid:=
 OpenClaim.holds_of_cond 3 Tryz.f3 rfl rfl rfl rfl rfl rfl rfl ⟨rfl,rfl,rfl,rfl,rfl⟩ rfl rfl rfl rfl rfl qK Tryz.func3 qK
  (of_decide_eq_true qK) (by unfold Func.isWrapper;first|(rw[if_pos (by decide+kernel)];kernel_rfl)|(rw[if_neg (by decide+kernel)];exact⟨rfl,rfl⟩))
  (fun os started H enc _ F=>by rw[OpenClaim.pre_eq_preRow];exact Za5 os started H enc F)
theorem Zar(f:FuncId)(fn:Func)(hf:Tryz.pinned.checked.prog.funcNamed "cadastre/cadastrelaw10.ParseReads"=some f)(hfn:Tryz.pinned.checked.prog.funcs[f]? =some fn):
  true=Tryz.pinned.checked.prog.looks []/\ ∀(j:Nat) t,fn.params[j]? =some t->Tryz.pinned.checked.prog.wantsStandIn t=false:=by
 obtain rfl:f=3:=Option.some.inj ((show Tryz.prog.funcNamed "cadastre/cadastrelaw10.ParseReads"=some 3 by kernel_rfl).symm.trans hf)|>.symm
 obtain rfl:fn=Tryz.f3:=(Option.some.inj (Tryz.func3.symm.trans hfn)).symm;refine⟨by kernel_rfl,fun j t ht=>?_⟩;have hp:Tryz.f3.params= #[ZJ]:=by kernel_rfl
 rw[hp]at ht;obtain rfl:t=ZJ:=by simpa using Array.mem_of_getElem? ht
 exact(show Tryz.prog.wantsStandIn ZJ=false by kernel_rfl)
theorem parseReads_card : Rows.ParseReadsCardSaid :=
 Claim7.holds_tied_plain_at .later [] _ _ _ _ ZaR (fun _ h => by cases h) qK (fun _ h => by cases h) parseReads_row_tie rfl ⟨rfl, rfl⟩ qK rfl Zar qK
#print axioms parseReads_card
end Go.Proofs.YtbedigkncjbggaaGreatDoor
