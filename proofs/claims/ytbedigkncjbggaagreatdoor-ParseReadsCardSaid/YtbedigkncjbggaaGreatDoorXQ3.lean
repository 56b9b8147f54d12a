/- The parser: sums, products, AND, OR. No condition. -/
import Derived.Test.YtbedigkncjbggaaGreatDoorXQ2
import Derived.Test.YtbedigkncjbggaaGreatDoorXG7
import Derived.Test.YtbedigkncjbggaaGreatDoorXQ1
set_option maxRecDepth 20000
namespace Go.Proofs.YtbedigkncjbggaaGreatDoor
open Go Go.Vc
open Go.Pz
theorem Z6W(T:Tk)(hc:T.ts.length<=T.cap)(b:Nat)(ts:List T3)(hts:ts<:+T.ts)(e:Ps Ex)(he:Dn0 e)(hpart: ∀us,us<:+T.ts->us.length<=ts.length->CallP Tryz.prog Z1Y [PB T b (us)] [T.G,AF] [.is (.pointer (some ⟨b,0,none⟩))] (factorP e (us)=none) flt (fun z:Ex×List T3=>factorP e (us)=some z) (fun z=>[PB T b z.2]) (fun z=>.rep (ExR z.1))):CallP Tryz.prog Z2H [PB T b ts] [T.G,AF] [.is (.pointer (some ⟨b,0,none⟩))] (prodP e ts=none) flt (fun z:Ex×List T3=>prodP e ts=some z) (fun z=>[PB T b z.2]) (fun z=>.rep (ExR z.1)):=
CallP.of (fn:=Tryz.f189) Tryz.func189 (n:=7) rfl rfl rfl (fun _ _=>by kernel_rfl) fun E W hb0=>by
 refine vQ ?_;refine JO.alloc Z14 rfl fun b2=>(vP [0,2] ?_);refine Jm rfl (Jq (ZI (cs:=[_,_,_]) Z25 qM qM (.cons rfl (.cons rfl (.cons rfl .nil))) rfl rfl rfl) ?_);refine Jq (ZI (cs:=[_,_,_]) Z7z qM qM (.cons rfl (.cons rfl (.cons rfl .nil))) rfl rfl rfl) ?_;refine JO.callPK (Lr:=[_]) (Z2N T hc b ts hts (factorP e) (Z4B he) 5 mulO qD Z1Y hpart) rfl (.swap _ _ _) qF (.one rfl (.one rfl (.one rfl (.sub rfl (Sub.newSlG (en:=sC) (sz:=1) (xs:=[Z1g,Z2x,Z3x]) (fun _=>rfl) rfl rfl) (.sub rfl (Sub.newSlG (en:=iC) (sz:=1) (xs:=[7,8,9]) (fun _=>rfl) rfl rfl) .nil))))) (fun hbad=>?_) ?_
 · exact JX.pnI (hbad)
 intro z hz;refine vD ?_;refine JO.m (Z2 rfl rfl qU qC qO Zc) (by rfl) ?_;refine vS [2] ?_;refine vR ?_;refine JX.toP ?_;exact JX.retLCs (Lr:=[_]) rfl z hz (.refl _) rfl rfl hb0 rfl Z8 HasOwn.mem Z1E (Sub.refl _)
theorem Z9a(T:Tk)(hc:T.ts.length<=T.cap)(b:Nat)(ts:List T3)(hts:ts<:+T.ts)(e:Ps Ex)(he:Dn0 e)(hpart: ∀us,us<:+T.ts->us.length<=ts.length->CallP Tryz.prog Z2H [PB T b (us)] [T.G,AF] [.is (.pointer (some ⟨b,0,none⟩))] (prodP e (us)=none) flt (fun z:Ex×List T3=>prodP e (us)=some z) (fun z=>[PB T b z.2]) (fun z=>.rep (ExR z.1))):CallP Tryz.prog Z38 [PB T b ts] [T.G,AF] [.is (.pointer (some ⟨b,0,none⟩))] (sumP e ts=none) flt (fun z:Ex×List T3=>sumP e ts=some z) (fun z=>[PB T b z.2]) (fun z=>.rep (ExR z.1)):=
CallP.of (fn:=Tryz.f178) Tryz.func178 (n:=7) rfl rfl rfl (fun _ _=>by kernel_rfl) fun E W hb0=>by
 refine vQ ?_;refine JO.alloc Z14 rfl fun b2=>(vP [0,2] ?_);refine Jm rfl (Jq (ZI (cs:=[_,_]) Z25 qM qM (.cons rfl (.cons rfl .nil)) rfl rfl rfl) ?_);refine Jq (ZI (cs:=[_,_]) Z7z qM qM (.cons rfl (.cons rfl .nil)) rfl rfl rfl) ?_;refine JO.callPK (Lr:=[_]) (Z2N T hc b ts hts (prodP e) (Z72 he) 5 addO qD Z2H hpart) rfl (.swap _ _ _) qF (.one rfl (.one rfl (.one rfl (.sub rfl (Sub.newSlG (en:=sC) (sz:=1) (xs:=[Z2O,Z1s]) (fun _=>rfl) rfl rfl) (.sub rfl (Sub.newSlG (en:=iC) (sz:=1) (xs:=[5,6]) (fun _=>rfl) rfl rfl) .nil))))) (fun hbad=>?_) ?_
 · exact JX.pnI (hbad)
 intro z hz;refine vD ?_;refine JO.m (Z2 rfl rfl qU qC qO Zc) (by rfl) ?_;refine vS [2] ?_;refine vR ?_;refine JX.toP ?_;exact JX.retLCs (Lr:=[_]) rfl z hz (.refl _) rfl rfl hb0 rfl Z8 HasOwn.mem Z1E (Sub.refl _)
theorem Z8S(T:Tk)(hc:T.ts.length<=T.cap)(b:Nat)(ts:List T3)(hts:ts<:+T.ts)(e:Ps Ex)(he:Dn0 e)(hpart: ∀us,us<:+T.ts->us.length<=ts.length->CallP Tryz.prog Z2h [PB T b (us)] [T.G,AF] [.is (.pointer (some ⟨b,0,none⟩))] (notP e (us)=none) flt (fun z:Ex×List T3=>notP e (us)=some z) (fun z=>[PB T b z.2]) (fun z=>.rep (ExR z.1))):CallP Tryz.prog Z3c [PB T b ts] [T.G,AF] [.is (.pointer (some ⟨b,0,none⟩))] (andP e ts=none) flt (fun z:Ex×List T3=>andP e ts=some z) (fun z=>[PB T b z.2]) (fun z=>.rep (ExR z.1)):=
CallP.of (fn:=Tryz.f146) Tryz.func146 (n:=7) rfl rfl rfl (fun _ _=>by kernel_rfl) fun E W hb0=>by
 refine vQ ?_;refine JO.alloc Z14 rfl fun b2=>(vP [0,2] ?_);refine Jm rfl (Jq (ZI (cs:=[_]) Z25 qM qM (.cons rfl .nil) rfl rfl rfl) ?_);refine Jq (ZI (cs:=[_]) Z7z qM qM (.cons rfl .nil) rfl rfl rfl) ?_;refine JO.callPK (Lr:=[_]) (Z2N T hc b ts hts (notP e) (Z6H he) 1 [(Z1U,16)] qD Z2h hpart) rfl (.swap _ _ _) qF (.one rfl (.one rfl (.one rfl (.sub rfl (Sub.newSlG (en:=sC) (sz:=1) (xs:=[Z1U]) (fun _=>rfl) rfl rfl) (.sub rfl (Sub.newSlG (en:=iC) (sz:=1) (xs:=[16]) (fun _=>rfl) rfl rfl) .nil))))) (fun hbad=>?_) ?_
 · exact JX.pnI (hbad)
 intro z hz;refine vD ?_;refine JO.m (Z2 rfl rfl qU qC qO Zc) (by rfl) ?_;refine vS [2] ?_;refine vR ?_;refine JX.toP ?_;exact JX.retLCs (Lr:=[_]) rfl z hz (.refl _) rfl rfl hb0 rfl Z8 HasOwn.mem Z1E (Sub.refl _)
theorem Z8e(T:Tk)(hc:T.ts.length<=T.cap)(b:Nat)(ts:List T3)(hts:ts<:+T.ts)(e:Ps Ex)(he:Dn0 e)(hpart: ∀us,us<:+T.ts->us.length<=ts.length->CallP Tryz.prog Z3c [PB T b (us)] [T.G,AF] [.is (.pointer (some ⟨b,0,none⟩))] (andP e (us)=none) flt (fun z:Ex×List T3=>andP e (us)=some z) (fun z=>[PB T b z.2]) (fun z=>.rep (ExR z.1))):CallP Tryz.prog ZO [PB T b ts] [T.G,AF] [.is (.pointer (some ⟨b,0,none⟩))] (orP e ts=none) flt (fun z:Ex×List T3=>orP e ts=some z) (fun z=>[PB T b z.2]) (fun z=>.rep (ExR z.1)):=
CallP.of (fn:=Tryz.f113) Tryz.func113 (n:=7) rfl rfl rfl (fun _ _=>by kernel_rfl) fun E W hb0=>by
 refine vQ ?_;refine JO.alloc Z14 rfl fun b2=>(vP [0,2] ?_);refine Jm rfl (Jq (ZI (cs:=[_]) Z25 qM qM (.cons rfl .nil) rfl rfl rfl) ?_);refine Jq (ZI (cs:=[_]) Z7z qM qM (.cons rfl .nil) rfl rfl rfl) ?_;refine JO.callPK (Lr:=[_]) (Z2N T hc b ts hts (andP e) (Z8h he) 1 [(w_OR,17)] qD Z3c hpart) rfl (.swap _ _ _) qF (.one rfl (.one rfl (.one rfl (.sub rfl (Sub.newSlG (en:=sC) (sz:=1) (xs:=[w_OR]) (fun _=>rfl) rfl rfl) (.sub rfl (Sub.newSlG (en:=iC) (sz:=1) (xs:=[17]) (fun _=>rfl) rfl rfl) .nil))))) (fun hbad=>?_) ?_
 · exact JX.pnI (hbad)
 intro z hz;refine vD ?_;refine JO.m (Z2 rfl rfl qU qC qO Zc) (by rfl) ?_;refine vS [2] ?_;refine vR ?_;refine JX.toP ?_;exact JX.retLCs (Lr:=[_]) rfl z hz (.refl _) rfl rfl hb0 rfl Z8 HasOwn.mem Z1E (Sub.refl _)
theorem ZfP{e:Ps Ex}{ts:List T3}(h:isT 1 Z1d ts=true):notP e ts=(notP e ts.tail).map fun z=>(nd 4 [z.1],z.2):=by
 obtain⟨t,r,rfl,_⟩:=Z5a h;rw[notP,if_pos h];rfl
theorem Z4P{e:Ps Ex}{ts:List T3}(h:isT 1 Z1d ts=false):notP e ts=(sumP e ts).bind fun z=>cmpP e z.1 z.2:=by
 cases ts with
 |nil=>rw[notP]
 |cons t r=>rw[notP,if_neg (by rw[h];decide)]
abbrev cmpV:List Value:=[.string s_eq,.string s_ne,.string s_lt,.string s_le,.string s_gt,.string s_ge]
theorem Ziy{i:Nat}(h:i<6):cmpV[0+((i:Nat):Int).toNat*1]? =some (.string (cmpO.getD i (em,0)).1):=by
 match i,h with
 |0,_=>rfl
 |1,_=>rfl
 |2,_=>rfl
 |3,_=>rfl
 |4,_=>rfl
 |5,_=>rfl
theorem ZiK{i:Nat}(h:i<6):IntKind.i64.wrap (10+((i:Nat):Int))=(cmpO.getD i (em,0)).2:=by
 match i,h with
 |0,_=>rfl
 |1,_=>rfl
 |2,_=>rfl
 |3,_=>rfl
 |4,_=>rfl
 |5,_=>rfl
theorem asc{s:ByteArray}(h:s.data.toList.all (fun b=>decide (b.toNat<128))=true)(j:Nat)(b:UInt8)(hb:s.data.toList[j]? =some b):b.toNat<128:=of_decide_eq_true (List.all_eq_true.1 h b (List.mem_of_getElem? hb))
theorem Z6C(T:Tk)(hc:T.ts.length<=T.cap)(b:Nat)(ts:List T3)(hts:ts<:+T.ts)(e:Ps Ex)(he:Dn0 e)(hsum: ∀us,us<:+T.ts->us.length<=ts.length->CallP Tryz.prog Z38 [PB T b (us)] [T.G,AF] [.is (.pointer (some ⟨b,0,none⟩))] (sumP e (us)=none) flt (fun z:Ex×List T3=>sumP e (us)=some z) (fun z=>[PB T b z.2]) (fun z=>.rep (ExR z.1)))(ih: ∀us,us<:+T.ts->us.length<ts.length->CallP Tryz.prog Z2h [PB T b (us)] [T.G,AF] [.is (.pointer (some ⟨b,0,none⟩))] (notP e (us)=none) flt (fun z:Ex×List T3=>notP e (us)=some z) (fun z=>[PB T b z.2]) (fun z=>.rep (ExR z.1))):CallP Tryz.prog Z2h [PB T b ts] [T.G,AF] [.is (.pointer (some ⟨b,0,none⟩))] (notP e ts=none) flt (fun z:Ex×List T3=>notP e ts=some z) (fun z=>[PB T b z.2]) (fun z=>.rep (ExR z.1)):=
CallP.of (fn:=Tryz.f165) Tryz.func165 (n:=48) rfl rfl rfl (fun _ _=>by kernel_rfl) fun E W hb0=>by
 refine vQ ?_;refine JO.alloc Z14 rfl fun b2=>(vP [0,2] ?_);refine Jm rfl (JO.callK (Lr:=[_]) (Zu T hc b ts hts Z1d) rfl (.swap _ _ _) qF qA ?_);intro _ _;refine vD ?_;refine vS [0,2,7] ?_;refine yC rfl (fun ht7=>?_) (fun ht7=>?_);have hnn:isT 1 Z1d ts=true:=ht7;rw[Z1z hnn];refine vQ ?_;refine Jm rfl ?_;refine JO.callPK (Lr:=[_]) (ih ts.tail (ZH hts) (ZG hnn).2) rfl (.refl _) qF qA (fun hbad=>?_) ?_
 · exact JX.pnI (by rw[ZfP hnn,hbad];rfl)
 intro z hz;refine vD ?_;refine Jq (Z1T Zy rfl) (Jq (ZN rfl (Z2R 4 [z.1]) qA) ?_);refine JO.m (Z2 rfl rfl qU qC qO Zc) (by rfl) ?_;refine vS [2] ?_;refine vR ?_;refine JX.toP ?_;exact JX.retLCs (Lr:=[_]) rfl (nd 4 [z.1],z.2) (by rw[ZfP hnn,hz];rfl) (.refl _) rfl rfl hb0 rfl Z8 HasOwn.mem Z1E (Sub.refl _);apply yK
 repeat first|apply yX|apply yB
 have hnn:isT 1 Z1d ts=false:=ht7;rw[Z21 hnn];refine vQ ?_;refine Jm rfl ?_;refine JO.callPK (Lr:=[_]) (hsum ts hts (Nat.le_refl _)) rfl (.refl _) qF qA (fun hbad=>?_) ?_
 · exact JX.pnI (by rw[Z4P hnn,hbad];rfl)
 intro z1 hz1;refine vD ?_;refine JO.alloc Z14 rfl fun b3=>(JO.m (Z2 rfl rfl qU qC qO Zc) (by rfl) ?_);refine vP [0,2,3] ?_;refine Jq (ZI (cs:=[_,_,_,_,_,_]) Z25 qM qM (.cons rfl (.cons rfl (.cons rfl (.cons rfl (.cons rfl (.cons rfl .nil)))))) rfl rfl rfl) ?_;refine JO.openNew (s:=14) rfl (fun r14=>?_);refine Jq (ZD Z1K rfl) (Jm rfl (vS [0,2,3,14,15,16] ?_));apply yk
 repeat apply yQ
 refine J.loopG (α:=Nat) (fun i=>[(0,.is (.pointer (some ⟨b,0,none⟩))),(2,.is (.pointer (some ⟨b2,0,none⟩))),(3,.is (.pointer (some ⟨b3,0,none⟩))),(14,.is (.slice (some ⟨r14,0,none⟩) 6 6)),(15,.is (.int .i64 6)),(16,.is (.int .i64 (i:Int)))]) (fun i=>[⟨b3,Z7,.rep (ExR z1.1)⟩,PB T b z1.2,⟨b2,Z7,.is (.agg #[.int .i64 0,.int .i64 0,.int .i64 0,.string ⟨#[]⟩,.string ⟨#[]⟩,.string ⟨#[]⟩,.int .i64 0,.slice none 0 0])⟩]) (fun i=>fun _=>True) (fun i=>i<=6/\opOf 5 (cmpO.drop i) z1.2=opOf 5 cmpO z1.2) (fun i=>6-i) 0 [0,2,3,14,15,16] (.cons rfl (.cons rfl (.cons rfl (.cons rfl (.cons rfl (.cons rfl .nil)))))) rfl (fun _=>trivial) ⟨by omega,rfl⟩ fun i ⟨hi,hO⟩=>?_;refine vQ ?_;refine Jq (Z10 rfl rfl) (vS [0,2,3,14,15,16,17] ?_);refine yC rfl (fun ht17=>?_) (fun ht17=>?_)
 try simp only[yd,yf]at ht17
 apply yK;refine vN ?_;apply yk;refine vQ ?_;refine Jm rfl (Jq (Zi Z3m rfl rfl rfl qM qM) ?_);refine Jq (Z83 (cs:=cmpV) (u:=.string (cmpO.getD i (em,0)).1) Zr rfl qI (Ziy qM)) ?_;refine Ja rfl (Ja rfl (vP [0,2,3,4,5,14,15,16] ?_));refine Jm rfl (Jm rfl (JO.callK (Lr:=[_,_]) (ZE T hc b z1.2 ((Z3k he _ _ hz1).1.trans hts) (cmpO.getD i (em,0)).1) rfl (.swap _ _ _) qF qA ?_));intro _ _;refine vD ?_;refine vS [0,2,3,4,14,15,16,23] ?_;refine yC rfl (fun ht23=>?_) (fun ht23=>?_);have hit:isT 5 (cmpO.getD i (em,0)).1 z1.2=true:=ht23;have hop:opOf 5 cmpO z1.2=some (cmpO.getD i (em,0)).2:=by rw[<-hO,Z5o (ops:=cmpO) (by show i<6;omega),if_pos hit]
 rw[Z1z hit]
 repeat apply yQ
 refine J.regBgPm (Bad:=sumP e z1.2.tail=none) (ch:=flt) (G:={z:Ex×List T3 // sumP e z1.2.tail=some z}) 4 6 (fun hbad=>?_) (fun g=>.rep (ExR g.1.1)) (fun g=>[PB T b g.1.2]++[⟨b3,Z7,.rep (ExR z1.1)⟩,⟨b2,Z7,.is (.agg #[.int .i64 0,.int .i64 0,.int .i64 0,.string ⟨#[]⟩,.string ⟨#[]⟩,.string ⟨#[]⟩,.int .i64 0,.slice none 0 0])⟩]) ([⟨b3,Z7,.rep (ExR z1.1)⟩,⟨b2,Z7,.is (.agg #[.int .i64 0,.int .i64 0,.int .i64 0,.string ⟨#[]⟩,.string ⟨#[]⟩,.string ⟨#[]⟩,.int .i64 0,.slice none 0 0])⟩]) rfl rfl rfl rfl hmx qK rfl qK (fun _ h=>List.mem_cons_of_mem _ h) (fun g o ho=>List.mem_cons_of_mem _ ho) qK ?_
 · exact JX.pnI (by rw[Z4P hnn,hz1];show cmpP e z1.1 z1.2=none;unfold cmpP;rw[hop];dsimp only;rw[hbad];rfl)
 refine yz (Z1 rfl) (yz (ZhE (cc:=(cmpO.getD i (em,0)).2) rfl rfl (ZiK qM)) ?_);refine yz (Z1J Z8 rfl) (yz (Z1 rfl) ?_);refine RT.biggP (Lq:=[⟨b3,Z7,.rep (ExR z1.1)⟩,⟨b2,Z7,.is (.agg #[.int .i64 0,.int .i64 0,.int .i64 0,.string ⟨#[]⟩,.string ⟨#[]⟩,.string ⟨#[]⟩,.int .i64 0,.slice none 0 0])⟩]) (Z6g rfl (hsum z1.2.tail (ZH ((Z3k he _ _ hz1).1.trans hts)) (by have:=(ZG hit).2;have:=(Z3k he _ _ hz1).2;omega)) (.refl _) qF qA) (fun g=>?_);refine yz (Z68 Zy rfl rfl) ?_;apply yn;obtain⟨z,hg2⟩:=g;try dsimp only
 refine Jq (ZN rfl (Z2R (cmpO.getD i (em,0)).2 [z1.1,z.1]) qA) ?_;refine JO.m (Z2 rfl rfl qU qC qO Zc) (by rfl) ?_;refine vS [2] ?_;refine vR ?_;refine JX.toP ?_;exact JX.retLCs (Lr:=[_,_]) rfl (nd (cmpO.getD i (em,0)).2 [z1.1,z.1],z.2) (by rw[Z4P hnn,hz1];show cmpP e z1.1 z1.2=_;unfold cmpP;rw[hop];dsimp only;rw[hg2];rfl) (.refl _) rfl rfl hb0 rfl Z8 HasOwn.mem Z1E (Sub.refl _);apply yK
 repeat first|apply yX|apply yB
 rw[Z21 ht23];refine vQ ?_;refine Jq (Zv (cc:=((i+1:Nat):Int)) rfl rfl qM qM qM) ?_;refine Jm rfl ?_;apply yI
 repeat refine JX.normal_block ?_
 refine JX.roundG (x:=i) (i+1) ?_ ?_ [0,2,3,14,15,16] ?_ ?_ ?_ ?_
 · exact⟨by omega,by rw[<-hO,Z5o (ops:=cmpO) (i:=i) (by show i<6;omega),if_neg (by rw[ht23];decide)]⟩
 · exact qM
 · exact qS
 · exact qH
 · exact qG
 · exact fun _ _ _=>fun _ _=>trivial
 try simp only[yd,yf]at ht17
 repeat apply yQ
 refine J.exit ?_
 repeat first|refine yH ?_|refine yM rfl ?_|refine yE ?_
 repeat first|apply yX|apply yB
 have hno:opOf 5 cmpO z1.2=none:=by rw[<-hO,List.drop_eq_nil_of_le (by show 6<=i;omega)];rfl
 refine vQ ?_;refine Jm rfl (JO.callK (Lr:=[_,_]) (Zu T hc b z1.2 ((Z3k he _ _ hz1).1.trans hts) w_IS) rfl (.swap _ _ _) qF qA ?_);intro _ _;refine vD ?_;refine Jq (Z22 rfl) (vS [0,2,3,34] ?_);refine yC rfl (fun ht34=>?_) (fun ht34=>?_);have his:isT 1 w_IS z1.2=false:=by simpa using ht34
 rw[Z21 his];refine vQ ?_;refine Jq (Z1J Z8 rfl) (JO.m (Z2 rfl rfl qU qC qO Zc) (by rfl) ?_);refine vS [2] ?_;refine vR ?_;refine JX.toP ?_;exact JX.retLCs (Lr:=[_,_]) rfl (z1.1,z1.2) (by rw[Z4P hnn,hz1];show cmpP e z1.1 z1.2=_;unfold cmpP;rw[hno];dsimp only;rw[if_neg (by rw[his];decide)]) (.refl _) rfl rfl hb0 rfl Z8 HasOwn.mem Z1E (Sub.refl _);apply yK
 repeat first|apply yX|apply yB
 have his:isT 1 w_IS z1.2=true:=by simpa using ht34
 rw[Z1z his];refine vQ ?_;refine Jm rfl (JO.callK (Lr:=[_,_]) (Zu T hc b z1.2.tail (ZH ((Z3k he _ _ hz1).1.trans hts)) Z1d) rfl (.refl _) qF qA ?_);intro _ _;refine vD ?_;refine vS [0,2,3,37] ?_;refine yC rfl (fun ht37=>?_) (fun ht37=>?_);have hi2:isT 1 Z1d z1.2.tail=true:=ht37;rw[Z1z hi2];refine vQ ?_;refine Jm rfl ?_;refine JO.callPK (Lr:=[_,_]) (ZA T hc b (z1.2.tail.tail) (ZH (ZH ((Z3k he _ _ hz1).1.trans hts))) Z1M (by decide+kernel) (by decide+kernel) (asc (by decide+kernel))) rfl (.refl _) qF qA (fun hbad=>?_) ?_
 · exact JX.pnI (by rw[Z4P hnn,hz1];show cmpP e z1.1 z1.2=none;unfold cmpP;rw[hno];dsimp only;rw[if_pos his,if_pos hi2,hbad];rfl)
 intro z2 hz2;refine vD ?_;refine vP [2,3] ?_;refine Jq (Z1J Z8 rfl) (Jq (Z1T Zy rfl) (Jq (ZN rfl (Z2R 19 [z1.1]) qA) ?_));refine JO.m (Z2 rfl rfl qU qC qO Zc) (by rfl) ?_;refine vS [2] ?_;refine vR ?_;refine JX.toP ?_;exact JX.retLCs (Lr:=[_,_]) rfl (nd 19 [z1.1],z2.2) (by rw[Z4P hnn,hz1];show cmpP e z1.1 z1.2=_;unfold cmpP;rw[hno];dsimp only;rw[if_pos his,if_pos hi2,hz2];rfl) (.refl _) rfl rfl hb0 rfl Z8 HasOwn.mem Z1E (Sub.refl _);apply yK
 repeat first|apply yX|apply yB
 have hi2:isT 1 Z1d z1.2.tail=false:=ht37;rw[Z21 hi2];refine vQ ?_;refine Jm rfl ?_;refine JO.callPK (Lr:=[_,_]) (ZA T hc b (z1.2.tail) (ZH ((Z3k he _ _ hz1).1.trans hts)) Z1M (by decide+kernel) (by decide+kernel) (asc (by decide+kernel))) rfl (.refl _) qF qA (fun hbad=>?_) ?_
 · exact JX.pnI (by rw[Z4P hnn,hz1];show cmpP e z1.1 z1.2=none;unfold cmpP;rw[hno];dsimp only;rw[if_pos his,if_neg (by rw[hi2];decide),hbad];rfl)
 intro z2 hz2;refine vD ?_;refine vP [2,3] ?_;refine Jq (Z1J Z8 rfl) (Jq (Z1T Zy rfl) (Jq (ZN rfl (Z2R 18 [z1.1]) qA) ?_));refine JO.m (Z2 rfl rfl qU qC qO Zc) (by rfl) ?_;refine vS [2] ?_;refine vR ?_;refine JX.toP ?_;exact JX.retLCs (Lr:=[_,_]) rfl (nd 18 [z1.1],z2.2) (by rw[Z4P hnn,hz1];show cmpP e z1.1 z1.2=_;unfold cmpP;rw[hno];dsimp only;rw[if_pos his,if_neg (by rw[hi2];decide),hz2];rfl) (.refl _) rfl rfl hb0 rfl Z8 HasOwn.mem Z1E (Sub.refl _)
theorem Z5t(T:Tk)(hc:T.ts.length<=T.cap)(b:Nat)(e:Ps Ex)(he:Dn0 e)(N:Nat)(hsum: ∀ts,ts<:+T.ts->ts.length<=N->CallP Tryz.prog Z38 [PB T b (ts)] [T.G,AF] [.is (.pointer (some ⟨b,0,none⟩))] (sumP e (ts)=none) flt (fun z:Ex×List T3=>sumP e (ts)=some z) (fun z=>[PB T b z.2]) (fun z=>.rep (ExR z.1))): ∀n ts,ts<:+T.ts->ts.length<=N->ts.length<=n->CallP Tryz.prog Z2h [PB T b (ts)] [T.G,AF] [.is (.pointer (some ⟨b,0,none⟩))] (notP e (ts)=none) flt (fun z:Ex×List T3=>notP e (ts)=some z) (fun z=>[PB T b z.2]) (fun z=>.rep (ExR z.1))
 |n,ts,hts,hN,hn=>Z6C T hc b ts hts e he (fun us hus hl=>hsum us hus qM) fun us hus hl=>by
  cases n with
  |zero=>omega
  |succ n=>exact Z5t T hc b e he N hsum n us hus qM qM
theorem wantN{k:Int}{s:ByteArray}{ts:List T3}(h:isT k s ts=false):wantP k s ts=none:=by unfold wantP;rw[if_neg (by rw[h];decide)]
theorem wantY{k:Int}{s:ByteArray}{ts:List T3}(h:isT k s ts=true):wantP k s ts=some ((),ts.tail):=by unfold wantP;rw[if_pos h]
abbrev kvL:List (ByteArray×Value):=[(Z2y,.int .i64 20),(Z54,.int .i64 21),(Z5x,.int .i64 22),(Z6c,.int .i64 23)]
theorem ZaW{a b:ByteArray}(h:sq a b=true):a=b:=by
 cases a;cases b
 simpa [sq] using h
theorem Zek{w:ByteArray}{q:Int}(h:aggK w=some q): ∃j,j<4/\kvL[j]? =some (w,.int .i64 q):=by
 unfold aggK at h
 split at h
 · rename_i e;injection h with h;subst h;have e:=ZaW e;subst e;exact⟨0,by decide,rfl⟩
 split at h
 · rename_i e;injection h with h;subst h;have e:=ZaW e;subst e;exact⟨1,by decide,rfl⟩
 split at h
 · rename_i e;injection h with h;subst h;have e:=ZaW e;subst e;exact⟨2,by decide,rfl⟩
 split at h
 · rename_i e;injection h with h;subst h;have e:=ZaW e;subst e;exact⟨3,by decide,rfl⟩
 · cases h
theorem Z69:(kvL.map (·.1)).Nodup:=by decide
theorem Z6y{a b:ByteArray}(h:seq a b=false): ¬sq a b=true:=by rw[<-Z2D,h];decide
theorem Z3K{a b:ByteArray}(h:seq a b=true):sq a b=true:=by rw[<-Z2D];exact h
structure KwS where
 m:MapS
 z:Option (Ex×List T3)
abbrev KwS.x(s:KwS):Ex:=(s.z.getD (ex0,[])).1
def KwS.L(T:Tk)(b:Nat)(us:List T3)(Lr:List Own)(s:KwS):List Own:=PB T b (match s.z with|none=>us|some z=>z.2)::(mOwn s.m++Lr)
def KwS.T(b:Nat)(w:ByteArray)(q:Int)(s:KwS):Nat->Ty
 |0=>.is (.map s.m.mp)
 |5=>.is (.map s.m.mp)
 |6=>.is (.string w)
 |7=>.is (.int .i64 q)
 |8=>.is (.pointer (some ⟨b,0,none⟩))
 |9=>.rep (ExR s.x)
 |10=>.rep (ExsR [s.x])
 |_=>.any
structure KwS.inv (e:Ps Ex) (us:List T3) (s:KwS) (D:Array Bool):Prop where
 m:MInv kvL s.m fun j=>D.getD j false
 f:D.getD 5 false=true->∀j,j<5->D.getD j false=true
 z:D.getD 9 false=s.z.isSome
 r: ∀z,s.z=some z->e us=some z
 g:D.getD 10 false=true->D.getD 9 false=true
theorem Zc3{D:Array Bool}{i:Nat}(hi:i<D.size)(j:Nat):((fun j=>(D.setIfInBounds i true).getD j false) j=true)↔j=i\/((fun j=>D.getD j false) j=true):=Z1n hi
theorem ZX{D:Array Bool}{i j:Nat}(hi:i<D.size)(h:j≠i):(D.setIfInBounds i true).getD j false=D.getD j false:=by
 cases hq:D.getD j false with
 |true=>exact(Z1n hi).2 (.inr hq)
 |false=>
   cases hq':(D.setIfInBounds i true).getD j false with
   |false=>rfl
   | true => rcases(Z1n hi).1 hq' with e|e
             · exact absurd e h
             · rw[hq]at e;cases e
theorem KwS.inv.other{e:Ps Ex}{us:List T3}{s:KwS}{D:Array Bool}(h:s.inv e us D){i:Nat}(hs:i<D.size)(h4:4<i)(h9:i≠9)(h5:i=5->∀j,j<5->D.getD j false=true)(h10:i=10->D.getD 9 false=true):s.inv e us (D.setIfInBounds i true):=by
 refine⟨h.m.other h4 (Zc3 hs),fun h1 j hj=>?_,by rw[ZX hs (Ne.symm h9)];exact h.z,h.r,fun h1=>by
  rw[ZX hs (Ne.symm h9)]
  by_cases hi:i=10
  · exact h10 hi
  · exact h.g (by rw[<-ZX hs (Ne.symm hi)];exact h1)⟩
 rw[ZX hs qM]
 by_cases hi:i=5
 · exact h5 hi j hj
 · exact h.f (by rw[<-ZX hs (Ne.symm hi)];exact h1) j hj
theorem KwS.inv.make{e:Ps Ex}{us:List T3}{s:KwS}{D:Array Bool}(h:s.inv e us D)(hs:0<D.size)(h0:D.getD 0 false=false)(r:Nat):KwS.inv e us ⟨⟨some r,[],0⟩,s.z⟩ (D.setIfInBounds 0 true):=by
 refine⟨h.m.make h0 (Zc3 hs) r,fun h1 j hj=>?_,by rw[ZX hs qD];exact h.z,h.r,fun h1=>by rw[ZX hs qD]at h1 ⊢;exact h.g h1⟩;rw[ZX hs qD]at h1;have:=h.f h1 0 qD;rw[h0]at this;cases this
theorem KwS.inv.ins{e:Ps Ex}{us:List T3}{s:KwS}{D:Array Bool}(h:s.inv e us D){j:Nat}{kv:ByteArray×Value}(hs:j+1<D.size)(hj:kvL[j]? =some kv)(hj4:j<4)(h1:D.getD (j+1) false=false)(h0:D.getD 0 false=true):KwS.inv e us ⟨⟨s.m.mp,s.m.es++[(kv.1,kv.2,s.m.n)],s.m.n+1⟩,s.z⟩ (D.setIfInBounds (j+1) true):=by
 refine⟨h.m.ins hj h0 (Zc3 hs),fun h2 k hk=>?_,by rw[ZX hs qM];exact h.z,h.r,fun h3=>by rw[ZX hs qM]at h3 ⊢;exact h.g h3⟩;rw[ZX hs qM]at h2;have:=h.f h2 (j+1) qM;rw[h1]at this;cases this
theorem KwS.inv.call{e:Ps Ex}{us:List T3}{s:KwS}{D:Array Bool}(h:s.inv e us D)(hs:9<D.size){z:Ex×List T3}(hz:e us=some z):KwS.inv e us ⟨s.m,some z⟩ (D.setIfInBounds 9 true):=
 ⟨h.m.other qD (Zc3 hs),fun h1 j hj=>by rw[ZX hs qM];exact h.f (by rw[<-ZX hs qD];exact h1) j hj,by rw[(Z1n hs).2 (.inl rfl)];rfl,fun y hy=>by injection hy with hy;subst hy;exact hz,fun _=>(Z1n hs).2 (.inl rfl)⟩
theorem aggY{w:ByteArray}(h:(seq w Z2y||(seq w Z54||(seq w Z5x||seq w Z6c)))=true): ∃q,aggK w=some q:=by
 simp only[Z2D]at h;unfold aggK
 repeat' split
 all_goals first|exact⟨_,rfl⟩|simp_all
theorem aggN{w:ByteArray}(h:(seq w Z2y||(seq w Z54||(seq w Z5x||seq w Z6c)))=false):aggK w=none:=by
 simp only[Z2D]at h;unfold aggK
 simp_all
theorem kwT0{b:Nat}{w:ByteArray}{q:Int}{m m':MapS}{zo:Option (Ex×List T3)}{D:Array Bool}(h5:D.getD 5 false=false)(hd:D.getD 0 false=false){j:Nat}(hj:D.getD j false=true):KwS.T b w q ⟨m',zo⟩ j=KwS.T b w q ⟨m,zo⟩ j:=by
 match j,hj with
 |0,hj=>rw[hd]at hj;cases hj
 |5,hj=>rw[h5]at hj;cases hj
 |1,_=>rfl
 |2,_=>rfl
 |3,_=>rfl
 |4,_=>rfl
 |6,_=>rfl
 |7,_=>rfl
 |8,_=>rfl
 |9,_=>rfl
 |10,_=>rfl
 |j+11,_=>rfl
theorem kwT9{b:Nat}{w:ByteArray}{q:Int}{m:MapS}{zo zo':Option (Ex×List T3)}{D:Array Bool}(h10:D.getD 10 false=false)(hd:D.getD 9 false=false){j:Nat}(hj:D.getD j false=true):KwS.T b w q ⟨m,zo'⟩ j=KwS.T b w q ⟨m,zo⟩ j:=by
 match j,hj with
 |9,hj=>rw[hd]at hj;cases hj
 |10,hj=>rw[h10]at hj;cases hj
 |0,_=>rfl
 |1,_=>rfl
 |2,_=>rfl
 |3,_=>rfl
 |4,_=>rfl
 |5,_=>rfl
 |6,_=>rfl
 |7,_=>rfl
 |8,_=>rfl
 |j+11,_=>rfl
theorem Z6Z(T:Tk)(hc:T.ts.length<=T.cap)(b:Nat)(ts:List T3)(hts:ts<:+T.ts)(e:Ps Ex)(exprDn: ∀{us:List T3} {z:Ex×List T3},e us=some z->z.2<:+us)(hex: ∀us,us<:+T.ts->us.length<ts.length->CallP Tryz.prog ZO [PB T b (us)] [T.G,AF] [.is (.pointer (some ⟨b,0,none⟩))] (e (us)=none) flt (fun z:Ex×List T3=>e (us)=some z) (fun z=>[PB T b z.2]) (fun z=>.rep (ExR z.1))):CallP Tryz.prog Z71 [PB T b ts] [T.G,AF] [.is (.pointer (some ⟨b,0,none⟩))] (kwP e ts=none) flt (fun z:Ex×List T3=>kwP e ts=some z) (fun z=>[PB T b z.2]) (fun z=>.rep (ExR z.1)):=
CallP.of (fn:=Tryz.f194) Tryz.func194 (n:=53) rfl rfl rfl (fun _ _=>by kernel_rfl) fun E W hb0=>by
 refine vQ ?_;refine JO.alloc Z14 rfl fun b2=>(vP [0,2] ?_);refine Jm rfl ?_;refine JO.callPK (Lr:=[_]) (Z2Z T hc b ts hts 1) rfl (.swap _ _ _) qF qA (fun hbad=>?_) ?_
 · exact JX.pnI (by unfold kwP;rw[hbad];rfl)
 rintro⟨⟨k1,w,n1⟩,r1⟩ hz1;refine vD ?_;refine Jq (Z4l (off:=1) qK rfl rfl) ?_;refine Ja rfl (vP [0,2,3] ?_);refine Jm rfl (vS [0,2,3,8] ?_);apply yk;refine vQ ?_;refine Jq (Z2g rfl rfl) (Ja rfl (vS [0,2,3,8,9] ?_));refine yC rfl (fun ht9=>?_) (fun ht9=>?_)
 try simp only[yd,yf]at ht9
 refine vQ ?_;refine Jq (Zd (cs:=[_,_,_]) Z2G (.cons rfl (.cons rfl .nil)) rfl rfl) (Jq (ZN rfl (Z3z 2 1 em) qA) ?_);refine JO.m (Z2 rfl rfl qU qC qO Zc) (by rfl) ?_;refine vS [2] ?_;refine vR ?_;refine JX.toP ?_;exact JX.retLCs (Lr:=[_]) rfl (lit 2 1 em,r1) (by unfold kwP;rw[hz1];simp only[Option.bind_some];rw[if_pos (Z3K ht9)]) (.refl _) rfl rfl hb0 rfl Z8 HasOwn.mem Z1E (Sub.refl _)
 try simp only[yd,yf]at ht9
 have hT:=Z6y ht9;refine vQ ?_;refine Jq (Z2g rfl rfl) (Ja rfl (vS [0,2,3,8,13] ?_));refine yC rfl (fun ht13=>?_) (fun ht13=>?_)
 try simp only[yd,yf]at ht13
 refine vQ ?_;refine Jq (Zd (cs:=[_,_,_]) Z2G (.cons rfl .nil) rfl rfl) (Jq (ZN rfl (Z3z 2 0 em) qA) ?_);refine JO.m (Z2 rfl rfl qU qC qO Zc) (by rfl) ?_;refine vS [2] ?_;refine vR ?_;refine JX.toP ?_;exact JX.retLCs (Lr:=[_]) rfl (lit 2 0 em,r1) (by unfold kwP;rw[hz1];simp only[Option.bind_some];rw[if_neg hT,if_pos (Z3K ht13)]) (.refl _) rfl rfl hb0 rfl Z8 HasOwn.mem Z1E (Sub.refl _)
 try simp only[yd,yf]at ht13
 have hF:=Z6y ht13;refine vQ ?_;refine Jq (Z2g rfl rfl) (Ja rfl (vS [0,2,3,8,17] ?_));refine yC rfl (fun ht17=>?_) (fun ht17=>?_)
 try simp only[yd,yf]at ht17
 refine vQ ?_;refine Jq (Zd (cs:=[_,_,_]) Z2G .nil rfl rfl) (Jq (ZN rfl (Z3z 0 0 em) qA) ?_);refine JO.m (Z2 rfl rfl qU qC qO Zc) (by rfl) ?_;refine vS [2] ?_;refine vR ?_;refine JX.toP ?_;exact JX.retLCs (Lr:=[_]) rfl (lit 0 0 em,r1) (by unfold kwP;rw[hz1];simp only[Option.bind_some];rw[if_neg hT,if_neg hF,if_pos (Z3K ht17)]) (.refl _) rfl rfl hb0 rfl Z8 HasOwn.mem Z1E (Sub.refl _)
 try simp only[yd,yf]at ht17
 have hN:=Z6y ht17;refine vQ ?_;refine Jq (Z2g rfl rfl) (Ja rfl (vS [0,2,3,8,21] ?_))
 first|apply J.or [0,2,3] rfl (.cons rfl (.cons rfl (.cons rfl .nil)))|apply J.orN [0,2,3] rfl qS
 · intro ht21
   refine vQ ?_;refine Jq (Z2g rfl rfl) (Ja rfl ?_);apply yI;refine JX.next ?_;apply J.orT [0,2,3] rfl qS
   · intro ht21
     refine vQ ?_;refine Jq (Z2g rfl rfl) (Ja rfl ?_);apply yI;refine JX.next ?_;apply J.orT [0,2,3] rfl qS
     · intro ht21
       refine vQ ?_;refine Jq (Z2g rfl rfl) (Ja rfl ?_);apply yI;exact JX.mids [21,0,2,3] qS
 repeat apply yQ
 refine yC rfl (fun ht21=>?_) (fun ht21=>?_)
 try simp only[yd,yf]at ht21
 obtain⟨q,hq⟩:=aggY ht21;refine vQ ?_;refine Jm rfl (Jm rfl (JO.callK (Lr:=[_]) (ZE T hc b r1 ((Z1c 1 _ _ hz1).1.trans hts) s_lp) rfl (.refl _) qF qA ?_));intro _ _;refine vD ?_;refine JO.callPK (Lr:=_) (Zt (.pointer (some ⟨b,0,none⟩)) (isT 5 s_lp r1)) rfl (Z2a _) Z1Z qA (fun hbad=>?_) ?_
 · exact JX.pnI (by unfold kwP;rw[hz1];simp only[Option.bind_some];rw[if_neg hT,if_neg hF,if_neg hN,hq];dsimp only;rw[wantN hbad];rfl)
 intro _ hlp;refine vD ?_;refine vS [0,2,3] ?_;rw[Z1z hlp];refine vQ ?_;refine Jq (Ob.im (Zd (cs:=[_,_,_,_,_,_,_,_]) Z1a (.cons rfl .nil) rfl rfl) (Sub.leaf (k:=20) (vk:=0) (vn:=0) (vs:=em) (tb:=em) (nm:=em) (sl:=0))) (JO.alloc Z14 rfl fun b4=>(JO.m (Z2 rfl rfl qU qC qO Zc) (by rfl) ?_));refine vS [0,2,3,4] ?_;rcases Bool.eq_false_or_eq_true (seq w Z2y)with hcnt|hcnt
 refine vQ ?_;refine Jm rfl (Jq (ZcQ (cc:=false) rfl rfl (by rw[hcnt];rfl)) ?_);refine Jm rfl (JO.gd rfl rfl rfl (Jm rfl (JO.gd rfl rfl rfl (JO.callK (Lr:=[_,_]) (ZE T hc b r1.tail (ZH ((Z1c 1 _ _ hz1).1.trans hts)) Z1g) rfl (.swap _ _ _) qF qA ?_))));intro _ _;refine vD ?_;refine JO.gd rfl rfl rfl (Jq (Z22 rfl) (Jq (Zda rfl rfl) (vS [0,2,3,4,37] ?_)));refine yC rfl (fun ht37=>?_) (fun ht37=>?_)
 try have hst:isT 5 Z1g r1.tail=false:=by simpa using ht37
 try rw[Z21 hst]
 refine J.has (L':=[PB T b r1.tail,⟨b4,Z7,.rep (ExR (nd 20 []))⟩,⟨b2,Z7,.is (.agg #[.int .i64 0,.int .i64 0,.int .i64 0,.string ⟨#[]⟩,.string ⟨#[]⟩,.string ⟨#[]⟩,.int .i64 0,.slice none 0 0])⟩]) (by repeat(first|exact .all|exact .nil|refine Has.cons (by repeat(first|exact .here|apply Pk.past|apply Pk.there)) ?_)) ?_
 repeat apply yQ
 refine J.regMach (Bad:=e r1.tail=none) (ch:=flt) 11 (KwS.L T b (r1.tail) [⟨b4,Z7,.rep (ExR (nd 20 []))⟩,⟨b2,Z7,.is (.agg #[.int .i64 0,.int .i64 0,.int .i64 0,.string ⟨#[]⟩,.string ⟨#[]⟩,.string ⟨#[]⟩,.int .i64 0,.slice none 0 0])⟩]) (KwS.T b w q) (KwS.inv e (r1.tail)) (fun i=>decide (i<5)||i==9) ⟨⟨none,[],0⟩,none⟩ rfl ?_ (fun hbad=>?_) hmx qK rfl qK ?_ ?_ ?_
 · exact⟨.start (fun j=>by rw[Array.getD_eq_getD_getElem?,Array.getElem?_replicate];split<;>rfl),(fun h=>by cases h),rfl,(fun z h=>by cases h),(fun h=>by cases h)⟩
 · exact JX.pnI (by first|(unfold kwP;rw[hz1];simp only[Option.bind_some];rw[if_neg hT,if_neg hF,if_neg hN,hq];dsimp only;rw[wantY hlp];simp only[Option.bind_some];rw[Z3K hcnt,hst];simp only[Bool.true_and,Bool.false_eq_true,if_false];rw[hbad];rfl)|(unfold kwP;rw[hz1];simp only[Option.bind_some];rw[if_neg hT,if_neg hF,if_neg hN,hq];dsimp only;rw[wantY hlp];simp only[Option.bind_some];rw[if_neg (by rw[Bool.and_eq_true];exact fun h=>Z6y hcnt h.1)];rw[hbad];rfl))
 · intro s D i o hs hinv hA hbg hd hr
   match i,hA,hbg,hd,hr with
   |0,_,hbg,_,_=>exact absurd hbg qD
   |1,_,hbg,_,_=>exact absurd hbg qD
   |2,_,hbg,_,_=>exact absurd hbg qD
   |3,_,hbg,_,_=>exact absurd hbg qD
   |4,_,hbg,_,_=>exact absurd hbg qD
   |5,hA,_,hd,hr=>
     obtain rfl:=Option.some.inj hA;have h9:=hinv.other (i:=5) qM qD qD (fun _ j hj=>by
       match j,hj with
       |0,_=>exact hr _ rfl ⟨0,.data⟩ (by simp) rfl
       |1,_=>exact hr _ rfl ⟨1,.data⟩ (by simp) rfl
       |2,_=>exact hr _ rfl ⟨2,.data⟩ (by simp) rfl
       |3,_=>exact hr _ rfl ⟨3,.data⟩ (by simp) rfl
       |4,_=>exact hr _ rfl ⟨4,.data⟩ (by simp) rfl) (fun h=>by cases h)
     exact⟨h9,rfl,(Z1 rfl)⟩
   |6,hA,_,hd,hr=>
     obtain rfl:=Option.some.inj hA;exact⟨hinv.other qM qD qD (fun h=>by cases h) (fun h=>by cases h),rfl,(Z1 rfl)⟩
   |7,hA,_,hd,hr=>
     obtain rfl:=Option.some.inj hA;have hall:=hinv.f (hr _ rfl ⟨5,.data⟩ (by simp) rfl);refine⟨hinv.other qM qD qD (fun h=>by cases h) (fun h=>by cases h),rfl,?_⟩;obtain⟨j,hj4,hj⟩:=Zek hq;have hget:=hinv.m.get Z69 hj (hall (j+1) qM);obtain⟨r,hr0⟩:=hinv.m.some_ (hall 0 qD);obtain⟨⟨mp,es,n⟩,zo⟩:=s;dsimp only at hr0;subst hr0;exact ZdT Z1C Zf ZfT rfl rfl (List.mem_cons_of_mem _ List.mem_cons_self) (by dsimp only at hget;rw[hget];rfl)
   |8,hA,_,hd,hr=>
     obtain rfl:=Option.some.inj hA;exact⟨hinv.other qM qD qD (fun h=>by cases h) (fun h=>by cases h),rfl,(Z1 rfl)⟩
   |9,_,hbg,_,_=>exact absurd hbg qD
   |10,hA,_,hd,hr=>
     obtain rfl:=Option.some.inj hA;exact⟨hinv.other qM qD qD (fun h=>by cases h) (fun _=>hr _ rfl ⟨9,.data⟩ (by simp) rfl),rfl,(Z1T Zy rfl)⟩
   |i+11,hA,_,hd,hr=>simp at hA
 · intro s D i o hs hinv hA hbg hd hr
   match i,hA,hbg,hd,hr with
   |0,hA,_,hd,hr=>
     obtain rfl:=Option.some.inj hA;obtain⟨⟨mp,es,n⟩,zo⟩:=s;have hmp:mp=none:=by
       have:=hinv.m.a;dsimp only at this;rw[hd]at this;cases mp with
       |none=>rfl
       |some r=>cases this
     subst hmp;have h5:D.getD 5 false=false:=by
       cases h:D.getD 5 false with
       |false=>rfl
       |true=>have:=hinv.f h 0 qD;rw[hd]at this;cases this
     exact⟨rfl,.inl (Zbt.to (fun r=>⟨⟨⟨some r,[],0⟩,zo⟩,hinv.make qM hd r,fun j hj=>kwT0 h5 hd hj⟩) (fun _=>rfl) (fun _=>.swap _ _ _))⟩
   |1,hA,_,hd,hr=>
     obtain rfl:=Option.some.inj hA;obtain⟨⟨mp,es,n⟩,zo⟩:=s;obtain⟨r,hr0⟩:=hinv.m.some_ (hr _ rfl ⟨0,.data⟩ (by simp) rfl);dsimp only at hr0;subst hr0;have hg:=hinv.m.fresh Z69 (j:=0) rfl hd;have hi:=hinv.ins (j:=0) qM rfl qD hd (hr _ rfl ⟨0,.data⟩ (by simp) rfl);exact⟨rfl,.inl ((BigOb.ofM (Z2k Z1C Zf rfl rfl rfl hg (.there .here)) rfl).to (fun _=>⟨_,hi,fun j hj=>rfl⟩) (fun _=>rfl) (fun _=>.refl _))⟩
   |2,hA,_,hd,hr=>
     obtain rfl:=Option.some.inj hA;obtain⟨⟨mp,es,n⟩,zo⟩:=s;obtain⟨r,hr0⟩:=hinv.m.some_ (hr _ rfl ⟨0,.data⟩ (by simp) rfl);dsimp only at hr0;subst hr0;have hg:=hinv.m.fresh Z69 (j:=1) rfl hd;have hi:=hinv.ins (j:=1) qM rfl qD hd (hr _ rfl ⟨0,.data⟩ (by simp) rfl);exact⟨rfl,.inl ((BigOb.ofM (Z2k Z1C Zf rfl rfl rfl hg (.there .here)) rfl).to (fun _=>⟨_,hi,fun j hj=>rfl⟩) (fun _=>rfl) (fun _=>.refl _))⟩
   |3,hA,_,hd,hr=>
     obtain rfl:=Option.some.inj hA;obtain⟨⟨mp,es,n⟩,zo⟩:=s;obtain⟨r,hr0⟩:=hinv.m.some_ (hr _ rfl ⟨0,.data⟩ (by simp) rfl);dsimp only at hr0;subst hr0;have hg:=hinv.m.fresh Z69 (j:=2) rfl hd;have hi:=hinv.ins (j:=2) qM rfl qD hd (hr _ rfl ⟨0,.data⟩ (by simp) rfl);exact⟨rfl,.inl ((BigOb.ofM (Z2k Z1C Zf rfl rfl rfl hg (.there .here)) rfl).to (fun _=>⟨_,hi,fun j hj=>rfl⟩) (fun _=>rfl) (fun _=>.refl _))⟩
   |4,hA,_,hd,hr=>
     obtain rfl:=Option.some.inj hA;obtain⟨⟨mp,es,n⟩,zo⟩:=s;obtain⟨r,hr0⟩:=hinv.m.some_ (hr _ rfl ⟨0,.data⟩ (by simp) rfl);dsimp only at hr0;subst hr0;have hg:=hinv.m.fresh Z69 (j:=3) rfl hd;have hi:=hinv.ins (j:=3) qM rfl qD hd (hr _ rfl ⟨0,.data⟩ (by simp) rfl);exact⟨rfl,.inl ((BigOb.ofM (Z2k Z1C Zf rfl rfl rfl hg (.there .here)) rfl).to (fun _=>⟨_,hi,fun j hj=>rfl⟩) (fun _=>rfl) (fun _=>.refl _))⟩
   |5,_,hbg,_,_=>exact absurd hbg qD
   |6,_,hbg,_,_=>exact absurd hbg qD
   |7,_,hbg,_,_=>exact absurd hbg qD
   |8,_,hbg,_,_=>exact absurd hbg qD
   |9,hA,_,hd,hr=>
     obtain rfl:=Option.some.inj hA;obtain⟨m,zo⟩:=s;have hzo:zo=none:=by
       have:=hinv.z;dsimp only at this;rw[hd]at this;cases zo with
       |none=>rfl
       |some r=>cases this
     subst hzo;have h10:D.getD 10 false=false:=by
       cases h:D.getD 10 false with
       |false=>rfl
       |true=>have:=hinv.g h;rw[hd]at this;cases this
     exact⟨rfl,.inr ((Z6g rfl (hex r1.tail (ZH ((Z1c 1 _ _ hz1).1.trans hts)) (by have:=(ZG hlp).2;have h1:r1.length<ts.length:=(Z1c 1 _ _ hz1).2;omega)) (.refl _) qF qA).to (fun z=>⟨⟨m,some z.1⟩,hinv.call qM z.2,fun j hj=>kwT9 h10 hd hj⟩) (fun _=>rfl) (fun _=>.refl _))⟩
   |10,_,hbg,_,_=>exact absurd hbg qD
   |i+11,hA,_,hd,hr=>simp at hA
 intro s D hs hall hinv;obtain⟨⟨mp,es,n⟩,zo⟩:=s;obtain⟨r,hr0⟩:=hinv.m.some_ (hall 0 qD);dsimp only at hr0;subst hr0;have hzz:=hinv.z;rw[hall 9 qD]at hzz;obtain⟨z,hzo⟩:=Option.isSome_iff_exists.1 hzz.symm;dsimp only at hzo;subst hzo;have hzr:e (r1.tail)=some z:=hinv.r z rfl;refine JO.subL (L':=[PB T b z.2]++(⟨r,0,.ob (sObj es n)⟩::[⟨b4,Z7,.rep (ExR (nd 20 []))⟩,⟨b2,Z7,.is (.agg #[.int .i64 0,.int .i64 0,.int .i64 0,.string ⟨#[]⟩,.string ⟨#[]⟩,.string ⟨#[]⟩,.int .i64 0,.slice none 0 0])⟩])) (.refl _) (vD ?_);refine Jq (ZN rfl (Z2R q [z.1]) qA) ?_;refine JO.m (Z2 rfl rfl qU qC qO Zc) (by rfl) ?_;refine vS [0,2,4] ?_
 first|(refine J.has (L':=[PB T b z.2,⟨b4,Z7,.rep (ExR (nd q [z.1]))⟩,⟨b2,Z7,.is (.agg #[.int .i64 0,.int .i64 0,.int .i64 0,.string ⟨#[]⟩,.string ⟨#[]⟩,.string ⟨#[]⟩,.int .i64 0,.slice none 0 0])⟩]) (by repeat(first|exact .all|exact .nil|refine Has.cons (by repeat(first|exact .here|apply Pk.past|apply Pk.there)) ?_)) ?_;have husx:=(exprDn hzr).trans (ZH ((Z1c 1 _ _ hz1).1.trans hts)))|(have hst:isT 5 Z1g r1.tail=true:=(by simpa using ht37);rw[Z1z hst];have husx:=ZH (ZH ((Z1c 1 _ _ hz1).1.trans hts)))
 refine vQ ?_;refine Jm rfl (Jm rfl (JO.callK (Lr:=[_,_]) (ZE T hc b _ husx s_rp) rfl (.refl _) qF qA ?_));intro _ _;refine vD ?_;refine JO.callPK (Lr:=_) (Zt (.pointer (some ⟨b,0,none⟩)) (isT 5 s_rp _)) rfl (Z2a _) Z1Z qA (fun hbad=>?_) ?_
 · exact JX.pnI (by first|(unfold kwP;rw[hz1];simp only[Option.bind_some];rw[if_neg hT,if_neg hF,if_neg hN,hq];dsimp only;rw[wantY hlp];simp only[Option.bind_some];rw[Z3K hcnt,hst];simp only[Bool.true_and,if_true];rw[wantN hbad];rfl)|(first|(unfold kwP;rw[hz1];simp only[Option.bind_some];rw[if_neg hT,if_neg hF,if_neg hN,hq];dsimp only;rw[wantY hlp];simp only[Option.bind_some];rw[Z3K hcnt,hst];simp only[Bool.true_and,Bool.false_eq_true,if_false];rw[hzr];simp only[Option.bind_some];rw[wantN hbad];rfl)|(unfold kwP;rw[hz1];simp only[Option.bind_some];rw[if_neg hT,if_neg hF,if_neg hN,hq];dsimp only;rw[wantY hlp];simp only[Option.bind_some];rw[if_neg (by rw[Bool.and_eq_true];exact fun h=>Z6y hcnt h.1)];rw[hzr];simp only[Option.bind_some];rw[wantN hbad];rfl)))
 intro _ hrp;refine vD ?_;refine vS [2,4] ?_;rw[Z1z hrp];refine vQ ?_;refine Jq (Z1J Z8 rfl) (JO.m (Z2 rfl rfl qU qC qO Zc) (by rfl) ?_);refine vS [2] ?_;refine vR ?_;refine JX.toP ?_;exact JX.retLCs (Lr:=[_,_]) rfl (nd q [z.1],z.2.tail) (by unfold kwP;rw[hz1];simp only[Option.bind_some];rw[if_neg hT,if_neg hF,if_neg hN,hq];dsimp only;rw[wantY hlp];simp only[Option.bind_some];rw[Z3K hcnt,hst];simp only[Bool.true_and,Bool.false_eq_true,if_false];rw[hzr];simp only[Option.bind_some];rw[wantY hrp];rfl) (.refl _) rfl rfl hb0 rfl Z8 HasOwn.mem Z1E (Sub.refl _);apply yK
 repeat first|apply yX|apply yB
 first|(refine J.has (L':=[PB T b z.2,⟨b4,Z7,.rep (ExR (nd q [z.1]))⟩,⟨b2,Z7,.is (.agg #[.int .i64 0,.int .i64 0,.int .i64 0,.string ⟨#[]⟩,.string ⟨#[]⟩,.string ⟨#[]⟩,.int .i64 0,.slice none 0 0])⟩]) (by repeat(first|exact .all|exact .nil|refine Has.cons (by repeat(first|exact .here|apply Pk.past|apply Pk.there)) ?_)) ?_;have husx:=(exprDn hzr).trans (ZH ((Z1c 1 _ _ hz1).1.trans hts)))|(have hst:isT 5 Z1g r1.tail=true:=(by simpa using ht37);rw[Z1z hst];have husx:=ZH (ZH ((Z1c 1 _ _ hz1).1.trans hts)))
 refine vQ ?_;refine Jm rfl (Jm rfl (JO.callK (Lr:=[_,_]) (ZE T hc b _ husx s_rp) rfl (.refl _) qF qA ?_));intro _ _;refine vD ?_;refine JO.callPK (Lr:=_) (Zt (.pointer (some ⟨b,0,none⟩)) (isT 5 s_rp _)) rfl (Z2a _) Z1Z qA (fun hbad=>?_) ?_
 · exact JX.pnI (by first|(unfold kwP;rw[hz1];simp only[Option.bind_some];rw[if_neg hT,if_neg hF,if_neg hN,hq];dsimp only;rw[wantY hlp];simp only[Option.bind_some];rw[Z3K hcnt,hst];simp only[Bool.true_and,if_true];rw[wantN hbad];rfl)|(first|(unfold kwP;rw[hz1];simp only[Option.bind_some];rw[if_neg hT,if_neg hF,if_neg hN,hq];dsimp only;rw[wantY hlp];simp only[Option.bind_some];rw[Z3K hcnt,hst];simp only[Bool.true_and,Bool.false_eq_true,if_false];rw[hzr];simp only[Option.bind_some];rw[wantN hbad];rfl)|(unfold kwP;rw[hz1];simp only[Option.bind_some];rw[if_neg hT,if_neg hF,if_neg hN,hq];dsimp only;rw[wantY hlp];simp only[Option.bind_some];rw[if_neg (by rw[Bool.and_eq_true];exact fun h=>Z6y hcnt h.1)];rw[hzr];simp only[Option.bind_some];rw[wantN hbad];rfl)))
 intro _ hrp;refine vD ?_;refine vS [2,4] ?_;rw[Z1z hrp];refine vQ ?_;refine Jq (Z1J Z8 rfl) (JO.m (Z2 rfl rfl qU qC qO Zc) (by rfl) ?_);refine vS [2] ?_;refine vR ?_;refine JX.toP ?_;exact JX.retLCs (Lr:=[_,_]) rfl (nd 20 [],r1.tail.tail.tail) (by unfold kwP;rw[hz1];simp only[Option.bind_some];rw[if_neg hT,if_neg hF,if_neg hN,hq];dsimp only;rw[wantY hlp];simp only[Option.bind_some];rw[Z3K hcnt,hst];simp only[Bool.true_and,if_true];rw[wantY hrp];rfl) (.refl _) rfl rfl hb0 rfl Z8 HasOwn.mem Z1E (Sub.refl _);refine vQ ?_;refine Jm rfl (Jq (ZcQ (cc:=true) rfl rfl (by rw[hcnt];rfl)) ?_);refine Jm rfl (JO.gn rfl rfl rfl rfl rfl (JO.gn rfl rfl rfl rfl rfl (JO.gn rfl rfl rfl rfl rfl (Jq (Zcu rfl rfl) (vS [0,2,3,4,37] ?_)))));refine yC rfl (fun ht37=>?_) (fun ht37=>?_)
 try simp only[yd,yf]at ht37
 try have hst:isT 5 Z1g r1.tail=false:=by simpa using ht37
 refine J.has (L':=[PB T b r1.tail,⟨b4,Z7,.rep (ExR (nd 20 []))⟩,⟨b2,Z7,.is (.agg #[.int .i64 0,.int .i64 0,.int .i64 0,.string ⟨#[]⟩,.string ⟨#[]⟩,.string ⟨#[]⟩,.int .i64 0,.slice none 0 0])⟩]) (by repeat(first|exact .all|exact .nil|refine Has.cons (by repeat(first|exact .here|apply Pk.past|apply Pk.there)) ?_)) ?_
 repeat apply yQ
 refine J.regMach (Bad:=e r1.tail=none) (ch:=flt) 11 (KwS.L T b (r1.tail) [⟨b4,Z7,.rep (ExR (nd 20 []))⟩,⟨b2,Z7,.is (.agg #[.int .i64 0,.int .i64 0,.int .i64 0,.string ⟨#[]⟩,.string ⟨#[]⟩,.string ⟨#[]⟩,.int .i64 0,.slice none 0 0])⟩]) (KwS.T b w q) (KwS.inv e (r1.tail)) (fun i=>decide (i<5)||i==9) ⟨⟨none,[],0⟩,none⟩ rfl ?_ (fun hbad=>?_) hmx qK rfl qK ?_ ?_ ?_
 · exact⟨.start (fun j=>by rw[Array.getD_eq_getD_getElem?,Array.getElem?_replicate];split<;>rfl),(fun h=>by cases h),rfl,(fun z h=>by cases h),(fun h=>by cases h)⟩
 · exact JX.pnI (by first|(unfold kwP;rw[hz1];simp only[Option.bind_some];rw[if_neg hT,if_neg hF,if_neg hN,hq];dsimp only;rw[wantY hlp];simp only[Option.bind_some];rw[Z3K hcnt,hst];simp only[Bool.true_and,Bool.false_eq_true,if_false];rw[hbad];rfl)|(unfold kwP;rw[hz1];simp only[Option.bind_some];rw[if_neg hT,if_neg hF,if_neg hN,hq];dsimp only;rw[wantY hlp];simp only[Option.bind_some];rw[if_neg (by rw[Bool.and_eq_true];exact fun h=>Z6y hcnt h.1)];rw[hbad];rfl))
 · intro s D i o hs hinv hA hbg hd hr
   match i,hA,hbg,hd,hr with
   |0,_,hbg,_,_=>exact absurd hbg qD
   |1,_,hbg,_,_=>exact absurd hbg qD
   |2,_,hbg,_,_=>exact absurd hbg qD
   |3,_,hbg,_,_=>exact absurd hbg qD
   |4,_,hbg,_,_=>exact absurd hbg qD
   |5,hA,_,hd,hr=>
     obtain rfl:=Option.some.inj hA;have h9:=hinv.other (i:=5) qM qD qD (fun _ j hj=>by
       match j,hj with
       |0,_=>exact hr _ rfl ⟨0,.data⟩ (by simp) rfl
       |1,_=>exact hr _ rfl ⟨1,.data⟩ (by simp) rfl
       |2,_=>exact hr _ rfl ⟨2,.data⟩ (by simp) rfl
       |3,_=>exact hr _ rfl ⟨3,.data⟩ (by simp) rfl
       |4,_=>exact hr _ rfl ⟨4,.data⟩ (by simp) rfl) (fun h=>by cases h)
     exact⟨h9,rfl,(Z1 rfl)⟩
   |6,hA,_,hd,hr=>
     obtain rfl:=Option.some.inj hA;exact⟨hinv.other qM qD qD (fun h=>by cases h) (fun h=>by cases h),rfl,(Z1 rfl)⟩
   |7,hA,_,hd,hr=>
     obtain rfl:=Option.some.inj hA;have hall:=hinv.f (hr _ rfl ⟨5,.data⟩ (by simp) rfl);refine⟨hinv.other qM qD qD (fun h=>by cases h) (fun h=>by cases h),rfl,?_⟩;obtain⟨j,hj4,hj⟩:=Zek hq;have hget:=hinv.m.get Z69 hj (hall (j+1) qM);obtain⟨r,hr0⟩:=hinv.m.some_ (hall 0 qD);obtain⟨⟨mp,es,n⟩,zo⟩:=s;dsimp only at hr0;subst hr0;exact ZdT Z1C Zf ZfT rfl rfl (List.mem_cons_of_mem _ List.mem_cons_self) (by dsimp only at hget;rw[hget];rfl)
   |8,hA,_,hd,hr=>
     obtain rfl:=Option.some.inj hA;exact⟨hinv.other qM qD qD (fun h=>by cases h) (fun h=>by cases h),rfl,(Z1 rfl)⟩
   |9,_,hbg,_,_=>exact absurd hbg qD
   |10,hA,_,hd,hr=>
     obtain rfl:=Option.some.inj hA;exact⟨hinv.other qM qD qD (fun h=>by cases h) (fun _=>hr _ rfl ⟨9,.data⟩ (by simp) rfl),rfl,(Z1T Zy rfl)⟩
   |i+11,hA,_,hd,hr=>simp at hA
 · intro s D i o hs hinv hA hbg hd hr
   match i,hA,hbg,hd,hr with
   |0,hA,_,hd,hr=>
     obtain rfl:=Option.some.inj hA;obtain⟨⟨mp,es,n⟩,zo⟩:=s;have hmp:mp=none:=by
       have:=hinv.m.a;dsimp only at this;rw[hd]at this;cases mp with
       |none=>rfl
       |some r=>cases this
     subst hmp;have h5:D.getD 5 false=false:=by
       cases h:D.getD 5 false with
       |false=>rfl
       |true=>have:=hinv.f h 0 qD;rw[hd]at this;cases this
     exact⟨rfl,.inl (Zbt.to (fun r=>⟨⟨⟨some r,[],0⟩,zo⟩,hinv.make qM hd r,fun j hj=>kwT0 h5 hd hj⟩) (fun _=>rfl) (fun _=>.swap _ _ _))⟩
   |1,hA,_,hd,hr=>
     obtain rfl:=Option.some.inj hA;obtain⟨⟨mp,es,n⟩,zo⟩:=s;obtain⟨r,hr0⟩:=hinv.m.some_ (hr _ rfl ⟨0,.data⟩ (by simp) rfl);dsimp only at hr0;subst hr0;have hg:=hinv.m.fresh Z69 (j:=0) rfl hd;have hi:=hinv.ins (j:=0) qM rfl qD hd (hr _ rfl ⟨0,.data⟩ (by simp) rfl);exact⟨rfl,.inl ((BigOb.ofM (Z2k Z1C Zf rfl rfl rfl hg (.there .here)) rfl).to (fun _=>⟨_,hi,fun j hj=>rfl⟩) (fun _=>rfl) (fun _=>.refl _))⟩
   |2,hA,_,hd,hr=>
     obtain rfl:=Option.some.inj hA;obtain⟨⟨mp,es,n⟩,zo⟩:=s;obtain⟨r,hr0⟩:=hinv.m.some_ (hr _ rfl ⟨0,.data⟩ (by simp) rfl);dsimp only at hr0;subst hr0;have hg:=hinv.m.fresh Z69 (j:=1) rfl hd;have hi:=hinv.ins (j:=1) qM rfl qD hd (hr _ rfl ⟨0,.data⟩ (by simp) rfl);exact⟨rfl,.inl ((BigOb.ofM (Z2k Z1C Zf rfl rfl rfl hg (.there .here)) rfl).to (fun _=>⟨_,hi,fun j hj=>rfl⟩) (fun _=>rfl) (fun _=>.refl _))⟩
   |3,hA,_,hd,hr=>
     obtain rfl:=Option.some.inj hA;obtain⟨⟨mp,es,n⟩,zo⟩:=s;obtain⟨r,hr0⟩:=hinv.m.some_ (hr _ rfl ⟨0,.data⟩ (by simp) rfl);dsimp only at hr0;subst hr0;have hg:=hinv.m.fresh Z69 (j:=2) rfl hd;have hi:=hinv.ins (j:=2) qM rfl qD hd (hr _ rfl ⟨0,.data⟩ (by simp) rfl);exact⟨rfl,.inl ((BigOb.ofM (Z2k Z1C Zf rfl rfl rfl hg (.there .here)) rfl).to (fun _=>⟨_,hi,fun j hj=>rfl⟩) (fun _=>rfl) (fun _=>.refl _))⟩
   |4,hA,_,hd,hr=>
     obtain rfl:=Option.some.inj hA;obtain⟨⟨mp,es,n⟩,zo⟩:=s;obtain⟨r,hr0⟩:=hinv.m.some_ (hr _ rfl ⟨0,.data⟩ (by simp) rfl);dsimp only at hr0;subst hr0;have hg:=hinv.m.fresh Z69 (j:=3) rfl hd;have hi:=hinv.ins (j:=3) qM rfl qD hd (hr _ rfl ⟨0,.data⟩ (by simp) rfl);exact⟨rfl,.inl ((BigOb.ofM (Z2k Z1C Zf rfl rfl rfl hg (.there .here)) rfl).to (fun _=>⟨_,hi,fun j hj=>rfl⟩) (fun _=>rfl) (fun _=>.refl _))⟩
   |5,_,hbg,_,_=>exact absurd hbg qD
   |6,_,hbg,_,_=>exact absurd hbg qD
   |7,_,hbg,_,_=>exact absurd hbg qD
   |8,_,hbg,_,_=>exact absurd hbg qD
   |9,hA,_,hd,hr=>
     obtain rfl:=Option.some.inj hA;obtain⟨m,zo⟩:=s;have hzo:zo=none:=by
       have:=hinv.z;dsimp only at this;rw[hd]at this;cases zo with
       |none=>rfl
       |some r=>cases this
     subst hzo;have h10:D.getD 10 false=false:=by
       cases h:D.getD 10 false with
       |false=>rfl
       |true=>have:=hinv.g h;rw[hd]at this;cases this
     exact⟨rfl,.inr ((Z6g rfl (hex r1.tail (ZH ((Z1c 1 _ _ hz1).1.trans hts)) (by have:=(ZG hlp).2;have h1:r1.length<ts.length:=(Z1c 1 _ _ hz1).2;omega)) (.refl _) qF qA).to (fun z=>⟨⟨m,some z.1⟩,hinv.call qM z.2,fun j hj=>kwT9 h10 hd hj⟩) (fun _=>rfl) (fun _=>.refl _))⟩
   |10,_,hbg,_,_=>exact absurd hbg qD
   |i+11,hA,_,hd,hr=>simp at hA
 intro s D hs hall hinv;obtain⟨⟨mp,es,n⟩,zo⟩:=s;obtain⟨r,hr0⟩:=hinv.m.some_ (hall 0 qD);dsimp only at hr0;subst hr0;have hzz:=hinv.z;rw[hall 9 qD]at hzz;obtain⟨z,hzo⟩:=Option.isSome_iff_exists.1 hzz.symm;dsimp only at hzo;subst hzo;have hzr:e (r1.tail)=some z:=hinv.r z rfl;refine JO.subL (L':=[PB T b z.2]++(⟨r,0,.ob (sObj es n)⟩::[⟨b4,Z7,.rep (ExR (nd 20 []))⟩,⟨b2,Z7,.is (.agg #[.int .i64 0,.int .i64 0,.int .i64 0,.string ⟨#[]⟩,.string ⟨#[]⟩,.string ⟨#[]⟩,.int .i64 0,.slice none 0 0])⟩])) (.refl _) (vD ?_);refine Jq (ZN rfl (Z2R q [z.1]) qA) ?_;refine JO.m (Z2 rfl rfl qU qC qO Zc) (by rfl) ?_;refine vS [0,2,4] ?_
 first|(refine J.has (L':=[PB T b z.2,⟨b4,Z7,.rep (ExR (nd q [z.1]))⟩,⟨b2,Z7,.is (.agg #[.int .i64 0,.int .i64 0,.int .i64 0,.string ⟨#[]⟩,.string ⟨#[]⟩,.string ⟨#[]⟩,.int .i64 0,.slice none 0 0])⟩]) (by repeat(first|exact .all|exact .nil|refine Has.cons (by repeat(first|exact .here|apply Pk.past|apply Pk.there)) ?_)) ?_;have husx:=(exprDn hzr).trans (ZH ((Z1c 1 _ _ hz1).1.trans hts)))|(have hst:isT 5 Z1g r1.tail=true:=(by simpa using ht37);rw[Z1z hst];have husx:=ZH (ZH ((Z1c 1 _ _ hz1).1.trans hts)))
 refine vQ ?_;refine Jm rfl (Jm rfl (JO.callK (Lr:=[_,_]) (ZE T hc b _ husx s_rp) rfl (.refl _) qF qA ?_));intro _ _;refine vD ?_;refine JO.callPK (Lr:=_) (Zt (.pointer (some ⟨b,0,none⟩)) (isT 5 s_rp _)) rfl (Z2a _) Z1Z qA (fun hbad=>?_) ?_
 · exact JX.pnI (by first|(unfold kwP;rw[hz1];simp only[Option.bind_some];rw[if_neg hT,if_neg hF,if_neg hN,hq];dsimp only;rw[wantY hlp];simp only[Option.bind_some];rw[Z3K hcnt,hst];simp only[Bool.true_and,if_true];rw[wantN hbad];rfl)|(first|(unfold kwP;rw[hz1];simp only[Option.bind_some];rw[if_neg hT,if_neg hF,if_neg hN,hq];dsimp only;rw[wantY hlp];simp only[Option.bind_some];rw[Z3K hcnt,hst];simp only[Bool.true_and,Bool.false_eq_true,if_false];rw[hzr];simp only[Option.bind_some];rw[wantN hbad];rfl)|(unfold kwP;rw[hz1];simp only[Option.bind_some];rw[if_neg hT,if_neg hF,if_neg hN,hq];dsimp only;rw[wantY hlp];simp only[Option.bind_some];rw[if_neg (by rw[Bool.and_eq_true];exact fun h=>Z6y hcnt h.1)];rw[hzr];simp only[Option.bind_some];rw[wantN hbad];rfl)))
 intro _ hrp;refine vD ?_;refine vS [2,4] ?_;rw[Z1z hrp];refine vQ ?_;refine Jq (Z1J Z8 rfl) (JO.m (Z2 rfl rfl qU qC qO Zc) (by rfl) ?_);refine vS [2] ?_;refine vR ?_;refine JX.toP ?_;exact JX.retLCs (Lr:=[_,_]) rfl (nd q [z.1],z.2.tail) (by unfold kwP;rw[hz1];simp only[Option.bind_some];rw[if_neg hT,if_neg hF,if_neg hN,hq];dsimp only;rw[wantY hlp];simp only[Option.bind_some];rw[if_neg (by rw[Bool.and_eq_true];exact fun h=>Z6y hcnt h.1)];rw[hzr];simp only[Option.bind_some];rw[wantY hrp];rfl) (.refl _) rfl rfl hb0 rfl Z8 HasOwn.mem Z1E (Sub.refl _)
 exfalso
 cases ht37
 try simp only[yd,yf]at ht21
 apply yK;refine vN ?_;apply yN;refine Jq (Zd (cs:=[]) Z8t .nil rfl rfl) (Jq (Zcc (d:=.struct #[]) qK rfl rfl) ?_);refine JO.pan rfl ?_;exact JX.pnI (by unfold kwP;rw[hz1];simp only[Option.bind_some];rw[if_neg hT,if_neg hF,if_neg hN,aggN ht21])
theorem Z3R{e:Ps Ex}{ts:List T3}(h:ts≠[]):atomP e ts=if((ts.headD t3D).k==3)=true then some (lit 1 (ts.headD t3D).n em,ts.tail)else if((ts.headD t3D).k==4)=true then some (lit 3 0 (ts.headD t3D).t,ts.tail)else if((ts.headD t3D).k==2)=true then(if isT 5 Z6z ts.tail=true then(nameP ts.tail.tail).map fun z=>(.mk 2 0 0 em (ts.headD t3D).t z.1 0 [],z.2)else some (.mk 2 0 0 em em (ts.headD t3D).t 0 [],ts.tail))else if((ts.headD t3D).k==1)=true then kwP e ts else(wantP 5 s_lp ts).bind fun y=>(e y.2).bind fun x=>(wantP 5 s_rp x.2).map fun v=>(x.1,v.2):=by
 cases ts with
 |nil=>exact absurd rfl h
 |cons t r=>rw[atomP];rfl
theorem Ze3{ts:List T3}(h:ts≠[])(hk:((ts.headD t3D).k==2)=true):nameP ts=some ((ts.headD t3D).t,ts.tail):=by
 cases ts with
 |nil=>exact absurd rfl h
 |cons t r=>unfold nameP;rw[takeP,if_pos (show(t.k==2)=true from hk)];rfl
theorem Z88(T:Tk)(hc:T.ts.length<=T.cap)(b:Nat)(ts:List T3)(hts:ts<:+T.ts)(e:Ps Ex)(exprDn: ∀{us:List T3} {z:Ex×List T3},e us=some z->z.2<:+us)(hex: ∀us,us<:+T.ts->us.length<ts.length->CallP Tryz.prog ZO [PB T b (us)] [T.G,AF] [.is (.pointer (some ⟨b,0,none⟩))] (e (us)=none) flt (fun z:Ex×List T3=>e (us)=some z) (fun z=>[PB T b z.2]) (fun z=>.rep (ExR z.1))):CallP Tryz.prog Z2S [PB T b ts] [T.G,AF] [.is (.pointer (some ⟨b,0,none⟩))] (atomP e ts=none) flt (fun z:Ex×List T3=>atomP e ts=some z) (fun z=>[PB T b z.2]) (fun z=>.rep (ExR z.1)):=
CallP.of (fn:=Tryz.f192) Tryz.func192 (n:=79) rfl rfl rfl (fun _ _=>by kernel_rfl) fun E W hb0=>by
 refine vQ ?_;refine JO.alloc Z14 rfl fun b2=>(vP [0,2] ?_);refine Jm rfl (Jm rfl (Jq (Z4 rfl) (Jq (Z0 Zq rfl) (Jq (Z5 ZC rfl rfl) (Jq (ZD ZR rfl) (Jq (Z1r rfl rfl) ?_))))));refine JO.callPK (Lr:=_) (Zt (.pointer (some ⟨b,0,none⟩)) _) rfl (Z2a _) Z1Z qA (fun hbad=>?_) ?_
 · exact JX.pnI (by cases ts with|nil=>rfl|cons t r=>simp at hbad)
 intro z hz;have hne:ts≠[]:=Z3b hz;refine vD ?_;refine vP [0,2] ?_;refine Jm rfl (Jq (Z4 rfl) (Jq (Z0 Zq rfl) (Jq (Z5 ZC rfl rfl) (Jq (Zi Z1f rfl rfl rfl qM (Z2T hne)) ?_))));refine Jq (Z3W (enc:=T3.cells) (sz:=3) (i:=T.k ts) (y:=ts.headD t3D) (cs:=T3.cells (ts.headD t3D)) ZM rfl qI rfl (Tk.head hts hne) (by rw[Tk.j_eq hc hts hne];rfl) rfl) ?_;refine JO.alloc Z1q rfl fun b3=>(JO.m (Z2 rfl rfl qU qC qO ZL) (by rfl) ?_);refine vP [0,2,3] ?_;refine Jq (Z0 Z1i rfl) (Jq (Z5 Zx rfl rfl) (vS [0,2,3,21] ?_));apply yk;refine vQ ?_;refine Jq (ZP rfl rfl) (Ja rfl (vS [0,2,3,21,22] ?_));refine yC rfl (fun ht22=>?_) (fun ht22=>?_);have k3:((ts.headD t3D).k==3)=true:=ht22;refine vQ ?_;refine Jm rfl (Jm rfl (Jq (Z4 rfl) (Jq (Z0 Zq rfl) (Jq (Z5 ZC rfl rfl) (Jq (Z6B ZR Z1f rfl rfl qM (by have:=Z2T hne;omega)) ?_)))));refine Jq (Z4 rfl) (Jq (Z0 Zq rfl) (JO.m (Z9 (cs':=[_]) rfl rfl qU rfl rfl rfl rfl Z4j) (by rfl) ?_));refine vP [2,3] ?_;refine Jq (Z0 Z8x rfl) (Jq (Z5 Zd7 rfl rfl) (Jq (Zd (cs:=[_,_,_]) Z2G (.cons rfl (.cons rfl .nil)) rfl rfl) (Jq (ZN rfl (Z3z 1 (ts.headD t3D).n em) qA) ?_)));refine JO.m (Z2 rfl rfl qU qC qO Zc) (by rfl) ?_;refine vS [2] ?_;refine vR ?_;refine JX.toP ?_;exact JX.retLCs (Lr:=[_,_]) rfl (lit 1 (ts.headD t3D).n em,ts.tail) (by rw[Z3R hne];rw[if_pos k3]) (List.Perm.trans (List.perm_append_comm (l₁:=[_,_]) (l₂:=[_])) (.of_eq (congrArg (fun v=>Own.mk b Z2Y (.is (.agg #[v]))::[_,_]) (Tk.tail hc hts hne)))) rfl rfl hb0 rfl Z8 HasOwn.mem Z1E (Sub.refl _);have n3: ¬((ts.headD t3D).k==3)=true:=by rw[ht22];decide
 refine vQ ?_;refine Jq (ZP rfl rfl) (Ja rfl (vS [0,2,3,21,36] ?_));refine yC rfl (fun ht36=>?_) (fun ht36=>?_);have k4:((ts.headD t3D).k==4)=true:=ht36;refine vQ ?_;refine Jm rfl (Jm rfl (Jq (Z4 rfl) (Jq (Z0 Zq rfl) (Jq (Z5 ZC rfl rfl) (Jq (Z6B ZR Z1f rfl rfl qM (by have:=Z2T hne;omega)) ?_)))));refine Jq (Z4 rfl) (Jq (Z0 Zq rfl) (JO.m (Z9 (cs':=[_]) rfl rfl qU rfl rfl rfl rfl Z4j) (by rfl) ?_));refine vP [2,3] ?_;refine Jq (Z0 Z1x rfl) (Jq (Z5 Zr rfl rfl) (Jq (Zd (cs:=[_,_,_]) Z2G (.cons rfl (.cons rfl .nil)) rfl rfl) (Jq (ZN rfl (Z3z 3 0 (ts.headD t3D).t) qA) ?_)));refine JO.m (Z2 rfl rfl qU qC qO Zc) (by rfl) ?_;refine vS [2] ?_;refine vR ?_;refine JX.toP ?_;exact JX.retLCs (Lr:=[_,_]) rfl (lit 3 0 (ts.headD t3D).t,ts.tail) (by rw[Z3R hne];rw[if_neg n3,if_pos k4]) (List.Perm.trans (List.perm_append_comm (l₁:=[_,_]) (l₂:=[_])) (.of_eq (congrArg (fun v=>Own.mk b Z2Y (.is (.agg #[v]))::[_,_]) (Tk.tail hc hts hne)))) rfl rfl hb0 rfl Z8 HasOwn.mem Z1E (Sub.refl _);have n4: ¬((ts.headD t3D).k==4)=true:=by rw[ht36];decide
 refine vQ ?_;refine Jq (ZP rfl rfl) (Ja rfl (vS [0,2,21,50] ?_));refine yC rfl (fun ht50=>?_) (fun ht50=>?_);have k2:((ts.headD t3D).k==2)=true:=ht50;refine vQ ?_;refine Jm rfl ?_;refine JO.callPK (Lr:=[_,_]) (ZS T hc b ts hts) rfl (List.perm_append_comm (l₁:=[_,_]) (l₂:=[_])) qF qA (fun hbad=>?_) ?_
 · exact JX.pnI (by exact absurd hbad (by rw[Ze3 hne k2];simp))
 intro z1 hz1;obtain rfl:z1=((ts.headD t3D).t,ts.tail):=by rw[Ze3 hne k2]at hz1;exact(Option.some.inj hz1).symm
 refine vD ?_;refine Jq (Zd (cs:=[_,_,_,_,_,_,_,_]) Z1a (.cons rfl (.cons rfl .nil)) rfl rfl) (JO.alloc Z14 rfl fun b4=>(JO.m (Z2 rfl rfl qU qC qO Zc) (by rfl) ?_));refine vP [0,2,4] ?_;refine Jm rfl (JO.callK (Lr:=[_,_,_]) (ZE T hc b ts.tail (ZH hts) Z6z) rfl (.swap _ _ _) qF qA ?_);intro _ _;refine vD ?_;refine vS [0,2,4,56] ?_;refine yC rfl (fun ht56=>?_) (fun ht56=>?_);have hdt:isT 5 Z6z ts.tail=true:=ht56;rw[Z1z hdt]
 repeat apply yQ
 refine J.regBPm (Bad:=nameP ts.tail.tail=none) (ch:=flt) (G:={z:ByteArray×List T3 // nameP ts.tail.tail=some z}) 3 5 (fun hbad=>?_) (Tg:=fun g=>.is (.string g.1.1)) (Lg:=fun g=>[PB T b g.1.2]++[⟨b4,Z7,.is (.agg #[.int .i64 2,.int .i64 0,.int .i64 0,.string ⟨#[]⟩,.string ⟨#[]⟩,.string (ts.headD t3D).t,.int .i64 0,.slice none 0 0])⟩,⟨b3,Z1h,.is (.agg #[.int .i64 (ts.headD t3D).k,.string (ts.headD t3D).t,.int .i64 (ts.headD t3D).n])⟩,⟨b2,Z7,.is (.agg #[.int .i64 0,.int .i64 0,.int .i64 0,.string ⟨#[]⟩,.string ⟨#[]⟩,.string ⟨#[]⟩,.int .i64 0,.slice none 0 0])⟩]) ([⟨b4,Z7,.is (.agg #[.int .i64 2,.int .i64 0,.int .i64 0,.string ⟨#[]⟩,.string ⟨#[]⟩,.string (ts.headD t3D).t,.int .i64 0,.slice none 0 0])⟩,⟨b3,Z1h,.is (.agg #[.int .i64 (ts.headD t3D).k,.string (ts.headD t3D).t,.int .i64 (ts.headD t3D).n])⟩,⟨b2,Z7,.is (.agg #[.int .i64 0,.int .i64 0,.int .i64 0,.string ⟨#[]⟩,.string ⟨#[]⟩,.string ⟨#[]⟩,.int .i64 0,.slice none 0 0])⟩]) rfl rfl rfl rfl hmx qK rfl qK (fun _ h=>List.mem_cons_of_mem _ h) (fun g o ho=>List.mem_cons_of_mem _ ho) ?_
 · exact JX.pnI (by rw[Z3R hne];rw[if_neg n3,if_neg n4,if_pos k2];rw[if_pos hdt,hbad];rfl)
 refine yz (Z0 Z52 rfl) (yz (Z5 Zr rfl rfl) (yz (Z1 rfl) ?_));refine RT.bigP (Lq:=[⟨b4,Z7,.is (.agg #[.int .i64 2,.int .i64 0,.int .i64 0,.string ⟨#[]⟩,.string ⟨#[]⟩,.string (ts.headD t3D).t,.int .i64 0,.slice none 0 0])⟩,⟨b3,Z1h,.is (.agg #[.int .i64 (ts.headD t3D).k,.string (ts.headD t3D).t,.int .i64 (ts.headD t3D).n])⟩,⟨b2,Z7,.is (.agg #[.int .i64 0,.int .i64 0,.int .i64 0,.string ⟨#[]⟩,.string ⟨#[]⟩,.string ⟨#[]⟩,.int .i64 0,.slice none 0 0])⟩]) (Z6g rfl (ZS T hc b ts.tail.tail (ZH (ZH hts))) (.refl _) qF qA) ?_;refine yz (Z0 Z6t rfl) ?_;apply yn;intro g;obtain⟨z,hg2⟩:=g;refine vD ?_;refine JO.m (Z9 (cs':=[_,_,_,_,_,_,_,_]) rfl rfl qU rfl rfl rfl rfl Z2Q) (by rfl) ?_;refine Jq (Z0 Z52 rfl) (JO.m (Z9 (cs':=[_,_,_,_,_,_,_,_]) rfl rfl qU rfl rfl rfl rfl Z2Q) (by rfl) ?_);refine vS [2,4] ?_
 first|(have hdt:isT 5 Z6z ts.tail=false:=ht56;rw[Z21 hdt])|skip
 refine vQ ?_;refine Jq (Ob.im (ZU (cs:=[_,_,_,_,_,_,_,_]) Z8 rfl rfl rfl) (Sub.leaf (k:=2) (vk:=0) (vn:=0) (vs:=em) (sl:=0))) (JO.m (Z2 rfl rfl qU qC qO Zc) (by rfl) ?_);refine vS [2] ?_;refine vR ?_;refine JX.toP ?_;exact JX.retLCs (Lr:=[_,_,_]) rfl (.mk 2 0 0 em (ts.headD t3D).t z.1 0 [],z.2) (by rw[Z3R hne];rw[if_neg n3,if_neg n4,if_pos k2];rw[if_pos hdt,hg2];rfl) (.refl _) rfl rfl hb0 rfl Z8 HasOwn.mem Z1E (Sub.refl _);apply yK
 repeat first|apply yX|apply yB
 first|(have hdt:isT 5 Z6z ts.tail=false:=ht56;rw[Z21 hdt])|skip
 refine vQ ?_;refine Jq (Ob.im (ZU (cs:=[_,_,_,_,_,_,_,_]) Z8 rfl rfl rfl) (Sub.leaf (k:=2) (vk:=0) (vn:=0) (vs:=em) (sl:=0))) (JO.m (Z2 rfl rfl qU qC qO Zc) (by rfl) ?_);refine vS [2] ?_;refine vR ?_;refine JX.toP ?_;exact JX.retLCs (Lr:=[_,_,_]) rfl (.mk 2 0 0 em em (ts.headD t3D).t 0 [],ts.tail) (by rw[Z3R hne];rw[if_neg n3,if_neg n4,if_pos k2];rw[if_neg (by rw[hdt];decide)]) (.refl _) rfl rfl hb0 rfl Z8 HasOwn.mem Z1E (Sub.refl _);have n2: ¬((ts.headD t3D).k==2)=true:=by rw[ht50];decide
 refine vQ ?_;refine Jq (ZP rfl rfl) (Ja rfl (vS [0,2,64] ?_));refine yC rfl (fun ht64=>?_) (fun ht64=>?_);have k1:((ts.headD t3D).k==1)=true:=ht64;refine vQ ?_;refine Jm rfl ?_;refine JO.callPK (Lr:=[_,_]) (Z6Z T hc b ts hts e exprDn hex) rfl (List.perm_append_comm (l₁:=[_,_]) (l₂:=[_])) qF qA (fun hbad=>?_) ?_
 · exact JX.pnI (by rw[Z3R hne];rw[if_neg n3,if_neg n4,if_neg n2,if_pos k1];exact hbad)
 intro z hz;refine vD ?_;refine JO.m (Z2 rfl rfl qU qC qO Zc) (by rfl) ?_;refine vS [2] ?_;refine vR ?_;refine JX.toP ?_;exact JX.retLCs (Lr:=[_,_]) rfl z (by rw[Z3R hne];rw[if_neg n3,if_neg n4,if_neg n2,if_pos k1];exact hz) (.refl _) rfl rfl hb0 rfl Z8 HasOwn.mem Z1E (Sub.refl _);apply yK
 repeat first|apply yX|apply yB
 have n1: ¬((ts.headD t3D).k==1)=true:=by rw[ht64];decide
 refine vQ ?_;refine Jm rfl (Jm rfl (JO.callK (Lr:=[_,_]) (ZE T hc b ts hts s_lp) rfl (List.perm_append_comm (l₁:=[_,_]) (l₂:=[_])) qF qA ?_));intro _ _;refine vD ?_;refine JO.callPK (Lr:=_) (Zt (.pointer (some ⟨b,0,none⟩)) (isT 5 s_lp ts)) rfl (Z2a _) Z1Z qA (fun hbad=>?_) ?_
 · exact JX.pnI (by rw[Z3R hne];rw[if_neg n3,if_neg n4,if_neg n2,if_neg n1];rw[wantN hbad];rfl)
 intro _ hlp;refine vD ?_;refine vS [0,2] ?_;rw[Z1z hlp];refine vQ ?_;refine Jm rfl ?_;refine JO.callPK (Lr:=[_,_]) (hex ts.tail (ZH hts) (ZG hlp).2) rfl (.refl _) qF qA (fun hbad=>?_) ?_
 · exact JX.pnI (by rw[Z3R hne];rw[if_neg n3,if_neg n4,if_neg n2,if_neg n1];rw[wantY hlp];simp only[Option.bind_some];rw[hbad];rfl)
 intro z hz;refine vD ?_;refine JO.alloc Z14 rfl fun b5=>(JO.m (Z2 rfl rfl qU qC qO Zc) (by rfl) ?_);refine vP [0,2,5] ?_;refine Jm rfl (Jm rfl (JO.callK (Lr:=[_,_,_]) (ZE T hc b z.2 ((exprDn hz).trans (ZH hts)) s_rp) rfl (.swap _ _ _) qF qA ?_));intro _ _;refine vD ?_;refine JO.callPK (Lr:=_) (Zt (.pointer (some ⟨b,0,none⟩)) (isT 5 s_rp z.2)) rfl (Z2a _) Z1Z qA (fun hbad=>?_) ?_
 · exact JX.pnI (by rw[Z3R hne];rw[if_neg n3,if_neg n4,if_neg n2,if_neg n1];rw[wantY hlp];simp only[Option.bind_some];rw[hz];simp only[Option.bind_some];rw[wantN hbad];rfl)
 intro _ hrp;refine vD ?_;refine vS [2,5] ?_;rw[Z1z hrp];refine vQ ?_;refine Jq (Z1J Z8 rfl) (JO.m (Z2 rfl rfl qU qC qO Zc) (by rfl) ?_);refine vS [2] ?_;refine vR ?_;refine JX.toP ?_;exact JX.retLCs (Lr:=[_,_,_]) rfl (z.1,z.2.tail) (by rw[Z3R hne];rw[if_neg n3,if_neg n4,if_neg n2,if_neg n1];rw[wantY hlp];simp only[Option.bind_some];rw[hz];simp only[Option.bind_some];rw[wantY hrp];rfl) (.refl _) rfl rfl hb0 rfl Z8 HasOwn.mem Z1E (Sub.refl _)
theorem exprDn'(N:Nat){us:List T3}{z:Ex×List T3}(h:exprP N us=some z):z.2<:+us:=(Z2K N _ _ h).1
theorem Z9F(T:Tk)(hc:T.ts.length<=T.cap)(b:Nat): ∀(N:Nat) (ts:List T3),ts<:+T.ts->ts.length<N->CallP Tryz.prog ZO [PB T b (ts)] [T.G,AF] [.is (.pointer (some ⟨b,0,none⟩))] (exprP N (ts)=none) flt (fun z:Ex×List T3=>exprP N (ts)=some z) (fun z=>[PB T b z.2]) (fun z=>.rep (ExR z.1))
 |0,ts,hts,hl=>absurd hl qM
 |N+1,ts,hts,hl=>by
   have he:=(Z2K N).le;have hat: ∀us,us<:+T.ts->us.length<=N->CallP Tryz.prog Z2S [PB T b (us)] [T.G,AF] [.is (.pointer (some ⟨b,0,none⟩))] (atomP (exprP N) (us)=none) flt (fun z:Ex×List T3=>atomP (exprP N) (us)=some z) (fun z=>[PB T b z.2]) (fun z=>.rep (ExR z.1)):=fun us hus hu=>Z88 T hc b us hus (exprP N) (exprDn' N) fun vs hvs hv=>Z9F T hc b N vs hvs qM;have hfa: ∀us,us<:+T.ts->us.length<=N->CallP Tryz.prog Z1Y [PB T b (us)] [T.G,AF] [.is (.pointer (some ⟨b,0,none⟩))] (factorP (exprP N) (us)=none) flt (fun z:Ex×List T3=>factorP (exprP N) (us)=some z) (fun z=>[PB T b z.2]) (fun z=>.rep (ExR z.1)):=fun us hus hu=>Z4I T hc b (exprP N) N hat us.length us hus hu (Nat.le_refl _);have hpr: ∀us,us<:+T.ts->us.length<=N->CallP Tryz.prog Z2H [PB T b (us)] [T.G,AF] [.is (.pointer (some ⟨b,0,none⟩))] (prodP (exprP N) (us)=none) flt (fun z:Ex×List T3=>prodP (exprP N) (us)=some z) (fun z=>[PB T b z.2]) (fun z=>.rep (ExR z.1)):=fun us hus hu=>Z6W T hc b us hus (exprP N) he fun vs hvs hv=>hfa vs hvs qM;have hsu: ∀us,us<:+T.ts->us.length<=N->CallP Tryz.prog Z38 [PB T b (us)] [T.G,AF] [.is (.pointer (some ⟨b,0,none⟩))] (sumP (exprP N) (us)=none) flt (fun z:Ex×List T3=>sumP (exprP N) (us)=some z) (fun z=>[PB T b z.2]) (fun z=>.rep (ExR z.1)):=fun us hus hu=>Z9a T hc b us hus (exprP N) he fun vs hvs hv=>hpr vs hvs qM;have hno: ∀us,us<:+T.ts->us.length<=N->CallP Tryz.prog Z2h [PB T b (us)] [T.G,AF] [.is (.pointer (some ⟨b,0,none⟩))] (notP (exprP N) (us)=none) flt (fun z:Ex×List T3=>notP (exprP N) (us)=some z) (fun z=>[PB T b z.2]) (fun z=>.rep (ExR z.1)):=fun us hus hu=>Z5t T hc b (exprP N) he N hsu us.length us hus hu (Nat.le_refl _);have han: ∀us,us<:+T.ts->us.length<=N->CallP Tryz.prog Z3c [PB T b (us)] [T.G,AF] [.is (.pointer (some ⟨b,0,none⟩))] (andP (exprP N) (us)=none) flt (fun z:Ex×List T3=>andP (exprP N) (us)=some z) (fun z=>[PB T b z.2]) (fun z=>.rep (ExR z.1)):=fun us hus hu=>Z8S T hc b us hus (exprP N) he fun vs hvs hv=>hno vs hvs qM;exact Z8e T hc b ts hts (exprP N) he fun vs hvs hv=>han vs hvs qM
end Go.Proofs.YtbedigkncjbggaaGreatDoor
