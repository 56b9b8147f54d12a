/- The document's reader: CREATE. No condition. -/
import Derived.Test.YtbedigkncjbggaaGreatDoorXQ14
import Derived.Test.YtbedigkncjbggaaGreatDoorXG8
import Derived.Test.YtbedigkncjbggaaGreatDoorXQ1
set_option maxRecDepth 20000
namespace Go.Proofs.YtbedigkncjbggaaGreatDoor
open Go Go.Vc
open Go.Pz
abbrev colC(c:Col):Cel coE:=⟨c,c.cells,rfl,by
 intro u hu;simp only[Col.cells,List.mem_cons,List.mem_nil_iff,or_false]at hu;rcases hu with rfl|rfl|rfl|rfl<;>rfl⟩
abbrev strE(s:ByteArray):Cel stE:=⟨s,[.string s],rfl,fun u h=>by rw[List.mem_singleton.1 h];rfl⟩
theorem Zml(l:List Col):(l.map colC).map Cel.x=l:=by rw[List.map_map];exact List.map_id _
theorem ZlW(l:List ByteArray):(l.map strE).map Cel.x=l:=by rw[List.map_map];exact List.map_id _
theorem ZlU(l:List Col)(w:World):CelF coE (l.map colC) w:=fun p hp=>by obtain⟨c,_,rfl⟩:=List.mem_map.1 hp;rfl
theorem Ze1(l:List ByteArray)(w:World):CelF stE (l.map strE) w:=fun p hp=>by obtain⟨c,_,rfl⟩:=List.mem_map.1 hp;rfl
theorem ZeV{α β:Type}(f:α->β)(l:List α)(x:α):l.map f++[f x]=(l++[x]).map f:=by rw[List.map_append,List.map_singleton]
theorem Rv.cap{α:Type}{us:List T3}{bad:Bool}(n m:Nat)(x:α):Rv (if n<=m then some (x,us)else none) us bad (x,us,bad||decide ((m:Int)<(n:Int))):=by
 by_cases h:n<=m
 · rw[if_pos h,show(bad||decide ((m:Int)<(n:Int)))=bad by rw[decide_eq_false qM,Bool.or_false]];exact Rv.pure x
 · rw[if_neg h,show(bad||decide ((m:Int)<(n:Int)))=true by rw[decide_eq_true qM,Bool.or_true]];exact Rv.none x
theorem Z28{st:Option (Nat×List Value)}{e:TypeId}{L L':List Own}{o o':Own}(h:Upd L o o' L'):Upd (ownO st e L) o o' (ownO st e L'):=by
 cases st with
 |none=>exact h
 |some p=>exact .there h
theorem Tl.zero{e:TypeId}{L:List Own}:Tl e L none L:=Tl.here (st:=none)
theorem ZjZ:Dn colR:=by rw[Zgm];exact ZcE
theorem Z7K(T:Rk)(b0 o0:Nat)(ha:T.ts.length≠0->T.ad=some ⟨b0,o0,none⟩)(h9:T.ts.length<=2049)(b:Nat)(us:List T3)(hus:us<:+T.ts)(bad:Bool):CallL Tryz.prog Z7T [RB T b us bad] [T.G] [.is (.pointer (some ⟨b,0,none⟩))] (fun z:Pz.St×List T3×Bool=>Rv (createR us) us bad z) (fun z=>[RB T b z.2.1 z.2.2]) (fun z=>.rep (StR 0 z.1)):=
CallL.of (fn:=Tryz.f32) Tryz.func32 (n:=74) rfl rfl rfl (fun _ _=>by kernel_rfl) fun E W hb0=>by
 refine vQ ?_;refine JO.alloc Z1Q rfl fun b2=>(vP [0,2] ?_);refine Jq (Zg (cs:=[_,_,_,_,_,_,_,_,_,_,_,_,_,_]) Z38 (.cons rfl (.cons rfl .nil)) rfl rfl) (JO.alloc Z1Q rfl fun b3=>(JO.m (Z4 rfl rfl qU (by exact Zh rfl rfl) (by first|exact Zh rfl rfl|exact ZQ) ZV) (by rfl) ?_));refine vP [0,2,3] ?_;refine Jm rfl ?_;refine JO.callK (Lr:=[_,_]) (Zm T b0 o0 ha h9 b _ ?hs _ ZcX) rfl qP qF qA ?_
 case hs=>exact qW
 intro _ _;refine vD ?_;refine vS [0,2,3,7] ?_;refine yC rfl (fun ht7=>?_) (fun ht7=>?_);rw[Z1f ht7];refine vQ ?_;refine Jm rfl ?_;refine JO.callK (Lr:=[_,_]) (ZY T b0 o0 ha h9 b _ ?hs _) rfl qP qF qA ?_
 case hs=>exact qW
 intro z1 hz1;refine vD ?_;refine Jq (Z0 Z1V rfl) (JO.m (Zj (cs':=[_,_,_,_,_,_,_,_,_,_,_,_,_,_]) rfl rfl qU rfl rfl rfl rfl Z4a) (by rfl) ?_);refine vP [0,2,3] ?_;refine Jm rfl ?_;refine JO.callK (Lr:=[_,_]) (Zl T b0 o0 ha h9 b _ ?hs _ 5 qD s_lp) rfl qP qF qA ?_
 case hs=>exact qW
 intro z5 hz5;have hu5:z5.2.1<:+T.ts:=qW;refine vD ?_;refine vP [0,2,3] ?_;refine Ja rfl (vS [0,2,3,4] ?_);apply yk
 repeat apply yQ
 refine J.loopG (α:=List Col×Option (Nat×List Value)×Nat×List T3×Bool×Bool) (fun x=>[(0,.is (.pointer (some ⟨b,0,none⟩))),(2,.is (.pointer (some ⟨b2,0,none⟩))),(3,.is (.pointer (some ⟨b3,0,none⟩))),(4,.is (.bool x.2.2.2.2.2))]) (fun x=>RB T b x.2.2.2.1 x.2.2.2.2.1::⟨b3,Z3,.is (.agg #[.int .i64 1,.string z1.1,.string ⟨#[]⟩,sliceO x.2.1 (x.1.map colC).length x.2.2.1,.slice none 0 0,.slice none 0 0,.slice none 0 0,.slice none 0 0,.slice none 0 0,.slice none 0 0,.slice none 0 0,.int .i64 (-1),.slice none 0 0,.bool false])⟩::⟨b2,Z3,zSt⟩::ownO x.2.1 Z1X []) (fun x=>fun _=>True) (fun x=>InvW colR z5.2.1 z5.2.2 x.1 x.2.2.2.1 x.2.2.2.2.1 x.2.2.2.2.2/\Grows Cel.cs 4 (x.1.map colC) x.2.1 x.2.2.1) (fun x=>x.2.2.2.1.length+(if x.2.2.2.2.2 then 1 else 0)) ([],none,0,z5.2.1,z5.2.2,true) [0,2,3,4] (.cons rfl (.cons rfl (.cons rfl (.cons rfl .nil)))) rfl (fun _=>trivial) ⟨InvW.start _ _ _,rfl⟩ fun⟨acc,st,cap,vs,bd,mo⟩ ⟨hI,hG⟩=>?_;try dsimp only
 try dsimp only at hI
 try dsimp only at hG
 refine vQ ?_;refine Jm rfl (Jm rfl (JO.tg rfl rfl rfl rfl rfl (fun hg=>Z2 (.inl rfl)) (JO.tg rfl rfl rfl rfl rfl (fun hg=>Z5 (qR rfl)) ?_)));refine JO.tg rfl rfl rfl rfl rfl (fun hg=>Z0 Ze (qR rfl)) ?_;refine JO.tg rfl rfl rfl rfl rfl (fun hg=>Z1 Z1E (qR rfl) rfl) ?_;refine JO.tg rfl rfl rfl rfl rfl (fun hg=>Z2e (qR rfl)) ?_;refine Jq (Zn rfl rfl rfl id) (vS [0,2,3,20] ?_);refine yC rfl (fun ht20=>?_) (fun ht20=>?_);apply yK;refine vN ?_;apply yk;obtain⟨rfl,rfl⟩:mo=true/\bd=false:=by simpa using ht20
 repeat apply yQ
 refine J.regBgm (G:={z:Col×List T3×Bool // Rv (colR vs) vs false z}) 3 5 (fun g=>.is (.agg g.1.1.cells.toArray)) (fun g=>[RB T b g.1.2.1 g.1.2.2]++(⟨b3,Z3,.is (.agg #[.int .i64 1,.string z1.1,.string ⟨#[]⟩,sliceO st (acc.map colC).length cap,.slice none 0 0,.slice none 0 0,.slice none 0 0,.slice none 0 0,.slice none 0 0,.slice none 0 0,.slice none 0 0,.int .i64 (-1),.slice none 0 0,.bool false])⟩::⟨b2,Z3,zSt⟩::ownO st Z1X [])) ([⟨b3,Z3,.is (.agg #[.int .i64 1,.string z1.1,.string ⟨#[]⟩,sliceO st (acc.map colC).length cap,.slice none 0 0,.slice none 0 0,.slice none 0 0,.slice none 0 0,.slice none 0 0,.slice none 0 0,.slice none 0 0,.int .i64 (-1),.slice none 0 0,.bool false])⟩]) rfl rfl rfl rfl hmx qK rfl qK (fun o ho=>by rw[List.mem_singleton.1 ho];exact List.mem_cons_of_mem _ List.mem_cons_self) (fun g o ho=>by rw[List.mem_singleton.1 ho];exact List.mem_cons_of_mem _ List.mem_cons_self) qK ?_;refine yz (Z0 Z4p rfl) (yz (Z1 Z4f rfl rfl) (yz (Z2 rfl) ?_));refine RT.bigg (Lq:=[⟨b3,Z3,.is (.agg #[.int .i64 1,.string z1.1,.string ⟨#[]⟩,sliceO st (acc.map colC).length cap,.slice none 0 0,.slice none 0 0,.slice none 0 0,.slice none 0 0,.slice none 0 0,.slice none 0 0,.slice none 0 0,.int .i64 (-1),.slice none 0 0,.bool false])⟩]) (Z3x (Lr:=⟨b3,Z3,.is (.agg #[.int .i64 1,.string z1.1,.string ⟨#[]⟩,sliceO st (acc.map colC).length cap,.slice none 0 0,.slice none 0 0,.slice none 0 0,.slice none 0 0,.slice none 0 0,.slice none 0 0,.slice none 0 0,.int .i64 (-1),.slice none 0 0,.bool false])⟩::⟨b2,Z3,zSt⟩::ownO st Z1X []) rfl (Z7P T b0 o0 ha h9 b vs (hI.suf.trans hu5) false) (.refl _) qF qA) (fun g=>?_);refine yz (Z2d (p:=colC g.1.1) Zjl Z7g rfl qD rfl) ?_;apply yn;obtain⟨z2,hz2⟩:=g;try dsimp only
 refine JO.apO (ys:=[colC z2.1]) Z7e Cel.hlen yV hG rfl rfl (srcE (colC z2.1) Z3D) (by simp) (by rw[List.length_map];have:=hI.len;have:=(hu5).length_le;(try dsimp only at*);simp;omega) (by rw[List.length_map];have:=hI.len;have:=(hu5).length_le;simp;omega) rfl (fun st2 cap2 hG2=>?_);rw[ZeV]at hG2 ⊢;refine Jq (Z0 Z4p rfl) (JO.m (Z2Q (cs':=[_,_,_,_,_,_,_,_,_,_,_,_,_,_]) (Z2H _ _ _) (Z2T _ _ _) rfl rfl (Z28 (.there .here)) rfl rfl Zbl) (Upd.same (Z28 (.there .here)) rfl) (JO.subL (L':=RB T b z2.2.1 z2.2.2::⟨b3,Z3,.is (.agg #[.int .i64 1,.string z1.1,.string ⟨#[]⟩,sliceO st2 ((acc++[z2.1]).map colC).length cap2,.slice none 0 0,.slice none 0 0,.slice none 0 0,.slice none 0 0,.slice none 0 0,.slice none 0 0,.slice none 0 0,.int .i64 (-1),.slice none 0 0,.bool false])⟩::⟨b2,Z3,zSt⟩::ownO st2 Z1X []) (Z4Q (L:=[_,_,_])).symm (vP [0,2,3] ?_)));refine Jm rfl ?_;refine JO.callK (Lr:=_) (Z10 T b0 o0 ha h9 b _ ?hs _ ZU) rfl (.refl _) qF qA ?_
 case hs=>exact qW
 intro _ _;refine vD ?_;refine Ja rfl ?_;apply yI
 repeat refine JX.normal_block ?_
 refine JX.roundG (x:=(acc,st,cap,vs,false,true)) (acc++[z2.1],st2,cap2,skRB 5 ZU z2.2.1 z2.2.2,z2.2.2,isRB 5 ZU z2.2.1 z2.2.2) ?_ ?_ [0,2,3,4] ?_ ?_ ?_ ?_
 · exact⟨hI.step ZjZ hz2,hG2⟩
 · exact(by show _<vs.length+1;exact InvW.less hz2)
 · exact qS
 · exact qH
 · exact qG
 · exact fun _ _ _=>fun _ _=>trivial
 repeat apply yQ
 refine J.exit ?_
 repeat first|refine yH ?_|refine yM rfl ?_|refine yE ?_
 repeat first|apply yX|apply yB
 have hF:=hI.fin (by simpa using ht20);refine vQ ?_;refine Jm rfl ?_;refine JO.callK (Lr:=_) (Zl T b0 o0 ha h9 b _ ?hs _ 5 qD s_rp) rfl (.refl _) qF qA ?_
 case hs=>exact qW
 intro z9 hz9;refine vD ?_;refine vP [0,2,3] ?_;refine Jm rfl (Jm rfl (Jq (Z5 rfl) (Jq (Z0 Ze rfl) (Jq (Z1 Z1E rfl rfl) (Jm rfl (JO.tg rfl rfl rfl rfl rfl (fun hg=>Z0 Z4p (.inl rfl)) (JO.tg rfl rfl rfl rfl rfl (fun hg=>Z1 Z4f (qR rfl) rfl) ?_)))))));refine JO.tg rfl rfl rfl rfl rfl (fun hg=>Z6g hG Z3D (qR rfl)) ?_;refine JO.tg rfl rfl rfl rfl rfl (fun hg=>Z13 (qR rfl) (.inl rfl)) ?_;refine Jq (ZF rfl rfl rfl id) (Jq (Z5 rfl) (Jq (Z0 Ze rfl) (JO.m (Zj (cs':=[_,_,_]) rfl rfl qU rfl rfl rfl rfl Z2D) (by rfl) ?_)));refine vS [2,3] ?_;refine J.freezeOMW (N:=0) (e:=Z1X) (sz:=4) (Nat.zero_le _) Cel.hlen hG yV (fun q hq=>by simp only[List.map_cons,List.map_nil,List.mem_singleton]at hq;exact⟨_,List.mem_cons_self,hq.symm⟩) rfl rfl ?_;rw[hG.sl.1];refine vQ ?_;refine Jq (ZR (cs:=[_,_,_,_,_,_,_,_,_,_,_,_,_,_]) ZL rfl rfl rfl) (JO.m (Z4 rfl rfl qU (by exact Zh rfl rfl) (by first|exact Zh rfl rfl|exact ZQ) ZV) (by rfl) ?_);refine vS [2] ?_;refine vR ?_;refine JX.retLCs (Lr:=[_,_]) rfl ({stK 1 with tb:=z1.1,cols:=acc},z9.2.1,z9.2.2||decide (((16:Nat):Int)<(((acc.map colC).length:Nat):Int))) ?_ qP rfl rfl hb0 rfl ZL HasOwn.mem (Z1o rfl) (Sub.st rfl fun X w hf w' hk=>⟨(by have h:=SlE.ofGr hG (hf _ qI w' hk) (ZlU acc w') (hf _ qI w' hk);rwa [Zml,hG.sl.1]at h),Zw (FrS.nil _),Zw trivial,Zw trivial,Zw trivial,Zw (FrS.nil _),Z23,Zw trivial,Z23⟩);show Rv (createR us) us bad _;unfold createR;refine Rv.ite_t ht7 (hz1.bind (hz5.bind (hF.bind (hz9.bind ?_))));rw[List.length_map];exact Rv.cap _ _ _;apply yK
 repeat first|apply yX|apply yB
 rw[Z16 ht7];refine vQ ?_;refine Jm rfl ?_;refine JO.callK (Lr:=[_,_]) (Zl T b0 o0 ha h9 b _ ?hs _ 1 qD ZcV) rfl qP qF qA ?_
 case hs=>exact qW
 intro z1 hz1;refine vD ?_;refine vP [0,2,3] ?_;refine Jq (Z0 Z2Y rfl) (JO.m (Zj (cs':=[_,_,_,_,_,_,_,_,_,_,_,_,_,_]) rfl rfl qU rfl rfl rfl rfl Z2x) (by rfl) ?_);refine vP [0,2,3] ?_;refine Jm rfl ?_;refine JO.callK (Lr:=[_,_]) (ZY T b0 o0 ha h9 b _ ?hs _) rfl qP qF qA ?_
 case hs=>exact qW
 intro z2 hz2;refine vD ?_;refine Jq (Z0 Z6R rfl) (JO.m (Zj (cs':=[_,_,_,_,_,_,_,_,_,_,_,_,_,_]) rfl rfl qU rfl rfl rfl rfl Z4a) (by rfl) ?_);refine vP [0,2,3] ?_;refine Jm rfl ?_;refine JO.callK (Lr:=[_,_]) (Zl T b0 o0 ha h9 b _ ?hs _ 1 qD w_ON) rfl qP qF qA ?_
 case hs=>exact qW
 intro z3 hz3;refine vD ?_;refine vP [0,2,3] ?_;refine Jm rfl ?_;refine JO.callK (Lr:=[_,_]) (ZY T b0 o0 ha h9 b _ ?hs _) rfl qP qF qA ?_
 case hs=>exact qW
 intro z4 hz4;refine vD ?_;refine Jq (Z0 Z1V rfl) (JO.m (Zj (cs':=[_,_,_,_,_,_,_,_,_,_,_,_,_,_]) rfl rfl qU rfl rfl rfl rfl Z4a) (by rfl) ?_);refine vP [0,2,3] ?_;refine Jm rfl ?_;refine JO.callK (Lr:=[_,_]) (Zl T b0 o0 ha h9 b _ ?hs _ 5 qD s_lp) rfl qP qF qA ?_
 case hs=>exact qW
 intro z5 hz5;have hu5:z5.2.1<:+T.ts:=qW;refine vD ?_;refine vS [0,2,3] ?_;refine J.regBgm (G:={z:ByteArray×List T3×Bool // Rv (nameP z5.2.1) z5.2.1 z5.2.2 z}) 3 5 (fun g=>.is (.string g.1.1)) (fun g=>[RB T b g.1.2.1 g.1.2.2]++([⟨b3,Z3,.is (.agg #[.int .i64 2,.string z4.1,.string z2.1,.slice none 0 0,.slice none 0 0,.slice none 0 0,.slice none 0 0,.slice none 0 0,.slice none 0 0,.slice none 0 0,.slice none 0 0,.int .i64 (-1),.slice none 0 0,.bool false])⟩,⟨b2,Z3,zSt⟩])) ([⟨b3,Z3,.is (.agg #[.int .i64 2,.string z4.1,.string z2.1,.slice none 0 0,.slice none 0 0,.slice none 0 0,.slice none 0 0,.slice none 0 0,.slice none 0 0,.slice none 0 0,.slice none 0 0,.int .i64 (-1),.slice none 0 0,.bool false])⟩]) rfl rfl rfl rfl hmx qK rfl qK (fun o ho=>by rw[List.mem_singleton.1 ho];exact List.mem_cons_of_mem _ List.mem_cons_self) (fun g o ho=>by rw[List.mem_singleton.1 ho];exact List.mem_cons_of_mem _ List.mem_cons_self) qK ?_;refine yz (Z0 Z1k rfl) (yz (Z1 Z20 rfl rfl) (yz (Z2 rfl) ?_));refine RT.bigg (Lq:=[⟨b3,Z3,.is (.agg #[.int .i64 2,.string z4.1,.string z2.1,.slice none 0 0,.slice none 0 0,.slice none 0 0,.slice none 0 0,.slice none 0 0,.slice none 0 0,.slice none 0 0,.slice none 0 0,.int .i64 (-1),.slice none 0 0,.bool false])⟩]) (Z3x (Lr:=[⟨b3,Z3,.is (.agg #[.int .i64 2,.string z4.1,.string z2.1,.slice none 0 0,.slice none 0 0,.slice none 0 0,.slice none 0 0,.slice none 0 0,.slice none 0 0,.slice none 0 0,.slice none 0 0,.int .i64 (-1),.slice none 0 0,.bool false])⟩,⟨b2,Z3,zSt⟩]) rfl (ZY T b0 o0 ha h9 b z5.2.1 hu5 z5.2.2) (.refl _) qF qA) (fun g=>?_);refine yz (Z2d (p:=strE g.1.1) Zbr ZS rfl qD rfl) ?_;apply yn;obtain⟨z6,hz6⟩:=g;try dsimp only
 refine JO.apO (st:=none) (cap:=0) (xs:=([]:List (Cel stE))) (ys:=[strE z6.1]) Z1i Cel.hlen Tl.zero rfl rfl rfl (srcE (strE z6.1) ZD) (by simp) (by simp) (by simp) rfl (fun st2 cap2 hG2=>?_);rw[List.nil_append]at hG2 ⊢;refine Jq (Z0 Z1k rfl) (JO.m (Z2Q (cs':=[_,_,_,_,_,_,_,_,_,_,_,_,_,_]) (Z2H _ _ _) (Z2T _ _ _) rfl rfl (Z28 (.there .here)) rfl rfl Z7k) (Upd.same (Z28 (.there .here)) rfl) (JO.subL (L':=RB T b z6.2.1 z6.2.2::⟨b3,Z3,.is (.agg #[.int .i64 2,.string z4.1,.string z2.1,.slice none 0 0,sliceO st2 [strE z6.1].length cap2,.slice none 0 0,.slice none 0 0,.slice none 0 0,.slice none 0 0,.slice none 0 0,.slice none 0 0,.int .i64 (-1),.slice none 0 0,.bool false])⟩::⟨b2,Z3,zSt⟩::ownO st2 Zs []) (Z4Q (L:=[_,_,_])).symm (vP [0,2,3] ?_)));refine Jm rfl ?_;refine JO.callK (Lr:=_) (Zl T b0 o0 ha h9 b _ ?hs _ 5 qD s_rp) rfl (.refl _) qF qA ?_
 case hs=>exact qW
 intro z7 hz7;refine vD ?_;refine vP [0,2,3] ?_;refine Jm rfl ?_;refine JO.callK (Lr:=_) (Zm T b0 o0 ha h9 b _ ?hs _ Zcv) rfl (.refl _) qF qA ?_
 case hs=>exact qW
 intro _ _;refine vD ?_;refine vS [0,2,3,69] ?_;refine yC rfl (fun ht69=>?_) (fun ht69=>?_);rw[Z1f ht69];refine vQ ?_;refine Jm rfl ?_;refine JO.callK (Lr:=_) (Zl T b0 o0 ha h9 b _ ?hs _ 1 qD ZeO) rfl (.refl _) qF qA ?_
 case hs=>exact qW
 intro z8 hz8;refine vD ?_;refine vP [2,3] ?_;refine Jq (Z0 Z62 rfl) (JO.m (Zj (cs':=[_,_,_,_,_,_,_,_,_,_,_,_,_,_]) rfl rfl qU rfl rfl rfl rfl Z2D) (by rfl) ?_);refine vS [2,3] ?_;refine J.freezeOMW (N:=0) (e:=Zs) (sz:=1) (Nat.zero_le _) Cel.hlen hG2 yV (fun q hq=>by simp only[List.map_cons,List.map_nil,List.mem_singleton]at hq;exact⟨_,List.mem_cons_self,hq.symm⟩) rfl rfl ?_;rw[hG2.sl.1];refine vQ ?_;refine Jq (ZR (cs:=[_,_,_,_,_,_,_,_,_,_,_,_,_,_]) ZL rfl rfl rfl) (JO.m (Z4 rfl rfl qU (by exact Zh rfl rfl) (by first|exact Zh rfl rfl|exact ZQ) ZV) (by rfl) ?_);refine vS [2] ?_;refine vR ?_;refine JX.retLCs (Lr:=[_,_]) rfl ({stK 2 with nm:=z2.1,tb:=z4.1,names:=[z6.1],hash:=true},z8.2.1,z8.2.2) ?_ qP rfl rfl hb0 rfl ZL HasOwn.mem (Z1o rfl) (Sub.st rfl fun X w hf w' hk=>⟨Zw (FrS.nil _),(by have h:=SlE.ofGr hG2 (hf _ qI w' hk) (Ze1 [z6.1] w') (hf _ qI w' hk);rwa [hG2.sl.1]at h),Zw trivial,Zw trivial,Zw trivial,Zw (FrS.nil _),Z23,Zw trivial,Z23⟩);show Rv (createR us) us bad _;unfold createR;refine Rv.ite_f ht7 (hz1.bind (hz2.bind (hz3.bind (hz4.bind (hz5.bind (hz6.bind (hz7.bind ?_)))))));exact Rv.ite_t ht69 (Rv.map hz8 rfl);apply yK
 repeat first|apply yX|apply yB
 try rw[Z16 ht69]
 refine J.freezeOMW (N:=0) (e:=Zs) (sz:=1) (Nat.zero_le _) Cel.hlen hG2 yV (fun q hq=>by simp only[List.map_cons,List.map_nil,List.mem_singleton]at hq;exact⟨_,List.mem_cons_self,hq.symm⟩) rfl rfl ?_;rw[hG2.sl.1];refine vQ ?_;refine Jq (ZR (cs:=[_,_,_,_,_,_,_,_,_,_,_,_,_,_]) ZL rfl rfl rfl) (JO.m (Z4 rfl rfl qU (by exact Zh rfl rfl) (by first|exact Zh rfl rfl|exact ZQ) ZV) (by rfl) ?_);refine vS [2] ?_;refine vR ?_;refine JX.retLCs (Lr:=[_,_]) rfl ({stK 2 with nm:=z2.1,tb:=z4.1,names:=[z6.1]},z7.2.1,z7.2.2) ?_ qP rfl rfl hb0 rfl ZL HasOwn.mem (Z1o rfl) (Sub.st rfl fun X w hf w' hk=>⟨Zw (FrS.nil _),(by have h:=SlE.ofGr hG2 (hf _ qI w' hk) (Ze1 [z6.1] w') (hf _ qI w' hk);rwa [hG2.sl.1]at h),Zw trivial,Zw trivial,Zw trivial,Zw (FrS.nil _),Z23,Zw trivial,Z23⟩);show Rv (createR us) us bad _;unfold createR;refine Rv.ite_f ht7 (hz1.bind (hz2.bind (hz3.bind (hz4.bind (hz5.bind (hz6.bind (hz7.bind ?_)))))));exact Rv.ite_f ht69 (Rv.pure _)
abbrev EC(T:Rk)(b:Nat)(us:List T3)(bad:Bool)(l:Int):Prop:=CallL Tryz.prog Z3h [RB T b us bad] [T.G] [.is (.pointer (some ⟨b,0,none⟩)),.is (.int .i64 l)] (fun z:Ex×List T3×Bool=>∀n,us.length<n->Rv (exprR n l us) us bad z) (fun z=>[RB T b z.2.1 z.2.2]) (fun z=>.rep (ExR z.1))
abbrev E0(T:Rk)(b:Nat):Prop:=∀us bad,us<:+T.ts->CallL Tryz.prog Z3h [RB T b us bad] [T.G] [.is (.pointer (some ⟨b,0,none⟩)),.is (.int .i64 0)] (fun z:Ex×List T3×Bool=>Rv (T.e us) us bad z) (fun z=>[RB T b z.2.1 z.2.2]) (fun z=>.rep (ExR z.1))
theorem Zfl{α:Type}{c:Prop}[Decidable c]{a b:α}:some (if c then a else b)=if c then some a else some b:=by split<;>rfl
theorem Rv.skt{α:Type}{us:List T3}{bad:Bool}{k:Int}{s:ByteArray}(x:α):Rv (some (x,skT k s us)) us bad (x,skRB k s us bad,bad):=by
 unfold skT;rw[show(some (x,if isT k s us then us.tail else us):Option (α×List T3))=if isT k s us then some (x,us.tail)else some (x,us) by split<;>rfl];cases h:isRB k s us bad with
 |true=>rw[Z1f h];exact Rv.ite_t h (.pure x)
 |false=>rw[Z16 h];exact Rv.ite_f h (.pure x)
theorem Rv.mapb{α β:Type}{o:Option (α×List T3)}{us:List T3}{bad:Bool}{f:α×List T3->β×List T3}{z:α×List T3×Bool}{y:β×List T3×Bool}(h:Rv o us bad z)(h2:Rv (some (f (z.1,z.2.1))) z.2.1 z.2.2 y):Rv (o.map f) us bad y:=by
 rw[Option.map_eq_bind];exact h.bind h2
attribute [local irreducible] SlE ExsR
theorem Z8H(T:Rk)(b0 o0:Nat)(ha:T.ts.length≠0->T.ad=some ⟨b0,o0,none⟩)(h9:T.ts.length<=2049)(b:Nat)(us:List T3)(hus:us<:+T.ts)(bad:Bool)(hE:E0 T b):CallL Tryz.prog Z8T [RB T b us bad] [T.G] [.is (.pointer (some ⟨b,0,none⟩))] (fun z:Pz.Itm×List T3×Bool=>Rv (itemP T.e us) us bad z) (fun z=>[RB T b z.2.1 z.2.2]) (fun z=>.rep (itE.T z.1)):=
CallL.of (fn:=Tryz.f75) Tryz.func75 (n:=9) rfl rfl rfl (fun _ _=>by kernel_rfl) fun E W hb0=>by
 refine vQ ?_;refine JO.alloc Z6p rfl fun b2=>(vP [0,2] ?_);refine Jm rfl ?_;refine JO.callK (Lr:=[_]) (Z10 T b0 o0 ha h9 b _ ?hs _ Z1g) rfl qP qF qA ?_
 case hs=>exact qW
 intro _ _;refine vD ?_;refine vS [0,2,4] ?_;refine yC rfl (fun ht4=>?_) (fun ht4=>?_);rw[Z1f ht4];refine vQ ?_;refine Jq (Zg (cs:=[_,_,_,_,_,_,_,_,_]) Z6q (.cons rfl .nil) rfl rfl) (JO.m (Z4 rfl rfl qU (by exact Zh rfl rfl) (by first|exact Zh rfl rfl|exact ZQ) Z4z) (by rfl) ?_);refine vS [2] ?_;refine vR ?_;refine JX.retLCs (Lr:=[_]) rfl (⟨true,ex0⟩,us.tail,bad) ?_ qP rfl rfl hb0 rfl Z3V HasOwn.mem (Z1o rfl) Sub.itAll;exact Rv.ite_t ht4 (.pure _);apply yK
 repeat first|apply yX|apply yB
 rw[Z16 ht4];refine vQ ?_;refine Jm rfl (JO.callK (Lr:=[_]) (hE (us) (bad) (hus)) rfl qP qF qA ?_);intro z hz;refine vD ?_;refine JO.openA (s:=7) rfl (fun a7 l7 q7 b7_ o7_ _ _=>?_);refine Jq (Zg (cs:=[_,_,_,_,_,_,_,_,_]) Z6q (.cons rfl .nil) rfl rfl) (JO.m (Z4 rfl rfl qU (by exact Zh rfl rfl) (by first|exact Zh rfl rfl|exact ZQ) Z4z) (by rfl) ?_);refine vS [2] ?_;refine vR ?_;refine JX.retLCs (Lr:=[_]) rfl (⟨false,z.1⟩,z.2.1,z.2.2) ?_ qP rfl rfl hb0 rfl Z3V HasOwn.mem (Z1o rfl) (Sub.itEx qI rfl);exact Rv.ite_f ht4 (Rv.map hz rfl)
theorem Z9u(T:Rk)(b0 o0:Nat)(ha:T.ts.length≠0->T.ad=some ⟨b0,o0,none⟩)(h9:T.ts.length<=2049)(b:Nat)(us:List T3)(hus:us<:+T.ts)(bad:Bool)(hE:E0 T b):CallL Tryz.prog Z9y [RB T b us bad] [T.G] [.is (.pointer (some ⟨b,0,none⟩))] (fun z:Pz.Ky×List T3×Bool=>Rv (keyR T.e us) us bad z) (fun z=>[RB T b z.2.1 z.2.2]) (fun z=>.rep (kyE.T z.1)):=
CallL.of (fn:=Tryz.f78) Tryz.func78 (n:=13) rfl rfl rfl (fun _ _=>by kernel_rfl) fun E W hb0=>by
 refine vQ ?_;refine JO.alloc Z4Y rfl fun b2=>(vP [0,2] ?_);refine Jm rfl (JO.callK (Lr:=[_]) (hE (us) (bad) (hus)) rfl qP qF qA ?_);intro z hz;refine vD ?_;refine JO.openA (s:=5) rfl (fun a5 l5 q5 b5_ o5_ _ _=>?_);refine Jq (Zg (cs:=[_,_,_,_,_,_,_,_,_]) ZbN (.cons rfl .nil) rfl rfl) (JO.alloc Z4Y rfl fun b3=>(JO.m (Z4 rfl rfl qU (by exact Zh rfl rfl) (by first|exact Zh rfl rfl|exact ZQ) Z3Q) (by rfl) ?_));refine vP [0,2,3] ?_;refine Jm rfl ?_;refine JO.callK (Lr:=[_,_]) (Zm T b0 o0 ha h9 b _ ?hs _ Z4s) rfl qP qF qA ?_
 case hs=>exact qW
 intro _ _;refine vD ?_;refine vS [0,2,3,8] ?_;refine yC rfl (fun ht8=>?_) (fun ht8=>?_);rw[Z1f ht8];refine vQ ?_;refine Jq (Z0 Z5T rfl) (JO.m (Zj (cs':=[_,_,_,_,_,_,_,_,_]) rfl rfl qU rfl rfl rfl rfl Z2D) (by rfl) ?_);refine vP [2,3] ?_;refine Jq (ZR (cs:=[_,_,_,_,_,_,_,_,_]) Z2V rfl rfl rfl) (JO.m (Z4 rfl rfl qU (by exact Zh rfl rfl) (by first|exact Zh rfl rfl|exact ZQ) Z3Q) (by rfl) ?_);refine vS [2] ?_;refine vR ?_;refine JX.retLCs (Lr:=[_,_]) rfl (⟨z.1,true⟩,z.2.1.tail,z.2.2) ?_ qP rfl rfl hb0 rfl Z2V HasOwn.mem (Z1o rfl) (Sub.kyEx qI rfl);show Rv (keyR T.e us) us bad _;unfold keyR;refine Rv.mapb hz ?_;rw[Zfl];exact Rv.ite_t ht8 (.pure _);rw[Z16 ht8];refine vQ ?_;refine Jm rfl ?_;refine JO.callK (Lr:=[_,_]) (Zm T b0 o0 ha h9 b _ ?hs _ Z55) rfl qP qF qA ?_
 case hs=>exact qW
 intro _ _;refine vD ?_;refine vP [2,3] ?_;refine Jq (ZR (cs:=[_,_,_,_,_,_,_,_,_]) Z2V rfl rfl rfl) (JO.m (Z4 rfl rfl qU (by exact Zh rfl rfl) (by first|exact Zh rfl rfl|exact ZQ) Z3Q) (by rfl) ?_);refine vS [2] ?_;refine vR ?_;refine JX.retLCs (Lr:=[_,_]) rfl (⟨z.1,false⟩,skRB 1 Z55 z.2.1 z.2.2,z.2.2) ?_ qP rfl rfl hb0 rfl Z2V HasOwn.mem (Z1o rfl) (Sub.kyEx qI rfl);show Rv (keyR T.e us) us bad _;unfold keyR;refine Rv.mapb hz ?_;rw[Zfl];exact Rv.ite_f ht8 (Rv.skt _)
theorem Z3Z(T:Rk)(b0 o0:Nat)(ha:T.ts.length≠0->T.ad=some ⟨b0,o0,none⟩)(h9:T.ts.length<=2049)(b:Nat)(us:List T3)(hus:us<:+T.ts)(bad:Bool)(hE:E0 T b):CallL Tryz.prog Z8q [RB T b us bad] [T.G] [.is (.pointer (some ⟨b,0,none⟩))] (fun z:List Ex×List T3×Bool=>Rv (whereP T.e us) us bad z) (fun z=>[RB T b z.2.1 z.2.2]) (fun z=>.rep (SlE exE (FX 0) z.1)):=
CallL.of (fn:=Tryz.f38) Tryz.func38 (n:=8) rfl rfl rfl (fun _ _=>by kernel_rfl) fun E W hb0=>by
 refine vQ ?_;refine Ja rfl (vP [0] ?_);refine Jm rfl ?_;refine JO.callK (Lr:=[]) (Zm T b0 o0 ha h9 b _ ?hs _ Z91) rfl qP qF qA ?_
 case hs=>exact qW
 intro _ _;refine vD ?_;refine vS [0,4] ?_;refine yC rfl (fun ht4=>?_) (fun ht4=>?_);rw[Z1f ht4];refine vQ ?_;refine Jm rfl (JO.callK (Lr:=[]) (hE (us.tail) (bad) (((List.tail_suffix us).trans hus))) rfl qP qF qA ?_);intro z hz;refine vD ?_;rw[Z8Z];refine JO.openT (s:=6) rfl (fun p1 hp1=>?_);refine JO.buildE Z4l ZB rfl qD rfl rfl (fun b8=>?_);refine Ja rfl (vS [2] ?_);refine J.freezeOMW (N:=0) (e:=Zb) (sz:=8) (Nat.zero_le _) Cel.hlen (growE p1) .here (fun q hq=>by simp only[List.map_cons,List.map_nil,List.mem_singleton]at hq;exact⟨_,List.mem_cons_self,hq.symm⟩) rfl rfl ?_;refine J.fact (CelF exE [p1]) (fun X w hf _=>fun w' hk p hp=>by rw[List.mem_singleton.1 hp];exact hf _ qI w' hk) ?_;refine vR ?_;exact JX.retL1 (Lr:=[]) rfl ([p1].map Cel.x,z.2.1,z.2.2) (by unfold whereP;refine Rv.ite_t ht4 ?_;rw[List.map_singleton,hp1];exact Rv.map hz rfl) (.refl _) rfl rfl hb0 rfl (Sub.slEO (growE p1) qI qI qI);apply yK
 repeat first|apply yX|apply yB
 rw[Z16 ht4];refine vQ ?_;refine Ja rfl (vS [2] ?_);refine vR ?_;exact JX.retL1 (Lr:=[]) rfl ([],us,bad) (Rv.ite_f ht4 (.pure _)) (.refl _) rfl rfl hb0 rfl (Sub.slENil fun _=>FrS.nil _)
end Go.Proofs.YtbedigkncjbggaaGreatDoor
set_option maxRecDepth 20000
namespace Go.Proofs.YtbedigkncjbggaaGreatDoor
open Go Go.Vc
open Go.Pz
theorem Rv.itek_f{α:Type}{us:List T3}{bad:Bool}{k:Int}{p q:Option (α×List T3)}{z:α×List T3×Bool}(h:isKB k us bad=false)(hz:Rv q us bad z):Rv (if isK k us then p else q) us bad z:=by
 cases bad with
 |true=>exact⟨hz.1,hz.2.1,fun h=>by cases h⟩
 |false=>rw[show isK k us=false by simpa [isKB] using h];exact hz
theorem ZjY{us:List T3}{bad:Bool}{z y:ByteArray×List T3×Bool}(hz:Rv (nameP us) us bad z)(hv:(isRB 1 w_AS z.2.1 z.2.2||((pkT (skRB 1 w_AS z.2.1 z.2.2) z.2.2).k==2))=true)(hy:Rv (nameP (skRB 1 w_AS z.2.1 z.2.2)) (skRB 1 w_AS z.2.1 z.2.2) z.2.2 y):Rv (sourceP us) us bad ((⟨z.1,y.1,[]⟩:Pz.Src),y.2.1,y.2.2):=by
 unfold sourceP;refine hz.bind ?_;dsimp only;cases hA:isRB 1 w_AS z.2.1 z.2.2 with
 |true=>refine Rv.ite_t hA ?_;rw[Z1f hA]at hy;exact Rv.map hy rfl
 |false=>
   refine Rv.ite_f hA ?_;rw[Z16 hA]at hy;rw[hA,Bool.false_or,Z16 hA,ZbI qD]at hv;rw[if_pos (ZbM hv).2];exact Rv.map hy rfl
theorem ZlL{us:List T3}{bad:Bool}{z:ByteArray×List T3×Bool}(hz:Rv (nameP us) us bad z)(hv:(isRB 1 w_AS z.2.1 z.2.2||((pkT (skRB 1 w_AS z.2.1 z.2.2) z.2.2).k==2))=false):Rv (sourceP us) us bad ((⟨z.1,z.1,[]⟩:Pz.Src),skRB 1 w_AS z.2.1 z.2.2,z.2.2):=by
 rw[Bool.or_eq_false_iff]at hv;obtain⟨hA,hK⟩:=hv;rw[Z16 hA,ZbI qD]at hK;rw[Z16 hA];unfold sourceP;refine hz.bind ?_;exact Rv.ite_f hA (Rv.itek_f hK (.pure _))
attribute [local irreducible] SlE ExsR
theorem Z5f(T:Rk)(b0 o0:Nat)(ha:T.ts.length≠0->T.ad=some ⟨b0,o0,none⟩)(h9:T.ts.length<=2049)(b:Nat)(us:List T3)(hus:us<:+T.ts)(bad:Bool)(hE:E0 T b):CallL Tryz.prog Z5c [RB T b us bad] [T.G] [.is (.pointer (some ⟨b,0,none⟩))] (fun z:List Ex×List T3×Bool=>Rv (exprsR T.e us) us bad z) (fun z=>[RB T b z.2.1 z.2.2]) (fun z=>.rep (SlE exE (FX 0) z.1)):=
CallL.of (fn:=Tryz.f74) Tryz.func74 (n:=33) rfl rfl rfl (fun _ _=>by kernel_rfl) fun E W hb0=>by
 refine vQ ?_;refine Ja rfl (vP [0] ?_);refine Ja rfl (vP [0,3] ?_);refine Ja rfl (vS [0,3,4] ?_);apply yk
 repeat apply yQ
 refine J.loopH (α:=List (Cel exE)×Option (Nat×List Value)×Nat×List T3×Bool×Bool) (fun x=>[(0,.is (.pointer (some ⟨b,0,none⟩))),(3,.is (sliceO x.2.1 x.1.length x.2.2.1)),(4,.is (.bool x.2.2.2.2.2))]) (fun x=>RB T b x.2.2.2.1 x.2.2.2.2.1::ownO x.2.1 Zb []) (fun x=>CelF exE x.1) (fun x=>InvW T.e us bad (x.1.map Cel.x) x.2.2.2.1 x.2.2.2.2.1 x.2.2.2.2.2/\Grows Cel.cs 8 x.1 x.2.1 x.2.2.1) (fun x=>x.2.2.2.1.length+(if x.2.2.2.2.2 then 1 else 0)) ([],none,0,us,bad,true) [0,3,4] (.cons rfl (.cons rfl (.cons rfl .nil))) rfl (fun X w hF=>fun w' hk=>CelF.nil w') ⟨InvW.start _ _ _,rfl⟩ fun⟨ps,st,cap,vs,bd,mo⟩ ⟨hI,hG⟩=>?_;try dsimp only
 try dsimp only at hI
 try dsimp only at hG
 refine vQ ?_;refine Jm rfl (Jm rfl (JO.tg rfl rfl rfl rfl rfl (fun hg=>Z2 (.inl rfl)) (JO.tg rfl rfl rfl rfl rfl (fun hg=>Z5 (qR rfl)) ?_)));refine JO.tg rfl rfl rfl rfl rfl (fun hg=>Z0 Ze (qR rfl)) ?_;refine JO.tg rfl rfl rfl rfl rfl (fun hg=>Z1 Z1E (qR rfl) rfl) ?_;refine JO.tg rfl rfl rfl rfl rfl (fun hg=>Z2e (qR rfl)) ?_;refine Jq (Zn rfl rfl rfl id) (vS [0,3,12] ?_);refine yC rfl (fun ht12=>?_) (fun ht12=>?_);apply yK;refine vN ?_;apply yk;obtain⟨rfl,rfl⟩:mo=true/\bd=false:=by simpa using ht12
 refine vQ ?_;refine Jm rfl (Jm rfl (JO.callK (Lr:=_) (hE (vs) (false) ((hI.suf.trans hus))) rfl (.refl _) qF qA ?_));intro z2 hz2;refine vD ?_;rw[Z8Z];refine JO.openT (s:=17) rfl (fun p2 hp2=>?_);refine Jq (Z2d (p:=p2) Z4l ZB rfl qD rfl) ?_;refine JO.apO (ys:=[p2]) Z1z Cel.hlen yV hG rfl rfl (srcE p2 Zy) (by simp) (by have h1:=hI.len;have h2:=hus.length_le;rw[List.length_map]at h1;simp;omega) (by have h1:=hI.len;have h2:=hus.length_le;rw[List.length_map]at h1;simp;omega) rfl (fun st2 cap2 hG2=>?_);refine JO.subL (L':=RB T b z2.2.1 z2.2.2::ownO st2 Zb []) (Z4Q (L:=[_])).symm (Ja rfl (vP [0,3] ?_));refine Jm rfl ?_;refine JO.callK (Lr:=_) (Z10 T b0 o0 ha h9 b _ ?hs _ ZU) rfl (.refl _) qF qA ?_
 case hs=>exact qW
 intro _ _;refine vD ?_;refine Ja rfl ?_;apply yI
 repeat refine JX.normal_block ?_
 refine JX.roundG (x:=(ps,st,cap,vs,false,true)) (ps++[p2],st2,cap2,skRB 5 ZU z2.2.1 z2.2.2,z2.2.2,isRB 5 ZU z2.2.1 z2.2.2) ?_ ?_ [0,3,4] ?_ ?_ ?_ ?_
 · exact⟨(by rw[List.map_append,List.map_singleton,hp2];exact hI.step T.e_dn hz2),hG2⟩
 · exact(by show _<vs.length+1;exact InvW.less hz2)
 · exact qS
 · exact qH
 · exact qG
 · exact fun X w hF=>fun w' hk=>CelF.snoc (hF _ qI w' hk) (hF _ List.mem_cons_self w' hk)
 repeat apply yQ
 refine J.exit ?_
 repeat first|refine yH ?_|refine yM rfl ?_|refine yE ?_
 repeat first|apply yX|apply yB
 have hF:=hI.fin (by simpa using ht12);refine vQ ?_;refine Jm rfl (Jm rfl (Jq (Z5 rfl) (Jq (Z0 Ze rfl) (Jq (Z1 Z1E rfl rfl) (Jm rfl (JO.tg rfl rfl rfl rfl rfl (fun hg=>Z2 (.inl rfl)) (JO.tg rfl rfl rfl rfl rfl (fun hg=>Z6g hG Zy (qR rfl)) ?_)))))));refine JO.tg rfl rfl rfl rfl rfl (fun hg=>Z13 (qR rfl) (.inl rfl)) ?_;refine Jq (ZF rfl rfl rfl id) (Jq (Z5 rfl) (Jq (Z0 Ze rfl) (JO.m (Zj (cs':=[_,_,_]) rfl rfl qU rfl rfl rfl rfl Z2D) (by rfl) ?_)));refine vS [3] ?_;refine J.freezeOMW (N:=0) (e:=Zb) (sz:=8) (Nat.zero_le _) Cel.hlen hG yV (fun q hq=>by simp only[List.map_cons,List.map_nil,List.mem_singleton]at hq;exact⟨_,List.mem_cons_self,hq.symm⟩) rfl rfl ?_;rw[hG.sl.1];refine vQ ?_;refine Jm rfl (Ja rfl (vS [2] ?_));refine vR ?_;exact JX.retL1 (Lr:=[]) rfl (ps.map Cel.x,vs,bd||decide (((16:Nat):Int)<((ps.length:Nat):Int))) (by unfold exprsR;refine hF.bind ?_;rw[<-List.length_map (f:=Cel.x)];exact Rv.cap _ _ _) (by simp) rfl rfl hb0 rfl (Sub.slE hG.sl.2 qI qI (fun X w hf=>hf _ qI))
theorem Z57(T:Rk)(b0 o0:Nat)(ha:T.ts.length≠0->T.ad=some ⟨b0,o0,none⟩)(h9:T.ts.length<=2049)(b:Nat)(us:List T3)(hus:us<:+T.ts)(bad:Bool):CallL Tryz.prog Z7S [RB T b us bad] [T.G] [.is (.pointer (some ⟨b,0,none⟩))] (fun z:Pz.Src×List T3×Bool=>Rv (sourceP us) us bad z) (fun z=>[RB T b z.2.1 z.2.2]) (fun z=>.is (srcV z.1)):=
CallL.of (fn:=Tryz.f76) Tryz.func76 (n:=22) rfl rfl rfl (fun _ _=>by kernel_rfl) fun E W hb0=>by
 refine vQ ?_;refine JO.alloc Z2W rfl fun b2=>(vP [0,2] ?_);refine Jm rfl ?_;refine JO.callK (Lr:=[_]) (ZY T b0 o0 ha h9 b _ ?hs _) rfl qP qF qA ?_
 case hs=>exact qW
 intro z hz;refine vD ?_;refine Ja rfl (vP [0,2,3] ?_);refine Jm rfl (Jm rfl (Jq (Zg (cs:=[_,_,_]) Z9R (.cons rfl (.cons rfl .nil)) rfl rfl) (JO.alloc Z2W rfl fun b4=>(JO.m (Z4 rfl rfl qU (by exact Zh rfl rfl) (by first|exact Zh rfl rfl|exact ZQ) Z2s) (by rfl) ?_))));refine vP [0,2,4] ?_;refine Jm rfl ?_;refine JO.callK (Lr:=[_,_]) (Zm T b0 o0 ha h9 b _ ?hs _ w_AS) rfl qP qF qA ?_
 case hs=>exact qW
 intro _ _;refine vD ?_;refine Jm rfl (JO.tg rfl rfl rfl rfl rfl (fun hg=>Z2 (.inl rfl)) ?_);refine JO.gcall (g:=2) (s:=12) (b:=false) (cc:=isRB 1 w_AS z.2.1 z.2.2) (T:=.is (tkV (pkT (skRB 1 w_AS z.2.1 z.2.2) z.2.2))) rfl rfl rfl rfl (fun _=>rfl) (fun e hn=>?_) ?_
 · exact JO.callKG (Lr:=[_,_]) e (Z2P T b0 o0 ha h9 b (skRB 1 w_AS z.2.1 z.2.2) (Z4i.trans (hz.suf.trans hus)) z.2.2) rfl (.refl _) qF (.one (qR rfl) .nil) (fun _ _=>hn)
 refine JO.tg rfl rfl rfl rfl rfl (fun hg=>Z4S (off:=0) qK (qR rfl) rfl) ?_;refine JO.tg rfl rfl rfl rfl rfl (fun hg=>Zu (qR rfl) (.inl rfl)) ?_;refine Jq (ZF rfl rfl rfl id) (vS [0,2,4,17] ?_);refine yC rfl (fun ht17=>?_) (fun ht17=>?_);refine vQ ?_;refine Jm rfl ?_;refine JO.callK (Lr:=[_,_]) (ZY T b0 o0 ha h9 b _ ?hs _) rfl qP qF qA ?_
 case hs=>exact qW
 intro y hy;refine vD ?_;refine Jq (Z0 Z2A rfl) (JO.m (Zj (cs':=[_,_,_]) rfl rfl qU rfl rfl rfl rfl Z4a) (by rfl) ?_);refine vP [2,4] ?_;refine Jq (ZR (cs:=[_,_,_]) Z27 rfl rfl rfl) (JO.m (Z4 rfl rfl qU (by exact Zh rfl rfl) (by first|exact Zh rfl rfl|exact ZQ) Z2s) (by rfl) ?_);refine vS [2] ?_;refine vR ?_;exact JX.retLC (Lr:=[_,_]) rfl (⟨z.1,y.1,[]⟩,y.2.1,y.2.2) (ZjY hz ht17 hy) qP rfl hb0 rfl Z27 HasOwn.mem rfl rfl;apply yK;refine vN ?_;apply yN;refine Jq (ZR (cs:=[_,_,_]) Z27 rfl rfl rfl) (JO.m (Z4 rfl rfl qU (by exact Zh rfl rfl) (by first|exact Zh rfl rfl|exact ZQ) Z2s) (by rfl) ?_);refine vS [2] ?_;refine vR ?_;exact JX.retLC (Lr:=[_,_]) rfl (⟨z.1,z.1,[]⟩,skRB 1 w_AS z.2.1 z.2.2,z.2.2) (ZlL hz ht17) qP rfl hb0 rfl Z27 HasOwn.mem rfl rfl
end Go.Proofs.YtbedigkncjbggaaGreatDoor
set_option maxRecDepth 20000
namespace Go.Proofs.YtbedigkncjbggaaGreatDoor
open Go Go.Vc
open Go.Pz
theorem Zlv(us:List T3):binR us=binG binL [pkT us false]:=by
 have h: ∀(l:List (Int×ByteArray×Int×Int)),(∀q∈l,q.1≠0)->binG l us=binG l [pkT us false]:=by
   intro l
   induction l with
   |nil=>intro _;rfl
   |cons q l ih=>
     intro hq;obtain⟨k,s,x,y⟩:=q;have hk:k≠0:=hq _ List.mem_cons_self;rw[binG,binG,ih fun q h=>hq q (List.mem_cons_of_mem _ h)];have e:isT k s us=isT k s [pkT us false]:=by
       cases us with
       |nil=>show false=((0:Int)==k&&_);rw[show((0:Int)==k)=false by rw[beq_eq_false_iff_ne];exact fun h=>hk h.symm];rfl
       |cons t r=>rfl
     rw[e]
 exact h binL (by decide+kernel)
def bnA(i:Nat):Int×ByteArray×Int×Int:=binL.getD i (0,em,0,0)
abbrev bnT:List Value:=[.string w_OR,.string Z22,.string s_eq,.string s_ne,.string s_lt,.string s_le,.string s_gt,.string s_ge,.string Z30,.string Z1s,.string Z1g,.string Z2F,.string Z3E]
abbrev bnK:List Value:=[.int .i64 17,.int .i64 16,.int .i64 10,.int .i64 11,.int .i64 12,.int .i64 13,.int .i64 14,.int .i64 15,.int .i64 5,.int .i64 6,.int .i64 7,.int .i64 8,.int .i64 9]
abbrev bnB:List Value:=[.int .i64 1,.int .i64 2,.int .i64 4,.int .i64 4,.int .i64 4,.int .i64 4,.int .i64 4,.int .i64 4,.int .i64 5,.int .i64 5,.int .i64 6,.int .i64 6,.int .i64 6]
theorem Zlx{i:Nat}(h:i<13):nth (Value.cells (.agg bnT.toArray)).toList (0+((i:Nat):Int).toNat*1)=some (.string (bnA i).2.1):=by
 match i,h with
 |0,_|1,_|2,_|3,_|4,_|5,_|6,_|7,_|8,_|9,_|10,_|11,_|12,_=>rfl
theorem Zmg{i:Nat}(h:i<13):nth (Value.cells (.agg bnK.toArray)).toList (0+((i:Nat):Int).toNat*1)=some (.int .i64 (bnA i).2.2.1):=by
 match i,h with
 |0,_|1,_|2,_|3,_|4,_|5,_|6,_|7,_|8,_|9,_|10,_|11,_|12,_=>rfl
theorem Zm3{i:Nat}(h:i<13):nth (Value.cells (.agg bnB.toArray)).toList (0+((i:Nat):Int).toNat*1)=some (.int .i64 (bnA i).2.2.2):=by
 match i,h with
 |0,_|1,_|2,_|3,_|4,_|5,_|6,_|7,_|8,_|9,_|10,_|11,_|12,_=>rfl
theorem bn_k{i:Nat}(h:i<13):(bnA i).1=if i<2 then 1 else 5:=by
 match i,h with
 |0,_|1,_|2,_|3,_|4,_|5,_|6,_|7,_|8,_|9,_|10,_|11,_|12,_=>rfl
theorem Zgk{i:Nat}(h:i<13)(t:T3):binG (binL.drop i) [t]=if isT (bnA i).1 (bnA i).2.1 [t]then(bnA i).2.2 else binG (binL.drop (i+1)) [t]:=by
 have h':i<binL.length:=h;rw[List.drop_eq_getElem_cons h'];have e:binL[i]=bnA i:=by unfold bnA;rw[List.getD_eq_getElem?_getD,List.getElem?_eq_getElem h'];rfl
 rw[e];obtain⟨k,s,x,y⟩:=bnA i
 rfl
theorem ZjM{i:Nat}(h:i<13)(t:T3):(seq t.t (bnA i).2.1&&((decide ((i:Int)<2)&&(t.k==1))||(decide ((2:Int)<=(i:Int))&&(t.k==5))))=isT (bnA i).1 (bnA i).2.1 [t]:=by
 show _=((t.k==(bnA i).1)&&sq t.t (bnA i).2.1);rw[bn_k h,Z1G,Bool.and_comm]
 congr 1
 by_cases hi:i<2
 · rw[if_pos hi,decide_eq_true (show(i:Int)<2 by omega),decide_eq_false (show ¬(2:Int)<=i by omega)];simp
 · rw[if_neg hi,decide_eq_false (show ¬(i:Int)<2 by omega),decide_eq_true (show(2:Int)<=i by omega)];simp
theorem Z59(T:Rk)(b0 o0:Nat)(ha:T.ts.length≠0->T.ad=some ⟨b0,o0,none⟩)(h9:T.ts.length<=2049)(b:Nat)(us:List T3)(hus:us<:+T.ts):CallL Tryz.prog Z7J [RB T b us false] [T.G] [.is (.pointer (some ⟨b,0,none⟩))] (fun _:Unit=>True) (fun _=>[RB T b us false]) (fun _=>.is (.tuple #[.int .i64 (binR us).1,.int .i64 (binR us).2])):=
CallL.of (fn:=Tryz.f128) Tryz.func128 (n:=48) rfl rfl rfl (fun _ _=>by kernel_rfl) fun E W hb0=>by
 refine vQ ?_;refine Ja rfl (Ja rfl (vP [0] ?_));refine Jm rfl (JO.callK (Lr:=[]) (Z2P T b0 o0 ha h9 b us hus false) rfl (.refl _) qF qA ?_);intro _ _;refine vD ?_;refine JO.alloc Z1C rfl fun b4=>(JO.m (Z4 rfl rfl qU (by exact Zh rfl rfl) (by first|exact Zh rfl rfl|exact ZQ) ZI) (by rfl) ?_);refine vP [4] ?_;refine Jq (Zg (cs:=[_,_,_,_,_,_,_,_,_,_,_,_,_]) Z7p (.cons rfl (.cons rfl (.cons rfl (.cons rfl (.cons rfl (.cons rfl (.cons rfl (.cons rfl (.cons rfl (.cons rfl (.cons rfl (.cons rfl (.cons rfl .nil))))))))))))) rfl rfl) (JO.alloc Zav rfl fun b5=>(JO.m (Z4 rfl rfl qU qC qO Zax) (by rfl) ?_));refine vP [4,5] ?_;refine Jq (Zg (cs:=[_,_,_,_,_,_,_,_,_,_,_,_,_]) Zdf (.cons rfl (.cons rfl (.cons rfl (.cons rfl (.cons rfl (.cons rfl (.cons rfl (.cons rfl (.cons rfl (.cons rfl (.cons rfl (.cons rfl (.cons rfl .nil))))))))))))) rfl rfl) (JO.alloc Zd0 rfl fun b6=>(JO.m (Z4 rfl rfl qU qC qO Zd9) (by rfl) ?_));refine vP [4,5,6] ?_;refine Jq (Zg (cs:=[_,_,_,_,_,_,_,_,_,_,_,_,_]) Zdf (.cons rfl (.cons rfl (.cons rfl (.cons rfl (.cons rfl (.cons rfl (.cons rfl (.cons rfl (.cons rfl (.cons rfl (.cons rfl (.cons rfl (.cons rfl .nil))))))))))))) rfl rfl) (JO.alloc Zd0 rfl fun b7=>(JO.m (Z4 rfl rfl qU qC qO Zd9) (by rfl) ?_));refine vP [4,5,6,7] ?_;refine Ja rfl (vS [4,5,6,7,8] ?_);apply yk
 repeat apply yQ
 refine J.loopF (α:=Nat) (fun k=>[(4,.is (.pointer (some ⟨b4,0,none⟩))),(5,.is (.pointer (some ⟨b5,0,none⟩))),(6,.is (.pointer (some ⟨b6,0,none⟩))),(7,.is (.pointer (some ⟨b7,0,none⟩))),(8,.is (.int .i64 (k:Nat)))]) (fun k=>k<=13/\binR us=binG (binL.drop k) [pkT us false]) (fun k=>13-k) 0 [4,5,6,7,8] (.cons rfl (.cons rfl (.cons rfl (.cons rfl (.cons rfl .nil))))) ⟨by omega,Zlv us⟩ fun i ⟨hi,hB⟩=>?_;refine vQ ?_;refine Jm rfl (Jq (ZC rfl rfl) (vS [4,5,6,7,8,15] ?_));refine yC rfl (fun ht15=>?_) (fun ht15=>?_)
 try simp only[yd,yf]at ht15
 apply yK;refine vN ?_;apply yk
 repeat apply yQ
 refine J.reg0 hmx qK qK ?_;refine yz (Z0 Z1K rfl) (yz (Z1 Za rfl rfl) (yz (Z2 rfl) (yz (Z3G (m:=13) (e:=Zs) (sz:=1) qK qK rfl rfl qM qM) ?_)));refine yz (Z1 Za rfl (Zlx (i:=i) qM)) ?_;refine yz (Z1L rfl rfl) (yz (Z2 rfl) (yg rfl rfl rfl (fun hg=>Z2 (.inl rfl)) (yg rfl rfl rfl (fun hg=>ZC (qR rfl) (.inl rfl)) ?_)));refine yg rfl rfl rfl (fun hg=>Z2 (qR rfl)) ?_;refine RT.gg rfl rfl rfl (fun hg=>(Z0 Z1n (.inl rfl))) ?_;refine RT.gg rfl rfl rfl (fun hg=>(Z1 Zq (qR rfl) rfl)) ?_;refine RT.gg rfl rfl rfl (fun hg=>(Zu (qR rfl) (.inl rfl))) ?_;refine yg rfl rfl rfl (fun hg=>Zn (qR rfl) (.inl rfl) (.inl rfl) (fun h=>⟨hg,h⟩)) ?_;refine yg rfl rfl rfl (fun hg=>Z2 (qR rfl)) ?_;refine RT.gg rfl rfl rfl (fun hg=>(Z2 (.inl rfl))) ?_;refine RT.gg rfl rfl rfl (fun hg=>(Z2Z (qR rfl) (.inl rfl))) ?_;refine RT.gg rfl rfl rfl (fun hg=>(Z2 (qR rfl))) ?_;refine RT.gg rfl rfl rfl (fun hg=>(Z0 Z1n (.inl rfl))) ?_;refine RT.gg rfl rfl rfl (fun hg=>(Z1 Zq (qR rfl) rfl)) ?_;refine RT.gg rfl rfl rfl (fun hg=>(Zu (qR rfl) (.inl rfl))) ?_;refine RT.gg rfl rfl rfl (fun hg=>(Zn (qR rfl) (.inl rfl) (.inl rfl) (fun h=>⟨hg,h⟩))) ?_;refine yg rfl rfl rfl (fun hg=>ZF (qR rfl) (.inl rfl) (.inl rfl) (fun h=>⟨hg,h⟩)) ?_;refine yz (Zn rfl rfl rfl id) ?_;apply yn;refine FinS.nil0 ?_;refine vS [4,5,6,7,8,41] ?_;refine yC rfl (fun ht41=>?_) (fun ht41=>?_);have hIS:isT (bnA i).1 (bnA i).2.1 [pkT us false]=true:=by rw[<-ZjM qM];exact ht41
 have hR:binR us=(bnA i).2.2:=by rw[hB,Zgk qM,if_pos hIS]
 repeat apply yQ
 refine J.reg0 hmx qK qK ?_;refine yz (Z2 rfl) (yz (Z3G (m:=13) (e:=Z6z) (sz:=1) qK qK rfl rfl qM qM) ?_);refine yz (Z1 Zq rfl (Zmg (i:=i) qM)) ?_;refine yz (Z2 rfl) (yz (Z3G (m:=13) (e:=Z6z) (sz:=1) qK qK rfl rfl qM qM) ?_);refine yz (Z1 Zq rfl (Zm3 (i:=i) qM)) ?_;refine yz (Z15 rfl) (yz (Z15 rfl) ?_);apply yn;refine FinS.nil0 ?_;refine vS [2,3] ?_;refine vR ?_;exact JX.retL2 (Lr:=[_,_,_,_]) rfl () trivial qP rfl hb0 rfl rfl (by rw[hR]);apply yK
 repeat first|apply yX|apply yB
 have hIS:isT (bnA i).1 (bnA i).2.1 [pkT us false]=false:=by rw[<-ZjM qM];exact ht41
 refine vQ ?_;refine Jm rfl (Jq (Zv (cc:=((i+1:Nat):Int)) rfl rfl qM qM qM) ?_);refine Ja rfl ?_;apply yI
 repeat refine JX.normal_block ?_
 refine JX.roundS (i+1) ?_ ?_ [4,5,6,7,8] ?_ ?_ ?_
 · exact⟨by omega,by rw[hB,Zgk qM,if_neg (by rw[hIS];decide)]⟩
 · exact qM
 · exact qS
 · exact qB
 · exact qB
 try simp only[yd,yf]at ht15
 repeat apply yQ
 refine J.exit ?_
 repeat first|refine yH ?_|refine yM rfl ?_|refine yE ?_
 repeat first|apply yX|apply yB
 have hR:binR us=(0,0):=by rw[hB,List.drop_eq_nil_of_le (show binL.length<=i by show 13<=i;omega)];rfl
 refine vQ ?_;refine Ja rfl (Ja rfl (vS [2,3] ?_));refine vR ?_;exact JX.retL2 (Lr:=[_,_,_,_]) rfl () trivial qP rfl hb0 rfl rfl (by rw[hR])
abbrev FK(T:Rk)(b:Nat)(us:List T3)(bad:Bool):Prop:=CallL Tryz.prog Z56 [RB T b us bad] [T.G] [.is (.pointer (some ⟨b,0,none⟩))] (fun z:Ex×List T3×Bool=>∀n,us.length<=n->Rv (factorR (exprR n 0) us) us bad z) (fun z=>[RB T b z.2.1 z.2.2]) (fun z=>.rep (ExR z.1))
def agN(i:Nat):ByteArray:=[Z2E,Z53,Z5r,Z5M].getD i em
abbrev agT:List Value:=[.string Z2E,.string Z53,.string Z5r,.string Z5M]
theorem ZlP{i:Nat}(h:i<4):nth (Value.cells (.agg agT.toArray)).toList (0+((i:Nat):Int).toNat*1)=some (.string (agN i)):=by
 match i,h with
 |0,_|1,_|2,_|3,_=>rfl
theorem Zmk{i:Nat}(h:i<4){w:ByteArray}(hno: ∀j,j<i->sq w (agN j)=false)(hy:sq w (agN i)=true):aggK w=some (20+(i:Int)):=by
 unfold aggK
 match i,h with
 |0,_=>rw[if_pos (show sq w Z2E=true from hy)];rfl
 |1,_=>rw[if_neg (by rw[show sq w Z2E=false from hno 0 qM];decide),if_pos (show sq w Z53=true from hy)];rfl
 |2,_=>rw[if_neg (by rw[show sq w Z2E=false from hno 0 qM];decide),if_neg (by rw[show sq w Z53=false from hno 1 qM];decide),if_pos (show sq w Z5r=true from hy)];rfl
 |3,_=>rw[if_neg (by rw[show sq w Z2E=false from hno 0 qM];decide),if_neg (by rw[show sq w Z53=false from hno 1 qM];decide),if_neg (by rw[show sq w Z5r=false from hno 2 qM];decide),if_pos (show sq w Z5M=true from hy)];rfl
theorem ZkM{w:ByteArray}(hno: ∀j,j<4->sq w (agN j)=false):aggK w=none:=by
 unfold aggK;rw[if_neg (by rw[show sq w Z2E=false from hno 0 qM];decide),if_neg (by rw[show sq w Z53=false from hno 1 qM];decide),if_neg (by rw[show sq w Z5r=false from hno 2 qM];decide),if_neg (by rw[show sq w Z5M=false from hno 3 qM];decide)]
theorem Zko{us:List T3}{bad:Bool}(h:((pkT us bad).k==0)=false): ∃t r,us=t::r/\bad=false:=by
 unfold pkT at h;cases bad with
 |true=>cases h
 |false=>
   cases us with
   |nil=>cases h
   |cons t r=>exact⟨t,r,rfl,rfl⟩
theorem ZiK{e:Ps Ex}{us:List T3}{bad:Bool}(hm:isRB 5 Z1s us bad=false)(h:((pkT us bad).k==0)=true)(x:Ex):Rv (factorR e us) us bad (x,us,true):=by
 cases bad with
 |true=>exact Rv.badly (List.suffix_refl _) x
 |false=>
   cases us with
   |nil=>rw[factorR];exact Rv.none x
   |cons t r=>
     have h':(t.k==0)=true:=h;have hm':isT 5 Z1s (t::r)=false:=by simpa [isRB] using hm
     rw[factorR,if_neg (by rw[hm'];decide),if_pos h'];exact Rv.none x
theorem Rv.up{α:Type}{o:Option (α×List T3)}{t:T3}{r:List T3}{bad:Bool}{z:α×List T3×Bool}(h:Rv o r bad z):Rv o (t::r) bad z:=⟨h.1.trans (List.suffix_cons _ _),h.2.1,h.2.2⟩
theorem Zhg{e:Ps Ex}{us:List T3}{bad:Bool}(hm:isRB 5 Z1s us bad=true){z:Ex×List T3×Bool}(hz:Rv (factorR e us.tail) us.tail bad z):Rv (factorR e us) us bad (nd 3 [z.1],z.2.1,z.2.2):=by
 obtain⟨hb,h⟩:=Z2I hm;obtain⟨t,r,rfl,_⟩:=Z5t h;rw[factorR,if_pos h];exact Rv.up (Rv.map hz rfl)
def facR(e:Ps Ex)(t:T3)(r:List T3):Option (Ex×List T3):=
 if t.k==3 then some (lit 1 t.n em,r)
 else if t.k==4 then some (lit 3 0 t.t,r)
 else if t.k==2 then(if isT 5 Z5p r then(nameP r.tail).map fun z=>(.mk 2 0 0 em t.t z.1 0 [],z.2)else some (.mk 2 0 0 em em t.t 0 [],r))
 else if sq t.t Z5j then some (lit 2 1 em,r)
 else if sq t.t Z4B then some (lit 2 0 em,r)
 else if sq t.t Z1v then some (lit 0 0 em,r)
 else if(t.k==5)&&sq t.t s_lp then(e r).bind fun x=>(wantP 5 s_rp x.2).map fun v=>(x.1,v.2)
 else match aggK t.t with
   |none=>none
   |some q=>(wantP 5 s_lp r).bind fun y=>
     if q==20&&isT 5 Z1g y.2 then(wantP 5 s_rp y.2.tail).map fun v=>(nd 20 [],v.2)
     else(e y.2).bind fun x=>(wantP 5 s_rp x.2).map fun v=>(nd q [x.1],v.2)
theorem Z3B{e:Ps Ex}{t:T3}{r:List T3}{z:Ex×List T3×Bool}(hm:isRB 5 Z1s (t::r) false=false)(h0:(t.k==0)=false)(hz:Rv (facR e t r) r false z):Rv (factorR e (t::r)) (t::r) false z:=by
 have hm':isT 5 Z1s (t::r)=false:=by simpa [isRB] using hm
 rw[factorR,if_neg (by rw[hm'];decide),if_neg (by rw[h0];decide)];exact Rv.up hz
theorem Rv.up_tail{α:Type}{o:Option (α×List T3)}{r:List T3}{bad:Bool}{z:α×List T3×Bool}(h:Rv o r.tail bad z):Rv o r bad z:=⟨h.1.trans (List.tail_suffix _),h.2.1,h.2.2⟩
theorem Rv.ite_fc{α:Type}{c:Bool}{p q:Option (α×List T3)}{us:List T3}{bad:Bool}{z:α×List T3×Bool}(h:c=true->bad=true)(hz:Rv q us bad z):Rv (if c then p else q) us bad z:=by
 cases hc:c with
 |false=>exact hz
 |true=>
   have hb:=h hc;subst hb;exact⟨hz.1,hz.2.1,fun h=>by cases h⟩
abbrev gsk(i:Nat)(vs:List T3)(bd:Bool):List T3:=if 0<i then vs else skRB 5 Z1g vs bd
theorem JO.gcallH{P:Program}{c:Ctx}{K:List (Nat×Ty)}{Lr:List Own}{Φ:List (World->Prop)}{Q:Exit->Act->World->Prop}{ops:Array Oper}{rest:List Oper}{op:Op}{d:Nat}{ty:TypeId}{pos:String}{after:Array Edge}{g s:Nat}{b cc:Bool}{T:Ty}{o o2:Own}(hgi:(ops[g]?).bind (·.dst)=some s)(hns:Nat.blt s c.n=true)(hk:Go.Vc.look K s=some (.is (.bool cc)))(hd:Nat.blt d c.n=true)
  (hno:cc≠b->o=o2)(hyes:cc=b->JO P c ((d,T)::K) (o2::Lr) Φ ops rest Q->JO P c K (o::Lr) Φ ops (⟨some d,op,ty,pos,after,none⟩::rest) Q)
  (hj:JO P c ((d,.opt (cc=b) T)::K) (o2::Lr) Φ ops rest Q):JO P c K (o::Lr) Φ ops (⟨some d,op,ty,pos,after,some (g,b)⟩::rest) Q:=
 JO.gcall hgi hns hk hd (fun e=>by rw[hno e]) hyes hj
theorem Sub.leaf0{L:List Own}{Φ:List (World->Prop)}{k vk vn:Int}{vs tb nm:ByteArray}{sl:Int}:Sub L Φ (.is (.agg #[.int .i64 k,.int .i64 vk,.int .i64 vn,.string vs,.string tb,.string nm,.int .i64 sl,.slice none 0 0])) (.rep (ExR (.mk k vk vn vs tb nm sl []))):=Sub.leaf
set_option maxHeartbeats 1000000 in
theorem Z5Z(T:Rk)(b0 o0:Nat)(ha:T.ts.length≠0->T.ad=some ⟨b0,o0,none⟩)(h9:T.ts.length<=2049)(b:Nat)(us:List T3)(hus:us<:+T.ts)(bad:Bool)(hX: ∀vs bd,vs<:+T.ts->vs.length<us.length->EC T b vs bd 0)(hF: ∀vs bd,vs<:+T.ts->vs.length<us.length->FK T b vs bd):CallL Tryz.prog Z56 [RB T b us bad] [T.G] [.is (.pointer (some ⟨b,0,none⟩))] (fun z:Ex×List T3×Bool=>∀n,us.length<=n->Rv (factorR (exprR n 0) us) us bad z) (fun z=>[RB T b z.2.1 z.2.2]) (fun z=>.rep (ExR z.1)):=
CallL.of (fn:=Tryz.f127) Tryz.func127 (n:=125) rfl rfl rfl (fun _ _=>by kernel_rfl) fun E W hb0=>by
 refine vQ ?_;refine JO.alloc ZT rfl fun b2=>(vP [0,2] ?_);refine Jm rfl ?_;refine JO.callK (Lr:=[_]) (Z10 T b0 o0 ha h9 b _ ?hs _ Z1s) rfl qP qF qA ?_
 case hs=>exact qW
 intro _ _;refine vD ?_;refine vS [0,2,9] ?_;refine yC rfl (fun ht9=>?_) (fun ht9=>?_);rw[Z1f ht9];refine vQ ?_;refine Jm rfl (JO.callK (Lr:=[_]) (hF us.tail bad ((List.tail_suffix us).trans hus) (ZG (Z2I ht9).2).2) rfl qP qF qA ?_);intro z hz;refine vD ?_;refine Jq (Z2b ZB rfl) (JO.open_ (s:=12) (R:=ExsR [z.1]) rfl ?_);rintro _ ⟨_,a12,l12,q12,rfl,_⟩;refine JO.fact (KidsR [z.1] a12 l12) (fun X w hf _ w' hk=>by obtain⟨a,len,cap,e,h⟩:=hf (ExsR [z.1] (.slice a12 l12 q12)) qI w' hk;injection e with e1 e2 e3;subst e1 e2;exact h) ?_;refine Jq (Zg (cs:=[_,_,_,_,_,_,_,_]) Z17 (.cons rfl (.cons rfl .nil)) rfl rfl) (JO.m (Z4 rfl rfl qU (by exact Zh rfl rfl) (by first|exact Zh rfl rfl|exact ZQ) Zc) (by rfl) ?_);refine vS [2] ?_;refine vR ?_;refine JX.retLCs (Lr:=[_]) rfl (nd 3 [z.1],z.2.1,z.2.2) ?_ qP rfl rfl hb0 rfl Z6 HasOwn.mem (Z1o rfl) (Sub.exMk qI);intro n hn;exact Zhg ht9 (hz n (by rw[List.length_tail];omega));apply yK
 repeat first|apply yX|apply yB
 rw[Z16 ht9];refine vQ ?_;refine Jm rfl (JO.callK (Lr:=[_]) (Z2P T b0 o0 ha h9 b us hus bad) rfl qP qF qA ?_);intro _ _;refine vD ?_;refine JO.alloc Z1C rfl fun b3=>(JO.m (Z4 rfl rfl qU (by exact Zh rfl rfl) (by first|exact Zh rfl rfl|exact ZQ) ZI) (by rfl) ?_);refine vP [0,2,3] ?_;refine Jq (Z0 Z1n rfl) (Jq (Z1 Zq rfl rfl) (Jq (Zu rfl rfl) (vS [0,2,3,18] ?_)));refine yC rfl (fun ht18=>?_) (fun ht18=>?_);refine vQ ?_;refine Jm rfl (Jq (Z5 rfl) (Jq (Z0 Ze rfl) (JO.m (Zj (cs':=[_,_,_]) rfl rfl qU rfl rfl rfl rfl Z2D) (by rfl) ?_)));refine vP [2] ?_;refine Jq (Zg (cs:=[_,_,_,_,_,_,_,_]) Z17 .nil rfl rfl) (JO.m (Z4 rfl rfl qU (by exact Zh rfl rfl) (by first|exact Zh rfl rfl|exact ZQ) Zc) (by rfl) ?_);refine vS [2] ?_;refine vR ?_;refine JX.retLCs (Lr:=[_,_]) rfl (ex0,us,true) ?_ qP rfl rfl hb0 rfl Z6 HasOwn.mem (Z1o rfl) Sub.leaf0;intro n hn;exact ZiK ht9 ht18 _;apply yK
 repeat first|apply yX|apply yB
 obtain⟨t,r,rfl,rfl⟩:=Zko ht18;have h0:(t.k==0)=false:=ht18;have hne:(t::r)≠[]:=by simp
 have hlt:=ZaP hus hne;have hkt:T.k r=T.k (t::r)+1:=Z5W hus hne;have hr:r<:+T.ts:=(List.suffix_cons t r).trans hus;rw[show pkT (t::r) false=t from rfl];refine vQ ?_;refine Jm rfl (Jq (Z5 rfl) (Jq (Z0 ZH rfl) (Jq (Z1 Zq rfl rfl) (Jq (Zv (cc:=(T.k r:Nat)) rfl rfl (inRK hus hne) qM qM) ?_))));refine Jq (Z5 rfl) (Jq (Z0 ZH rfl) (JO.m (Zj (cs':=[_,_,_]) rfl rfl qU rfl rfl rfl rfl Z2x) (by rfl) ?_));refine vS [0,2,3] ?_;apply yk;refine vQ ?_;refine Jq (Z0 Z1n rfl) (Jq (Z1 Zq rfl rfl) (Jq (Zu rfl rfl) (Ja rfl (vS [0,2,3,30] ?_))));refine yC rfl (fun ht30=>?_) (fun ht30=>?_);refine vQ ?_;refine Jq (Z0 Z8u rfl) (Jq (Z1 Z2y rfl rfl) (Jq (Zg (cs:=[_,_,_]) Z2G (.cons rfl (.cons rfl .nil)) rfl rfl) (Jq (Zg (cs:=[_,_,_,_,_,_,_,_]) Z17 (.cons rfl (.cons rfl .nil)) rfl rfl) (JO.m (Z4 rfl rfl qU (by exact Zh rfl rfl) (by first|exact Zh rfl rfl|exact ZQ) Zc) (by rfl) ?_))));refine vS [2] ?_;refine vR ?_;refine JX.retLCs (Lr:=[_,_]) rfl (lit 1 t.n em,r,false) ?_ qP rfl rfl hb0 rfl Z6 HasOwn.mem (Z1o rfl) Sub.leaf0;intro n hn;refine Z3B ht9 h0 ?_;unfold facR;rw[if_pos ht30];exact Rv.pure _;refine vQ ?_;refine Jq (Z0 Z1n rfl) (Jq (Z1 Zq rfl rfl) (Jq (Zu rfl rfl) (Ja rfl (vS [0,2,3,38] ?_))));refine yC rfl (fun ht38=>?_) (fun ht38=>?_);refine vQ ?_;refine Jq (Z0 Z1K rfl) (Jq (Z1 Za rfl rfl) (Jq (Zg (cs:=[_,_,_]) Z2G (.cons rfl (.cons rfl .nil)) rfl rfl) (Jq (Zg (cs:=[_,_,_,_,_,_,_,_]) Z17 (.cons rfl (.cons rfl .nil)) rfl rfl) (JO.m (Z4 rfl rfl qU (by exact Zh rfl rfl) (by first|exact Zh rfl rfl|exact ZQ) Zc) (by rfl) ?_))));refine vS [2] ?_;refine vR ?_;refine JX.retLCs (Lr:=[_,_]) rfl (lit 3 0 t.t,r,false) ?_ qP rfl rfl hb0 rfl Z6 HasOwn.mem (Z1o rfl) Sub.leaf0;intro n hn;refine Z3B ht9 h0 ?_;unfold facR;rw[if_neg (by rw[ht30];decide),if_pos ht38];exact Rv.pure _;refine vQ ?_;refine Jq (Z0 Z1n rfl) (Jq (Z1 Zq rfl rfl) (Jq (Zu rfl rfl) (Ja rfl (vS [0,2,3,46] ?_))));refine yC rfl (fun ht46=>?_) (fun ht46=>?_);refine vQ ?_;refine Jm rfl ?_;refine JO.callK (Lr:=[_,_]) (Z10 T b0 o0 ha h9 b _ ?hs _ Z5p) rfl qP qF qA ?_
 case hs=>exact hr
 intro _ _;refine vD ?_;refine vS [0,2,3,51] ?_;refine yC rfl (fun ht51=>?_) (fun ht51=>?_);rw[Z1f ht51]
 repeat apply yQ
 refine J.regBgm (G:={z:ByteArray×List T3×Bool // Rv (nameP r.tail) r.tail false z}) 3 5 (fun g=>.is (.string g.1.1)) (fun g=>[RB T b g.1.2.1 g.1.2.2]++[⟨b3,Z1u,.is (tkV t)⟩,⟨b2,Zb,.is (.agg #[.int .i64 0,.int .i64 0,.int .i64 0,.string ⟨#[]⟩,.string ⟨#[]⟩,.string ⟨#[]⟩,.int .i64 0,.slice none 0 0])⟩]) ([⟨b3,Z1u,.is (tkV t)⟩,⟨b2,Zb,.is (.agg #[.int .i64 0,.int .i64 0,.int .i64 0,.string ⟨#[]⟩,.string ⟨#[]⟩,.string ⟨#[]⟩,.int .i64 0,.slice none 0 0])⟩]) rfl rfl rfl rfl hmx qK rfl qK (fun o ho=>List.mem_cons_of_mem _ ho) (fun g o ho=>List.mem_cons_of_mem _ ho) qK ?_;refine yz (Z0 Z1K rfl) (yz (Z1 Za rfl rfl) (yz (Z2 rfl) ?_));refine RT.bigg (Lq:=[⟨b3,Z1u,.is (tkV t)⟩,⟨b2,Zb,.is (.agg #[.int .i64 0,.int .i64 0,.int .i64 0,.string ⟨#[]⟩,.string ⟨#[]⟩,.string ⟨#[]⟩,.int .i64 0,.slice none 0 0])⟩]) (Z3x (Lr:=[⟨b3,Z1u,.is (tkV t)⟩,⟨b2,Zb,.is (.agg #[.int .i64 0,.int .i64 0,.int .i64 0,.string ⟨#[]⟩,.string ⟨#[]⟩,.string ⟨#[]⟩,.int .i64 0,.slice none 0 0])⟩]) rfl (ZY T b0 o0 ha h9 b r.tail ((List.tail_suffix r).trans hr) false) (.refl _) qF qA) (fun g=>?_);refine yz (Zg (cs:=[_,_,_,_,_,_,_,_]) Z17 (.cons rfl (.cons rfl (.cons rfl .nil))) rfl rfl) ?_;apply yn;obtain⟨z5,hz5⟩:=g;try dsimp only
 refine JO.m (Z4 rfl rfl qU (by exact Zh rfl rfl) (by first|exact Zh rfl rfl|exact ZQ) Zc) (by rfl) ?_;refine vS [2] ?_;refine vR ?_;refine JX.retLCs (Lr:=[_,_]) rfl (.mk 2 0 0 em t.t z5.1 0 [],z5.2.1,z5.2.2) ?_ qP rfl rfl hb0 rfl Z6 HasOwn.mem (Z1o rfl) Sub.leaf0;intro n hn;refine Z3B ht9 h0 ?_;unfold facR;rw[if_neg (by rw[ht30];decide),if_neg (by rw[ht38];decide),if_pos ht46];exact Rv.ite_t ht51 (Rv.map hz5 rfl);apply yK
 repeat first|apply yX|apply yB
 rw[Z16 ht51];refine vQ ?_;refine Jq (Z0 Z1K rfl) (Jq (Z1 Za rfl rfl) (Jq (Zg (cs:=[_,_,_,_,_,_,_,_]) Z17 (.cons rfl (.cons rfl .nil)) rfl rfl) (JO.m (Z4 rfl rfl qU (by exact Zh rfl rfl) (by first|exact Zh rfl rfl|exact ZQ) Zc) (by rfl) ?_)));refine vS [2] ?_;refine vR ?_;refine JX.retLCs (Lr:=[_,_]) rfl (.mk 2 0 0 em em t.t 0 [],r,false) ?_ qP rfl rfl hb0 rfl Z6 HasOwn.mem (Z1o rfl) Sub.leaf0;intro n hn;refine Z3B ht9 h0 ?_;unfold facR;rw[if_neg (by rw[ht30];decide),if_neg (by rw[ht38];decide),if_pos ht46];exact Rv.ite_f ht51 (Rv.pure _);refine vQ ?_;refine Jq (Z0 Z1K rfl) (Jq (Z1 Za rfl rfl) (Jq (Z1L rfl rfl) (Ja rfl (vS [0,2,3,60] ?_))));refine yC rfl (fun ht60=>?_) (fun ht60=>?_);have hqT:sq t.t Z5j=true:=by rw[<-Z1G];exact ht60
 refine vQ ?_;refine Jq (Zg (cs:=[_,_,_]) Z2G (.cons rfl (.cons rfl .nil)) rfl rfl) (Jq (Zg (cs:=[_,_,_,_,_,_,_,_]) Z17 (.cons rfl (.cons rfl .nil)) rfl rfl) (JO.m (Z4 rfl rfl qU (by exact Zh rfl rfl) (by first|exact Zh rfl rfl|exact ZQ) Zc) (by rfl) ?_));refine vS [2] ?_;refine vR ?_;refine JX.retLCs (Lr:=[_,_]) rfl (lit 2 1 em,r,false) ?_ qP rfl rfl hb0 rfl Z6 HasOwn.mem (Z1o rfl) Sub.leaf0;intro n hn;refine Z3B ht9 h0 ?_;unfold facR;rw[if_neg (by rw[ht30];decide),if_neg (by rw[ht38];decide),if_neg (by rw[ht46];decide),if_pos hqT];exact Rv.pure _;have hqT:sq t.t Z5j=false:=by rw[<-Z1G];exact ht60
 refine vQ ?_;refine Jq (Z0 Z1K rfl) (Jq (Z1 Za rfl rfl) (Jq (Z1L rfl rfl) (Ja rfl (vS [0,2,3,66] ?_))));refine yC rfl (fun ht66=>?_) (fun ht66=>?_);have hqF:sq t.t Z4B=true:=by rw[<-Z1G];exact ht66
 refine vQ ?_;refine Jq (Zg (cs:=[_,_,_]) Z2G (.cons rfl .nil) rfl rfl) (Jq (Zg (cs:=[_,_,_,_,_,_,_,_]) Z17 (.cons rfl (.cons rfl .nil)) rfl rfl) (JO.m (Z4 rfl rfl qU (by exact Zh rfl rfl) (by first|exact Zh rfl rfl|exact ZQ) Zc) (by rfl) ?_));refine vS [2] ?_;refine vR ?_;refine JX.retLCs (Lr:=[_,_]) rfl (lit 2 0 em,r,false) ?_ qP rfl rfl hb0 rfl Z6 HasOwn.mem (Z1o rfl) Sub.leaf0;intro n hn;refine Z3B ht9 h0 ?_;unfold facR;rw[if_neg (by rw[ht30];decide),if_neg (by rw[ht38];decide),if_neg (by rw[ht46];decide),if_neg (by rw[hqT];decide),if_pos hqF];exact Rv.pure _;have hqF:sq t.t Z4B=false:=by rw[<-Z1G];exact ht66
 refine vQ ?_;refine Jq (Z0 Z1K rfl) (Jq (Z1 Za rfl rfl) (Jq (Z1L rfl rfl) (Ja rfl (vS [0,2,3,72] ?_))));refine yC rfl (fun ht72=>?_) (fun ht72=>?_);have hqN:sq t.t Z1v=true:=by rw[<-Z1G];exact ht72
 refine vQ ?_;refine Jq (Zg (cs:=[_,_,_,_,_,_,_,_]) Z17 (.cons rfl .nil) rfl rfl) (JO.m (Z4 rfl rfl qU (by exact Zh rfl rfl) (by first|exact Zh rfl rfl|exact ZQ) Zc) (by rfl) ?_);refine vS [2] ?_;refine vR ?_;refine JX.retLCs (Lr:=[_,_]) rfl (lit 0 0 em,r,false) ?_ qP rfl rfl hb0 rfl Z6 HasOwn.mem (Z1o rfl) Sub.leaf0;intro n hn;refine Z3B ht9 h0 ?_;unfold facR;rw[if_neg (by rw[ht30];decide),if_neg (by rw[ht38];decide),if_neg (by rw[ht46];decide),if_neg (by rw[hqT];decide),if_neg (by rw[hqF];decide),if_pos hqN];exact Rv.pure _;have hqN:sq t.t Z1v=false:=by rw[<-Z1G];exact ht72
 refine vQ ?_;refine Jq (Z0 Z1n rfl) (Jq (Z1 Zq rfl rfl) (Jq (Zu rfl rfl) (Jm rfl (JO.tg rfl rfl rfl rfl rfl (fun hg=>Z0 Z1K (.inl rfl)) (JO.tg rfl rfl rfl rfl rfl (fun hg=>Z1 Za (qR rfl) rfl) ?_)))));refine JO.tg rfl rfl rfl rfl rfl (fun hg=>Z1L (qR rfl) (.inl rfl)) ?_;refine Jq (Zn rfl rfl rfl id) (Ja rfl (vS [0,2,3,77] ?_));refine yC rfl (fun ht77=>?_) (fun ht77=>?_);have hlp:((t.k==5)&&sq t.t s_lp)=true:=by rw[<-Z1G];exact ht77
 refine vQ ?_;refine Jm rfl (JO.callK (Lr:=[_,_]) (hX r false hr (by simp)) rfl qP qF qA ?_);intro z hz;refine vD ?_;refine JO.alloc ZT rfl fun b4=>(JO.m (Z4 rfl rfl qU qC qO Zc) (by rfl) ?_);refine vS [0,2,4] ?_;have hz1:z.2.1<:+r:=(hz (r.length+1) qM).suf;refine vQ ?_;refine Jm rfl ?_;refine JO.callK (Lr:=[_,_,_]) (Zl T b0 o0 ha h9 b _ ?hs _ 5 qD s_rp) rfl qP qF qA ?_
 case hs=>exact hz1.trans hr
 intro y hy;refine vD ?_;refine vP [2,4] ?_;refine Jq (Z1J Z6 rfl) (JO.m (Z4 rfl rfl qU qC qO Zc) (by rfl) ?_);refine vS [2] ?_;refine vR ?_;refine JX.retLCs (Lr:=[_,_,_]) rfl (z.1,y.2.1,y.2.2) ?_ qP rfl rfl hb0 rfl Z6 HasOwn.mem Z1S (Sub.refl _);intro n hn;refine Z3B ht9 h0 ?_;unfold facR;rw[if_neg (by rw[ht30];decide),if_neg (by rw[ht38];decide),if_neg (by rw[ht46];decide),if_neg (by rw[hqT];decide),if_neg (by rw[hqF];decide),if_neg (by rw[hqN];decide),if_pos hlp];exact(hz n (by simp at hn;omega)).bind (Rv.map hy rfl);apply yK
 repeat first|apply yX|apply yB
 have hlp:((t.k==5)&&sq t.t s_lp)=false:=by rw[<-Z1G];exact ht77
 refine vQ ?_;refine Jq (Zg (cs:=[_,_,_,_]) Z5l (.cons rfl (.cons rfl (.cons rfl (.cons rfl .nil)))) rfl rfl) (JO.alloc Zbj rfl fun b5=>(JO.m (Z4 rfl rfl qU qC qO Zbc) (by rfl) ?_));refine vP [0,2,3,5] ?_;refine Ja rfl (vS [0,2,3,5,6] ?_);apply yk
 repeat apply yQ
 refine J.loopF (α:=Nat) (fun k=>[(0,.is (.pointer (some ⟨b,0,none⟩))),(2,.is (.pointer (some ⟨b2,0,none⟩))),(3,.is (.pointer (some ⟨b3,0,none⟩))),(5,.is (.pointer (some ⟨b5,0,none⟩))),(6,.is (.int .i64 (k:Nat)))]) (fun k=>k<=4/\ ∀j,j<k->sq t.t (agN j)=false) (fun k=>4-k) 0 [0,2,3,5,6] (.cons rfl (.cons rfl (.cons rfl (.cons rfl (.cons rfl .nil))))) ⟨by omega,fun j hj=>by omega⟩ fun i ⟨hi,hno⟩=>?_;refine vQ ?_;refine Jm rfl (Jq (ZC rfl rfl) (vS [0,2,3,5,6,93] ?_));refine yC rfl (fun ht93=>?_) (fun ht93=>?_)
 try simp only[yd,yf]at ht93
 apply yK;refine vN ?_;apply yk
 repeat apply yQ
 refine J.reg0 hmx qK qK ?_;refine yz (Z0 Z1K rfl) (yz (Z1 Za rfl rfl) (yz (Z2 rfl) (yz (Z3G (m:=4) (e:=Zs) (sz:=1) qK qK rfl rfl qM qM) ?_)));refine yz (Z1 Za rfl (ZlP (i:=i) qM)) ?_;refine yz (Z1L rfl rfl) ?_;apply yn;refine FinS.nil0 ?_;refine vS [0,2,3,5,6,101] ?_;refine yC rfl (fun ht101=>?_) (fun ht101=>?_);have hqi:sq t.t (agN i)=true:=by rw[<-Z1G];exact ht101
 have hag:=Zmk qM hno hqi;refine vQ ?_;refine Jm rfl ?_;refine JO.callK (Lr:=[_,_,_]) (Zl T b0 o0 ha h9 b _ ?hs _ 5 qD s_lp) rfl qP qF qA ?_
 case hs=>exact hr
 intro y hy;refine vD ?_;refine vP [0,2,6] ?_;refine Jm rfl (Jq (Zv (cc:=20+(i:Int)) rfl rfl rfl qM qM) ?_);refine Jq (Zg (cs:=[_,_,_,_,_,_,_,_]) Z17 (.cons rfl .nil) rfl rfl) (JO.alloc ZT rfl fun b7=>(JO.m (Z4 rfl rfl qU qC qO Zc) (by rfl) ?_));refine vS [0,2,6,7] ?_;refine J.front b (by repeat(first|exact .here|apply Front.there)) ?_;refine vQ ?_;refine Jm rfl (Jq (Z13 rfl rfl) (Jm rfl (JO.tg rfl rfl rfl rfl rfl (fun hg=>Z2 (.inl rfl)) ?_)));refine JO.gcallH (g:=2) (s:=109) (b:=false) (cc:=decide ((0:Int)<(i:Int))) (T:=.is (.bool (isRB 5 Z1g y.2.1 y.2.2))) (o2:=RB T b (gsk i y.2.1 y.2.2) y.2.2) rfl rfl rfl rfl (fun e=>by rw[gsk,if_pos (by simp at e;omega)]) (fun e hn=>?_) ?_
 · have hn0:gsk i y.2.1 y.2.2=skRB 5 Z1g y.2.1 y.2.2:=if_neg (by simp at e;omega)
   rw[hn0]at hn;exact JO.callKG (Lr:=_) e (Z10 T b0 o0 ha h9 b y.2.1 (hy.suf.trans hr) y.2.2 Z1g) rfl (.refl _) qF (.one (qR rfl) (.one (.inl rfl) .nil)) (fun _ _=>hn)
 refine JO.tg rfl rfl rfl rfl rfl (fun hg=>Z2e (qR rfl)) ?_;refine Jq (ZF rfl rfl rfl id) (vS [0,2,7,113] ?_);refine yC rfl (fun ht113=>?_) (fun ht113=>?_);have hgs:gsk i y.2.1 y.2.2=y.2.1:=by unfold gsk;by_cases h:0<i;exact if_pos h;(rw[if_neg h];exact Z16 (by simp at ht113;rcases ht113 with h1|h1;omega;exact h1))
 rw[hgs];refine vQ ?_;refine Jm rfl (JO.callK (Lr:=_) (hX y.2.1 y.2.2 (hy.suf.trans hr) (by have:=hy.suf.length_le;simp;omega)) rfl (.refl _) qF qA ?_);intro z hz;refine vD ?_;refine Jq (Z2b ZB rfl) (JO.open_ (s:=116) (R:=ExsR [z.1]) rfl ?_);rintro _ ⟨_,a116,l116,q116,rfl,_⟩;refine JO.fact (KidsR [z.1] a116 l116) (fun X w hf _ w' hk=>by obtain⟨a,len,cap,e,h⟩:=hf (ExsR [z.1] (.slice a116 l116 q116)) qI w' hk;injection e with e1 e2 e3;subst e1 e2;exact h) ?_;refine Jq (Z0 Z1p rfl) (JO.m (Zj (cs':=[_,_,_,_,_,_,_,_]) rfl rfl qU rfl rfl rfl rfl Z2k) (by rfl) ?_);refine vS [0,2,7] ?_
 first|(have hz1:z.2.1<:+y.2.1:=(hz (y.2.1.length+1) qM).suf)|(have hgs:isRB 5 Z1g y.2.1 y.2.2=true/\i=0:=(by rw[Bool.or_eq_false_iff,decide_eq_false_iff_not,Bool.not_eq_false']at ht113;exact⟨ht113.2,by omega⟩);obtain⟨hst,rfl⟩:=hgs;rw[show gsk 0 y.2.1 y.2.2=y.2.1.tail from Z1f hst])
 refine vQ ?_;refine Jm rfl ?_;refine JO.callK (Lr:=_) (Zl T b0 o0 ha h9 b _ ?hs _ 5 qD s_rp) rfl (.refl _) qF qA ?_
 case hs=>first|exact hz1.trans (hy.suf.trans hr)|exact Z4i.trans (hy.suf.trans hr)|exact(List.tail_suffix _).trans (hy.suf.trans hr)
 intro x hx;refine vD ?_;refine vP [2,7] ?_;refine Jq (ZR (cs:=[_,_,_,_,_,_,_,_]) Z6 rfl rfl rfl) (JO.m (Z4 rfl rfl qU (by exact Zh rfl rfl) (by first|exact Zh rfl rfl|exact ZQ) Zc) (by rfl) ?_);refine vS [2] ?_;refine vR ?_;refine JX.retLCs (Lr:=[_,_,_,_]) rfl (nd (20+(i:Int)) [z.1],x.2.1,x.2.2) ?_ qP rfl rfl hb0 rfl Z6 HasOwn.mem (Z1o rfl) (Sub.exMk qI);intro n hn;refine Z3B ht9 h0 ?_;unfold facR;rw[if_neg (by rw[ht30];decide),if_neg (by rw[ht38];decide),if_neg (by rw[ht46];decide),if_neg (by rw[hqT];decide),if_neg (by rw[hqF];decide),if_neg (by rw[hqN];decide),if_neg (by rw[hlp];decide)];rw[hag];refine hy.bind ?_;dsimp only;refine Rv.ite_fc (fun hc=>?_) ((hz n (by have:=hy.suf.length_le;simp at hn;omega)).bind (Rv.map hx rfl));simp only[Bool.and_eq_true,beq_iff_eq]at hc;have hi0: ¬0<i:=by omega
 have hstar:isRB 5 Z1g y.2.1 y.2.2=false:=by simp[hi0]at ht113;exact ht113
 cases hb:y.2.2 with
 |true=>rfl
 |false=>rw[hb]at hstar;unfold isRB at hstar;rw[hc.2]at hstar;cases hstar
 apply yK
 repeat first|apply yX|apply yB
 first|(have hz1:z.2.1<:+y.2.1:=(hz (y.2.1.length+1) qM).suf)|(have hgs:isRB 5 Z1g y.2.1 y.2.2=true/\i=0:=(by rw[Bool.or_eq_false_iff,decide_eq_false_iff_not,Bool.not_eq_false']at ht113;exact⟨ht113.2,by omega⟩);obtain⟨hst,rfl⟩:=hgs;rw[show gsk 0 y.2.1 y.2.2=y.2.1.tail from Z1f hst])
 refine vQ ?_;refine Jm rfl ?_;refine JO.callK (Lr:=_) (Zl T b0 o0 ha h9 b _ ?hs _ 5 qD s_rp) rfl (.refl _) qF qA ?_
 case hs=>first|exact hz1.trans (hy.suf.trans hr)|exact Z4i.trans (hy.suf.trans hr)|exact(List.tail_suffix _).trans (hy.suf.trans hr)
 intro x hx;refine vD ?_;refine vP [2,7] ?_;refine Jq (ZR (cs:=[_,_,_,_,_,_,_,_]) Z6 rfl rfl rfl) (JO.m (Z4 rfl rfl qU (by exact Zh rfl rfl) (by first|exact Zh rfl rfl|exact ZQ) Zc) (by rfl) ?_);refine vS [2] ?_;refine vR ?_;refine JX.retLCs (Lr:=[_,_,_,_]) rfl (nd 20 [],x.2.1,x.2.2) ?_ qP rfl rfl hb0 rfl Z6 HasOwn.mem (Z1o rfl) Sub.leaf0;intro n hn;refine Z3B ht9 h0 ?_;unfold facR;rw[if_neg (by rw[ht30];decide),if_neg (by rw[ht38];decide),if_neg (by rw[ht46];decide),if_neg (by rw[hqT];decide),if_neg (by rw[hqF];decide),if_neg (by rw[hqN];decide),if_neg (by rw[hlp];decide)];rw[hag];refine hy.bind ?_;dsimp only;rw[if_pos (by rw[(Z2I hst).2];rfl)];exact Rv.up_tail (Rv.map hx rfl);apply yK
 repeat first|apply yX|apply yB
 have hqi:sq t.t (agN i)=false:=by rw[<-Z1G];exact ht101
 refine vQ ?_;refine Jm rfl (Jq (Zv (cc:=((i+1:Nat):Int)) rfl rfl qM qM qM) ?_);refine Ja rfl ?_;apply yI
 repeat refine JX.normal_block ?_
 refine JX.roundS (i+1) ?_ ?_ [0,2,3,5,6] ?_ ?_ ?_
 · exact⟨by omega,fun j hj=>by rcases Nat.lt_succ_iff_lt_or_eq.1 hj with h|rfl;exact hno j h;exact hqi⟩
 · exact qM
 · exact qS
 · exact qB
 · exact qB
 try simp only[yd,yf]at ht93
 repeat apply yQ
 refine J.exit ?_
 repeat first|refine yH ?_|refine yM rfl ?_|refine yE ?_
 repeat first|apply yX|apply yB
 have hag:aggK t.t=none:=ZkM (fun j hj=>hno j qM);refine vQ ?_;refine Jm rfl (Jq (Z5 rfl) (Jq (Z0 Ze rfl) (JO.m (Zj (cs':=[_,_,_]) rfl rfl qU rfl rfl rfl rfl Z2D) (by rfl) ?_)));refine vP [2] ?_;refine Jq (Zg (cs:=[_,_,_,_,_,_,_,_]) Z17 .nil rfl rfl) (JO.m (Z4 rfl rfl qU (by exact Zh rfl rfl) (by first|exact Zh rfl rfl|exact ZQ) Zc) (by rfl) ?_);refine vS [2] ?_;refine vR ?_;refine JX.retLCs (Lr:=[_,_,_]) rfl (ex0,r,true) ?_ qP rfl rfl hb0 rfl Z6 HasOwn.mem (Z1o rfl) Sub.leaf0;intro n hn;refine Z3B ht9 h0 ?_;unfold facR;rw[if_neg (by rw[ht30];decide),if_neg (by rw[ht38];decide),if_neg (by rw[ht46];decide),if_neg (by rw[hqT];decide),if_neg (by rw[hqF];decide),if_neg (by rw[hqN];decide),if_neg (by rw[hlp];decide)];rw[hag];exact Rv.none _
end Go.Proofs.YtbedigkncjbggaaGreatDoor
