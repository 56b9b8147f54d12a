/- What is parsed of a text is printed as the document says. No condition. -/
import Derived.Test.YtbedigkncjbggaaGreatDoorXQ14
import Derived.Test.YtbedigkncjbggaaGreatDoorXQ17
import Derived.Test.YtbedigkncjbggaaGreatDoorXQ12
import Derived.Test.YtbedigkncjbggaaGreatDoorXQ2
import Derived.Test.YtbedigkncjbggaaGreatDoorRows
import Derived.Deep.DeepHandedRow
import Derived.Deep.DeepWitnessRowRef
import Derived.Lib.LaidCaseMet
import Derived.Lib.LaidIn
import Derived.PinnedBridge
import Derived.ProofKit
import Derived.Test.YtbedigkncjbggaaGreatDoorXG1
import Derived.Stop.LaidErr
import Derived.Lib.LaidTab
import Derived.Lib.SmallJoins
import Derived.Shelf.Vars
import Derived.JoinedCond
import Derived.ChangeMaps5
import Derived.Test.YtbedigkncjbggaaGreatDoorCards
import Derived.Test.YtbedigkncjbggaaGreatDoorTie
import Derived.Test.YtbedigkncjbggaaGreatDoorXQ5
import Derived.Test.YtbedigkncjbggaaGreatDoorXQ1
set_option maxRecDepth 20000
namespace Go.Proofs.YtbedigkncjbggaaGreatDoor
open Go Go.Vc
open Go.Pz
theorem Zme(s:ByteArray):CallF Tryz.prog Z9S [] [.is (.string s)] (.tup2 (.rep (StR 0 (prS s.data.toList).1)) (.is (.int .i64 (prS s.data.toList).2))):=CallL.toF (Zdz s) rfl
theorem Zi2: ∃S0:Pz.St,GoodS S0/\(1<=S0.kind/\S0.kind<=9)/\txS S0=pw2/\CallF Tryz.prog Z6N [NH 0,GF,AF] [.is (.string (bl pw1))] (.tup2 (.rep (StR 0 S0)) (.is (.int .i64 0))):=by
 have h:=ZmB;simp only[Bool.and_eq_true,beq_iff_eq]at h;have hg:=Zdo h.1;have hs:(match takeP 1 (lexL pw1).1 with|some z=>sq z.1.t Z40|none=>true)=true:=by decide+kernel
 have hc:CallF Tryz.prog Z6N [NH 0,GF,AF] [.is (.string (bl pw1))] (.tup2 (.rep (StR 0 (prS pw1).1)) (.is (.int .i64 (prS pw1).2))):=CallL.toF (ZcF 0 (bl pw1) (ZeL h.1) (fun z hz=>by rw[show takeP 1 (lexL pw1).1=some z from hz]at hs;exact ZaS hs) h.1) rfl;rw[h.1]at hc;exact⟨_,hg.1,hg.2,h.2,hc⟩
theorem Zmh{nk:ByteArray->Prop}{s:Pz.St}(h:WfS nk s): ∀x∈exsOf s,0<x.K->Wf nk x:=fun x hx hk=>by
 have wh: ∀{l:List Ex},wfWh nk l->x∈l->Wf nk x:=fun{l} h hm=>by
   rcases h with rfl|⟨y,rfl,hy⟩
   · cases hm
   · rw[List.mem_singleton.1 hm];exact hy
 unfold exsOf at hx;simp only[List.mem_append]at hx;cases h with
 |tab _ _|idx _ _ _|pl _=>simp[stK,st0]at hx
 | @ins tb names rows h hn hr=>
   have hx:x∈rows.flatten:=by simpa [stK,st0] using hx
   obtain⟨r,hr1,hr2⟩:=List.mem_flatten.1 hx;exact(hr.2.2 r hr1).2.2 x hr2
 | @upd tb l wh_ h hl hw=>
   have hx:x∈wh_\/x∈l.map (·.2):=by simpa [stK,st0] using hx
   rcases hx with hx|hx
   · exact wh hw hx
   · obtain⟨p,hp,rfl⟩:=List.mem_map.1 hx
     exact(hl.2.2 p hp).2
 | @del tb wh_ h hw=>exact wh hw (by simpa [stK,st0] using hx)
 | @sel items s0 js wh_ gr od lim hi hs hs0 hj hj3 hw hg ho hl=>
   rcases hx with(((((hx|hx)|hx)|hx)|hx)|hx)|hx
   · cases hx
   · obtain⟨i,hi1,rfl⟩:=List.mem_map.1 hx
     rcases hi.2.2 i hi1 with⟨_,h0⟩|⟨_,h0⟩
     · rw[h0]at hk;exact absurd hk qD
     · exact h0
   · obtain⟨r,hr1,hr2⟩:=List.mem_flatten.1 hx
     obtain⟨j,hj1,rfl⟩:=List.mem_map.1 hr1;rcases List.mem_cons.1 hj1 with rfl|hj1
     · rw[hs0]at hr2;cases hr2
     · obtain⟨_,y,hy,hwy⟩:=hj j hj1
       rw[hy]at hr2;rw[List.mem_singleton.1 hr2];exact hwy
   · obtain⟨k,hk1,rfl⟩:=List.mem_map.1 hx
     rcases ho with rfl|ho
     · cases hk1
     · exact ho.2.2 k hk1
   · exact wh hw hx
   · rcases hg with rfl|hg
     · cases hx
     · exact hg.2.2 x hx
   · cases hx
theorem Zcz:CallF Tryz.prog ZdA [NH 0,GF,AF,TF] [] (.is (.bool true)):=
CallF.of (fn:=Tryz.f19) Tryz.func19 (n:=14) rfl rfl rfl (fun _ _=>by kernel_rfl) fun E W=>by
 obtain⟨S0,hgS,hk9,htx,hP⟩:=Zi2;refine vQ ?_;refine Ja rfl ?_;apply yI
 repeat first|apply yX|apply yB
 refine yL [] .nil (vQ ?_);refine Jq (ZN rfl (hP) qF qA) ?_;refine Jm rfl (Jq (Z39 rfl) (Jq (Z3b rfl) (JO.alloc Z1Q rfl fun b1=>(JO.m (Z4 rfl rfl qU (by exact Zh rfl rfl) (by exact ZQ) ZV) (by rfl) ?_))));refine Ja rfl (vS [1,2] ?_);refine J.front b1 (by repeat(first|exact .here|apply Front.there)) ?_;refine J.openOwnSt fun vc vn vr vi vf vw vg vo vs h1c=>?_
 repeat apply yQ
 refine J.reg0 hmx qK qK ?_;refine yz (Z2 rfl) (yz (Zu rfl rfl) (yz (Z2 rfl) (yg rfl rfl rfl (fun hg=>ZR (cs:=[_,_,_,_,_,_,_,_,_,_,_,_,_,_]) ZL (.inl rfl) rfl rfl) (yg rfl rfl rfl (fun hg=>ZN (.inl rfl) (Z9Q 0 S0 hgS hk9) qF (.sub (qR rfl) (Sub.st rfl fun X w hf w' hk=>⟨hf _ qI w' hk,hf _ qI w' hk,hf _ qI w' hk,hf _ qI w' hk,hf _ qI w' hk,hf _ qI w' hk,hf _ qI w' hk,hf _ qI w' hk,hf _ qI w' hk⟩) .nil)) ?_))));refine yg rfl rfl rfl (fun hg=>Z1L (qR rfl) (.inl rfl)) ?_;refine yz (Zn rfl rfl rfl id) (yz (Z15 rfl) ?_);apply yn;refine FinS.nil0 ?_;refine vS [0] ?_;refine vR ?_;exact JX.ret1is rfl rfl (by rw[htx];exact congrArg Value.bool (by decide+kernel))
set_option maxHeartbeats 2000000 in
theorem ZaC(s:ByteArray)(hsz:s.data.toList.length<=140737488351232):CallF Tryz.prog Zas [NH 0,GF,AF,TF] [.is (.string s)] (.is (.bool true)):=
CallF.of (fn:=Tryz.f8) Tryz.func8 (n:=48) rfl rfl rfl (fun _ _=>by kernel_rfl) fun E W=>by
 have hs1:=Zi5 s.data.toList;have hP1:=Zme s;have hgd:=Zdo (l:=s.data.toList);have hwf:=ZcK (l:=s.data.toList);have hxl:=Zda hs1.1
 generalize prS s.data.toList=p1 at hs1 hP1 hgd hwf hxl
 refine vQ ?_;refine Ja rfl (vP [0] ?_);refine Jq (ZN rfl (Zcz) qF .nil) ?_;refine Jq (Z2e rfl) (vS [0,8] ?_);refine yC rfl (fun ht8=>?_) (fun ht8=>?_)
 try simp only[yd,yf]at ht8
 refine vQ ?_;refine Ja rfl (vS [2] ?_);refine vR ?_;exact JX.ret1is rfl rfl (by exact absurd ht8 qD)
 try simp only[yd,yf]at ht8
 apply yK;refine vN ?_;apply yN;refine Jm rfl (Jq (ZN rfl hP1 (fun _ h=>by cases h) (.one rfl .nil)) ?_);refine Jm rfl (Jq (Z39 rfl) (Jq (Z3b rfl) (JO.alloc Z1Q rfl fun b3=>(JO.m (Z4 rfl rfl qU (by exact Zh rfl rfl) (by exact ZQ) ZV) (by rfl) ?_))));refine Ja rfl (vP [3,4] ?_);refine Jm rfl (Jq (Z3e rfl rfl) (vS [3,15] ?_));refine yC rfl (fun ht15=>?_) (fun ht15=>?_)
 try simp only[yd,yf]at ht15
 refine vQ ?_;refine Ja rfl (vS [2] ?_);refine vR ?_;exact JX.ret1is rfl rfl (rfl)
 try simp only[yd,yf]at ht15
 apply yK
 repeat first|apply yX|apply yB
 have hq0:p1.2=0:=by simpa using ht15
 obtain⟨hgS,hk9⟩:=hgd hq0;have hwS:=(hwf hq0).1;refine J.front b3 (by repeat(first|exact .here|apply Front.there)) ?_;refine J.openOwnSt fun vc vn vr vi vf vw vg vo vs h1c=>?_
 repeat apply yQ
 refine J.reg0 hmx qK qK ?_;refine yz (ZR (cs:=[_,_,_,_,_,_,_,_,_,_,_,_,_,_]) ZL rfl rfl rfl) (yz (ZN rfl (Z9Q 0 p1.1 hgS hk9) qF (.sub rfl (Sub.st rfl fun X w hf w' hk=>⟨hf _ qI w' hk,hf _ qI w' hk,hf _ qI w' hk,hf _ qI w' hk,hf _ qI w' hk,hf _ qI w' hk,hf _ qI w' hk,hf _ qI w' hk,hf _ qI w' hk⟩) .nil)) ?_);refine yz (ZR (cs:=[_,_,_,_,_,_,_,_,_,_,_,_,_,_]) ZL rfl rfl rfl) (yz (Zo rfl (ZdJ 0 p1.1 hgS (sh_s hwS) hk9) (.sub rfl (Sub.st rfl fun X w hf w' hk=>⟨hf _ qI w' hk,hf _ qI w' hk,hf _ qI w' hk,hf _ qI w' hk,hf _ qI w' hk,hf _ qI w' hk,hf _ qI w' hk,hf _ qI w' hk,hf _ qI w' hk⟩) .nil)) ?_);refine yz (Z4Z rfl rfl) ?_;apply yn;refine FinS.nil0 ?_;refine vS [3,20] ?_;refine yC rfl (fun ht20=>?_) (fun ht20=>?_)
 try simp only[yd,yf]at ht20
 refine vQ ?_;refine Ja rfl (vS [2] ?_);refine vR ?_;exact JX.ret1is rfl rfl (by exact absurd ht20 (by simp[seq]))
 try simp only[yd,yf]at ht20
 apply yK;refine vN ?_;apply yN;refine Jq (ZR (cs:=[_,_,_,_,_,_,_,_,_,_,_,_,_,_]) ZL rfl rfl rfl) (Jq (Zo rfl (Zb9 0 p1.1 hs1.1) (.sub rfl (Sub.st rfl fun X w hf w' hk=>⟨hf _ qI w' hk,hf _ qI w' hk,hf _ qI w' hk,hf _ qI w' hk,hf _ qI w' hk,hf _ qI w' hk,hf _ qI w' hk,hf _ qI w' hk,hf _ qI w' hk⟩) .nil)) ?_);refine Ja rfl (vP [5] ?_);refine Ja rfl (vS [5,6] ?_);apply yk
 repeat apply yQ
 refine J.openExs (s:=5) rfl (fun al ll cl bl ol hll hal=>?_);refine J.loopF (α:=Nat) (fun i=>[(5,.is (.slice al ll cl)),(6,.is (.int .i64 (i:Nat)))]) (fun i=>i<=ll) (fun i=>ll-i) 0 [5,6] (.cons rfl (.cons rfl .nil)) (Nat.zero_le _) fun i hi=>?_;refine vQ ?_;refine Jm rfl (Jm rfl (Jq (ZE Zy rfl) (Jq (ZC rfl rfl) (vS [5,6,26] ?_))));refine yC rfl (fun ht26=>?_) (fun ht26=>?_)
 try simp only[yd,yf]at ht26
 apply yK;refine vN ?_;apply yk;have hm9:=Z1l (xs:=exsOf p1.1) (i:=i) qM;have hge:0<((exsOf p1.1).getD i ex0).K->GE ((exsOf p1.1).getD i ex0):=fun h=>⟨Zmh hwS _ hm9 h,hs1.2 _ hm9⟩
 repeat apply yQ
 refine J.reg0 hmx qK qK ?_;refine yz (Z2 rfl) (yz (Z2 rfl) (yz (Z9 ZO rfl (hal qM) rfl qM qM) ?_));refine yz (Z0 Z1a rfl) (yz (ZeA (i:=i) (j:=0) (x:=(exsOf p1.1).getD i ex0) (u:=.int .i64 ((exsOf p1.1).getD i ex0).K) Zq rfl qI (hal qM) (Z1B qM) qM (fun _ _ _=>rfl)) ?_);refine yz (Z13 rfl rfl) (yz (Z2 rfl) (yg rfl rfl rfl (fun hg=>Z2 (.inl rfl)) (yg rfl rfl rfl (fun hg=>Z2 (.inl rfl)) (yg rfl rfl rfl (fun hg=>Z9 ZO (qR rfl) (hal qM) (qR rfl) qM qM) ?_))));refine yg rfl rfl rfl (fun hg=>Z1q (i:=i) (kid:=(exsOf p1.1).getD i ex0) Z6 (qR rfl) qI (hal qM) (Z1B qM) qM) ?_;refine yg rfl rfl rfl (fun hg=>ZN (.inl rfl) (c_PE (x:=(exsOf p1.1).getD i ex0) (hge (by simpa using hg)).1 (hge (by simpa using hg)).2) qF (.one (qR rfl) .nil)) ?_;refine yg rfl rfl rfl (fun hg=>Z2 (.inl rfl)) (yg rfl rfl rfl (fun hg=>Z2 (.inl rfl)) (yg rfl rfl rfl (fun hg=>Z9 ZO (qR rfl) (hal qM) (qR rfl) qM qM) ?_));refine yg rfl rfl rfl (fun hg=>Z1q (i:=i) (kid:=(exsOf p1.1).getD i ex0) Z6 (qR rfl) qI (hal qM) (Z1B qM) qM) ?_;refine yg rfl rfl rfl (fun hg=>Zo (.inl rfl) (c_RE (x:=(exsOf p1.1).getD i ex0) (hge (by simpa using hg))) (.one (qR rfl) (.one (.inl rfl) .nil))) ?_;refine yg rfl rfl rfl (fun hg=>Z4Z (qR rfl) (qR rfl)) ?_;refine yz (Zn rfl rfl rfl id) ?_;apply yn;refine FinS.nil0 ?_;refine vS [5,6,47] ?_;refine yC rfl (fun ht47=>?_) (fun ht47=>?_)
 try simp only[yd,yf]at ht47
 refine vQ ?_;refine Ja rfl (vS [2] ?_);refine vR ?_;exact JX.ret1is rfl rfl (by exact absurd ht47 (by simp[seq]))
 try simp only[yd,yf]at ht47
 apply yK;refine vN ?_;apply yN;refine Jm rfl (Jq (Zv (cc:=((i+1:Nat):Int)) rfl rfl qM qM qM) ?_);refine Ja rfl ?_;apply yI
 repeat refine JX.normal_block ?_
 refine JX.roundS (i+1) ?_ ?_ [5,6] ?_ ?_ ?_
 · exact qM
 · exact qM
 · exact qS
 · exact qB
 · exact qB
 try simp only[yd,yf]at ht26
 repeat apply yQ
 refine J.exit ?_
 repeat first|refine yH ?_|refine yM rfl ?_|refine yE ?_
 refine vN ?_;apply yN;refine Ja rfl (vS [2] ?_);refine vR ?_;exact JX.ret1is rfl rfl (rfl)
end Go.Proofs.YtbedigkncjbggaaGreatDoor
set_option maxRecDepth 100000
namespace Go.Proofs.YtbedigkncjbggaaGreatDoor
open Go Go.Vc Go.Shelf Go.ChangeShapes Go.WideShapes Go.ChangeAt Go.RowKit
theorem own:ownKnob Tryz.prog.godebug=none:=by kernel_rfl
theorem laidOut:laidOutB Tryz.prog=true:=by kernel_rfl
def litCells:DataW Unit->Array Value
 | .agg l=>(l.map fun| .lit (.int k z)=>Value.int k z|_=>undef).toArray
 |_=> #[]
def accCells:Array Value:=((List.range 16).flatMap fun i=>[Value.int .u8 (Lib.accLo i),Value.int .u8 (Lib.accHi i)]).toArray
def wsCells:Array Value:=([9,13,1,32,133,101,160,5760,5600,8192,8202,1,8232,8233,1,8239,8287,48,12288,12288,1].map fun z=>Value.int .u16 z).toArray
noncomputable def laidWorld(os:Os):World:=
 let N:=(World.settled Tryz.prog os).heap.size
 let w0:=World.holding Tryz.prog os ⟨#[.cells Lib.caseCells5 (Z5k.t 208),.cells #[.slice (some ⟨N+2,0,none⟩) 7 7,.slice none 0 0,.int .i64 2] 217,.cells wsCells 220],#[],[]⟩
 let put (h:Array Obj) (g:Nat) (cs:Array Value):Array Obj:=h.modify g fun
  | .cells _ t frozen=>.cells cs t frozen
  |o=>o
 let h0:=put w0.heap 0 (litCells Rows.laid_strings_asciiSpace)
 let h3:=put h0 3 #[.slice (some ⟨N,0,none⟩) 336 336]
 let h4:=put h3 4 #[.pointer (some ⟨N+1,0,none⟩)]
 let h5:=put h4 5 (Lib.firstTab.map fun z=>Value.int .u8 z).toArray
 let h6:=put h5 6 accCells
 let h2:=put h6 2 (litCells Rows.laid_internal_strconv_uint64pow10)
 let h7:=put h2 7 (litCells Rows.laid_math_bits_deBruijn32tab)
 let h8:=put h7 8 (litCells Rows.laid_math_bits_deBruijn64tab)
 {w0 with heap:=h8}
noncomputable abbrev N0:Nat:=(World.settled Tryz.prog default).heap.size
noncomputable abbrev LW(os:Os)(args:Array Value):World:=((laidWorld os).forCall (fun _ _=>0) ⟨#[],args,[]⟩).memory
theorem Zi9(os:Os)(args:Array Value):LaidIn Tryz.prog (LW os args) [("unicode/utf8.acceptRanges",Rows.laid_unicode_utf8_acceptRanges)] [6]:=
 LaidIn.of_run [6] 8 qK qK qK qK
theorem ZfL(os:Os)(args:Array Value):LaidIn Tryz.prog (LW os args) [("unicode/utf8.first",Rows.laid_unicode_utf8_first)] [5]:=
 LaidIn.of_run [5] 8 qK qK qK qK
theorem ZfD{P:Program}{ρ:Ren}(L:Lays.n274 P ρ)(t206:P.underlying (ρ.t 206)=some (.array 3 (ρ.t 21)))(X:CaseExtra P ρ){w:World}(R:Nat)(t:TypeId)(hgR:ρ.g 13≠R)
   (hvar:w.heap[ρ.g 13]? =some (.cells #[.slice (some ⟨R,0,none⟩) Lib.caseA.size Lib.caseA.size] (ρ.t 162) (0,0)))
   (hblk:w.heap[R]? =some (.cells Lib.caseCells5 t (0,0))):LaidIn P w [("unicode.CaseRanges",Lib.caseData)] [ρ.g 13,R]:=by
 have hT:=caseTab_of_block hblk;have hread:=case_slice_reads L t206 X hT caseA_wf (by rw[Lib.caseA_size];unfold maxLen;omega) 0;rw[case_rows_data]at hread;have hv:w.var? P "unicode.CaseRanges"=some #[.slice (some ⟨R,0,none⟩) Lib.caseA.size Lib.caseA.size]:=by simp[World.var?,X.n13,hvar]
 refine LaidIn.one (cs:= #[.slice (some ⟨R,0,none⟩) Lib.caseA.size Lib.caseA.size]) [ρ.g 13,R] X.n13 X.y13 hv hread ?_ ?_ ?_
 · refine List.nodup_append.2 ⟨row_nodup _ _,row_nodup _ _,?_⟩
   intro a ha b hb e;obtain⟨i,_,rfl⟩:=MemPlace.mem_row.1 ha;obtain⟨j,_,rfl⟩:=MemPlace.mem_row.1 hb
   simp at e
   exact hgR e.1
 · intro b off hp
   rcases List.mem_append.1 hp with hp|hp
   · obtain⟨i,hi,e⟩:=MemPlace.mem_row.1 hp
     cases e;refine⟨⟨_,_,hvar⟩,fun u v hc=>?_⟩;obtain rfl:i=0:=by simp at hi;omega
     rw[Lib.cell_of_heap hvar]at hc
     simp at hc
   · obtain⟨i,hi,e⟩:=MemPlace.mem_row.1 hp
     cases e;refine⟨⟨_,_,hblk⟩,fun u v hc=>?_⟩;obtain⟨c0,c1,c2,c3,c4⟩:=hT (i / 5) qM;have hi5:0+i=0+i / 5*5+i % 5:=by omega
     simp only at hc;rw[hi5]at hc;have hm:i % 5<5:=Nat.mod_lt _ qM
     match hk:i % 5,hm with
     |0,_=>rw[hk,Nat.add_zero,c0]at hc;cases hc
     |1,_=>rw[hk,c1]at hc;cases hc
     |2,_=>rw[hk,c2]at hc;cases hc
     |3,_=>rw[hk,c3]at hc;cases hc
     |4,_=>rw[hk,c4]at hc;cases hc
 · intro x hx
   rcases List.mem_append.1 hx with hx|hx
   · obtain⟨i,_,rfl⟩:=MemPlace.mem_row.1 hx
     exact List.mem_cons_self
   · obtain⟨i,_,rfl⟩:=MemPlace.mem_row.1 hx
     exact List.mem_cons_of_mem _ List.mem_cons_self
theorem caseX:CaseExtra Tryz.prog Z5k:=⟨by kernel_rfl,by kernel_rfl,by kernel_rfl,by kernel_rfl,by kernel_rfl,by kernel_rfl⟩
theorem Zh7(os:Os)(args:Array Value):LaidIn Tryz.prog (LW os args) [("unicode.CaseRanges",Rows.laid_unicode_CaseRanges)] [3,N0]:=by
 show LaidIn Tryz.prog (LW os args) [("unicode.CaseRanges",Go.Pinned.caseRanges)] [3,N0];rw[Pinned.caseRanges_eq];exact ZfD {lays158 with} lays158.t206 caseX N0 (Z5k.t 208) (of_decide_eq_true qK) qK qK
theorem ZjE(os:Os)(args:Array Value):LaidIn Tryz.prog (LW os args) [("unicode.White_Space",Rows.laid_unicode_White_Space)] [4,N0+1,N0+2]:=
 LaidIn.of_run [4,N0+1,N0+2] 8 qK qK qK qK
theorem ZhY(os:Os)(args:Array Value):LaidIn Tryz.prog (LW os args) [("strings.asciiSpace",Rows.laid_strings_asciiSpace)] [0]:=
 LaidIn.of_run [0] 8 qK qK qK qK
theorem Zhb(os:Os)(args:Array Value):LaidIn Tryz.prog (LW os args) [("math/bits.deBruijn32tab",Rows.laid_math_bits_deBruijn32tab),("math/bits.deBruijn64tab",Rows.laid_math_bits_deBruijn64tab),("internal/strconv.uint64pow10",Rows.laid_internal_strconv_uint64pow10)] [7,8,2]:=
 LaidIn.of_run [7,8,2] 8 qK qK qK qK
end Go.Proofs.YtbedigkncjbggaaGreatDoor
set_option maxRecDepth 100000
namespace Go.Proofs.YtbedigkncjbggaaGreatDoor
open Go Go.Vc Go.ChangeShapes Go.WideShapes Go.ChangeAt Go.RowKit
theorem Zix{W:World}(h:W.ShapedOpen Tryz.prog):GF W:=
 cell_of_shapedOpen_int (zero:= #[.int .i64 0]) (t:=3) h (of_decide_eq_true qK) qK rfl qK qK Tryz.underlying3
theorem Zhz{W:World}{a:Addr}{v:Value}(h:W.cell? a=some v): ∀w',Keeps noX W w'->w'.cell? a=some v:=fun w' hk=>by
 unfold World.cell? at h ⊢;cases hb:W.heap[a.block]? with
 |none=>rw[hb]at h;simp at h
 |some o=>
   rw[hk.get hb (fun h=>h)];rw[hb]at h;exact h
theorem ZkW{W:World}(h:GF W):Pers noX W GF:=fun w' hk=>by
 obtain⟨m,hm⟩:=h;exact⟨m,Zhz hm w' hk⟩
theorem Zio:Tryz.prog.readableRec Zs=true/\Zs<Tryz.prog.types.size:=⟨by kernel_rfl,of_decide_eq_true qK⟩
theorem size1{H:Type}{l:List UInt8}(h:(DataW.weightsEach (H:=H) Tryz.prog [Zs] [.lit (.string l)]).all (· <=reachBytes)=true):l.length<=140737488351232:=by
 simp only[DataW.weightsEach,DataW.weights,List.append_nil,List.all_cons,List.all_nil,Bool.and_true,decide_eq_true_eq]at h;exact h
theorem Zll{W:World}(h:AF W):Pers noX W AF:=fun w' hk=>
 Joins.tab_stays (by kernel_rfl:Tryz.prog.globalNamed "strings.asciiSpace"=some 0) h hk.below (Nat.le_refl _)
end Go.Proofs.YtbedigkncjbggaaGreatDoor
set_option maxRecDepth 100000
namespace Go.Proofs.YtbedigkncjbggaaGreatDoor
open Go Go.Vc Go.ChangeShapes Go.WideShapes Go.ChangeAt Go.RowKit
theorem Zi7(os:Os)(args:Array Value):laidMet Tryz.prog Rows.printBackRow.laid (LW os args):=
 ((((((Zhb os args).append (Zi9 os args) qK).append (ZjE os args) qK).append (ZhY os args) qK).append (Zh7 os args) qK).append (ZfL os args) qK).met
theorem Zju{W:World}(h:laidMetH Tryz.prog Rows.printBackRow.laid W):AF W:=by
 have h1:laidMet Tryz.prog Rows.printBackRow.laid W:=h;exact Lib.tabIs_of_head (t:=187) (e:=5) (n:=256) (by kernel_rfl:Tryz.prog.globalNamed "strings.asciiSpace"=some 0) qK qK qK qK qK (laidMet.tail (laidMet.tail (laidMet.tail (laidMet.tail (laidMet.tail h1)))))
theorem Zji{W:World}(h:laidMetH Tryz.prog Rows.printBackRow.laid W):TF W:=by
 have h1:laidMet Tryz.prog Rows.printBackRow.laid W:=h;exact Lib.tabIs_of_head (t:=193) (e:=136) (n:=20) (by kernel_rfl:Tryz.prog.globalNamed "internal/strconv.uint64pow10"=some 2) qK qK qK qK qK (laidMet.tail (laidMet.tail h1))
theorem Zkh{W:World}(h:TF W):Pers noX W TF:=fun w' hk=>
 Joins.tab_stays (by kernel_rfl:Tryz.prog.globalNamed "internal/strconv.uint64pow10"=some 2) h hk.below (Nat.le_refl _)
end Go.Proofs.YtbedigkncjbggaaGreatDoor
set_option maxRecDepth 100000
namespace Go.Proofs.YtbedigkncjbggaaGreatDoor
open Go Go.Vc Go.ChangeShapes Go.WideShapes Go.ChangeAt Go.RowKit
open Go.ChangeMaps (open_string)
theorem Zc4(os:Os)(args:Array Value):laidMet Tryz.prog Rows.printTellsRow.laid (LW os args):=Zi7 os args
theorem Zaq(os:Os){H:Type}(enc:TypeId×Value->H):
  (OpenSpec.ofChange Rows.printTellsSpec).preRow enc Tryz.prog Tryz.f8 Rows.printTellsRow.domain false Rows.printTellsRow.laid (LW os #[.string ⟨#[]⟩]) #[.string ⟨#[]⟩]:=by
 have hw:(DataW.whole enc Tryz.prog (LW os #[.string ⟨#[]⟩]) Tryz.f8.params.toList Rows.printTellsSpec.vars false (#[.string ⟨#[]⟩]:Array Value).toList 8).map (fun x=>(x.1,x.2.1))=some ([.lit (.string [])],[]):=by kernel_rfl
 obtain⟨⟨x1,x2,x3⟩,hx,hx1⟩:=Option.map_eq_some_iff.1 hw;simp only[Prod.mk.injEq]at hx1;obtain⟨rfl,rfl⟩:=hx1;exact OpenSpec.preRow_of_cond 8 hx qK (fun k hk=>by cases hk) qK (Zc4 os _)
set_option maxHeartbeats 2000000 in
theorem Zb5(os:Os)(started:os.Started)(H:Type)(enc:TypeId×Value->H)(F:Stop.Interp):
   ReturnsInHanded {} Tryz.checked os 8 .any ((OpenSpec.ofChange Rows.printTellsSpec).preRow enc Tryz.prog Tryz.f8 Rows.printTellsRow.domain false Rows.printTellsRow.laid) (((OpenSpec.ofChange Rows.printTellsSpec).at F).post enc Tryz.prog Tryz.f8 false true false false):=by
 refine returnsInHanded_of_row (C:=Tryz.checked) (s:=OpenSpec.ofChange Rows.printTellsSpec) own started qK Tryz.func8
   (witness_row_atRef (enc:=enc) (C:=Tryz.checked) false (laidWorld os) #[.string ⟨#[]⟩] rfl qK qK qK (Zaq os enc)) ?_
 intro W base args ds gs before hval0 hW _ _ hsz0 hL hsh _;have hW':=hW;obtain⟨p,q,hA0,hV,rfl,hfz,hnd⟩:=hW;have hA:DataW.TrodAll enc Tryz.prog W 0 (fun _=>true) true [Zs] args.toList ds p:=hA0;have hgf:=ZkW (Zix hsh);have haf:=Zll (Zju hL);have htf:=Zkh (Zji hL);obtain⟨v0,d0,rfl,rfl,h0⟩:=trodAll_one hA;obtain⟨rfl,rfl⟩:=trodVars_none hV;obtain⟨s,rfl,rfl,rfl,_⟩:=open_string Zd (hval0 0 Zs v0 rfl rfl) h0;have hsz:(DataW.weightsEach (H:=H) Tryz.prog [Zs] [.lit (.string s.data.toList)]).all (· <=reachBytes)=true:=hsz0;refine((ZaC s (by exact size1 hsz)).calls noX W [.string s] (fun _ h=>h.elim) (fun F hF=>by rcases yc.1 hF with rfl|hF;exact fun w' _=>Nat.zero_le _;rcases yc.1 hF with rfl|hF;exact hgf;rcases yc.1 hF with rfl|hF;exact haf;rcases yc.1 hF with rfl|hF;exact htf;cases hF) ⟨rfl,trivial⟩).mono fun e W' ⟨v,he,hk,hR⟩=>?_;subst he;have hR':v= .bool true:=hR;subst hR';exact⟨_,rfl,Zit (f:=Tryz.f8) (s:=Rows.printTellsSpec) (tB:=Zl1) laidOut (mem1 Zio) qK qK rfl rfl rfl rfl hW' hk⟩
theorem Zc5:Rows.PrintTellsSaid:=
 OpenClaim.holds_of_cond 8 Tryz.f8 rfl rfl rfl rfl rfl rfl rfl ⟨rfl,rfl,rfl,rfl,rfl⟩ rfl rfl rfl rfl rfl qK Tryz.func8 qK
  (of_decide_eq_true qK) (by unfold Func.isWrapper;first|(rw[if_pos (by decide+kernel)];kernel_rfl)|(rw[if_neg (by decide+kernel)];exact⟨rfl,rfl⟩))
  (fun os started H enc _ F=>by rw[OpenClaim.pre_eq_preRow];exact Zb5 os started H enc F)
theorem ZbF(f:FuncId)(fn:Func)(hf:Tryz.pinned.checked.prog.funcNamed "cadastre/cadastrelaw11.PrintTells"=some f)(hfn:Tryz.pinned.checked.prog.funcs[f]? =some fn):
  true=Tryz.pinned.checked.prog.looks []/\ ∀(j:Nat) t,fn.params[j]? =some t->Tryz.pinned.checked.prog.wantsStandIn t=false:=by
 obtain rfl:f=8:=Option.some.inj ((show Tryz.prog.funcNamed "cadastre/cadastrelaw11.PrintTells"=some 8 by kernel_rfl).symm.trans hf)|>.symm
 obtain rfl:fn=Tryz.f8:=(Option.some.inj (Tryz.func8.symm.trans hfn)).symm;refine⟨by kernel_rfl,fun j t ht=>?_⟩;have hp:Tryz.f8.params= #[Zs]:=by kernel_rfl
 rw[hp]at ht;obtain rfl:t=Zs:=by simpa using Array.mem_of_getElem? ht
 exact(show Tryz.prog.wantsStandIn Zs=false by kernel_rfl)
theorem printTells_card : Rows.PrintTellsCardSaid :=
 Claim7.holds_tied_plain_at .later [] _ _ _ _ Zc5 (fun _ h => by cases h) qK (fun _ h => by cases h) printTells_row_tie rfl ⟨rfl, rfl⟩ qK rfl ZbF qK
#print axioms printTells_card
end Go.Proofs.YtbedigkncjbggaaGreatDoor
