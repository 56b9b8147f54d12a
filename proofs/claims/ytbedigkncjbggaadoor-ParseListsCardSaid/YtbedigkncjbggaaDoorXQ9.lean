/- Lists as long as they may be: what the statement does. No condition. -/
import Derived.Test.YtbedigkncjbggaaDoorXQ8
import Derived.Test.YtbedigkncjbggaaDoorXQ1
import Derived.Test.YtbedigkncjbggaaDoorRows
import Derived.Deep.DeepHandedRow
import Derived.Deep.DeepWitnessRowRef
import Derived.Lib.LaidCaseMet
import Derived.Lib.LaidIn
import Derived.PinnedBridge
import Derived.ProofKit
import Derived.Test.YtbedigkncjbggaaDoorXG1
import Derived.Stop.LaidErr
import Derived.Lib.LaidTab
import Derived.Lib.SmallJoins
import Derived.Shelf.Vars
import Derived.JoinedCond
import Derived.ChangeMaps5
import Derived.Test.YtbedigkncjbggaaDoorCards
import Derived.Test.YtbedigkncjbggaaDoorTie
set_option maxRecDepth 20000
namespace Go.Proofs.YtbedigkncjbggaaDoor
open Go Go.Vc
open Go.Pz
theorem tmn{n:Int}{m:Int}(h:0<=n/\n<256)(hm:0<m):0<=n.tmod m/\n.tmod m<m:=by
 rw[Int.tmod_eq_emod_of_nonneg h.1];exact⟨Int.emod_nonneg _ qM,Int.emod_lt_of_pos _ hm⟩
theorem Z1k(l k:List UInt8):bl l++bl k=bl (l++k):=by rw[Z1a]
theorem Zbz{i:Nat}(h:0<i):colL (i+1)=(colL i++[44,32])++[97,32,105,110,116]:=by rw[colL,if_pos h]
theorem Zbe{i:Nat}(h: ¬0<i):colL (i+1)=colL i++[97,32,105,110,116]:=by rw[colL,if_neg h]
theorem Zby{i:Nat}(h:0<i):oneL (i+1)=(oneL i++[44])++[49]:=by rw[oneL,if_pos h]
theorem ZbH{i:Nat}(h: ¬0<i):oneL (i+1)=oneL i++[49]:=by rw[oneL,if_neg h]
theorem szL{l k:List UInt8}(hl:l.length<=1000)(hk:k.length<=1000):(bl l).size+(bl k).size<=9223372036854775807:=by rw[Z5S,Z5S];omega
theorem Zdz{k:Nat}{r:Pz.St×Int}(h:okLA k r=true):(r.2==0)=decide (k<=16)/\(k<=16->r.1.cols.length=k):=by
 unfold okLA at h;simp only[Bool.and_eq_true,beq_iff_eq,Bool.or_eq_true,Bool.not_eq_true',decide_eq_false_iff_not]at h;exact⟨h.1,fun hk=>h.2.resolve_left (fun hn=>hn hk)⟩
theorem Zdw{k:Nat}{r:Pz.St×Int}(h:okLB k r=true):(r.2==0)=decide (k<=16)/\(k<=16->0<r.1.rows.length/\(r.1.rows.headD []).length=k):=by
 unfold okLB at h;simp only[Bool.and_eq_true,beq_iff_eq,Bool.or_eq_true,Bool.not_eq_true',decide_eq_false_iff_not]at h;refine⟨h.1,fun hk=>?_⟩;have h2:=h.2.resolve_left (fun hn=>hn hk)
 split at h2
 · rename_i x l hx
   rw[hx];exact⟨Nat.succ_pos _,by simpa using h2⟩
 · cases h2
theorem ZdO{k:Nat}{r:Pz.St×Int}(h:okLC k r=true):(r.2==0)=decide (k<=16)/\(k<=16->r.1.order.length=k):=by
 unfold okLC at h;simp only[Bool.and_eq_true,beq_iff_eq,Bool.or_eq_true,Bool.not_eq_true',decide_eq_false_iff_not]at h;exact⟨h.1,fun hk=>h.2.resolve_left (fun hn=>hn hk)⟩
theorem ZdX{k:Nat}{r:Pz.St×Int}(h:okLD k r=true):(r.2==0)=decide (k+17<=32)/\(r.2=0->r.1.rows.length=k+17):=by
 unfold okLD at h;simp only[Bool.and_eq_true,beq_iff_eq,Bool.or_eq_true,Bool.not_eq_true',beq_eq_false_iff_ne]at h;exact⟨h.1,fun hk=>h.2.resolve_left (fun hn=>hn hk)⟩
theorem ZdZ{k:Nat}{r:Pz.St×Int}(h:okLX k r=true):(r.2==0)=decide (k<=15)/\(r.2=0->r.1.from_.length+11=k):=by
 unfold okLX at h;simp only[Bool.and_eq_true,beq_iff_eq,Bool.or_eq_true,Bool.not_eq_true',beq_eq_false_iff_ne]at h;exact⟨h.1,fun hk=>h.2.resolve_left (fun hn=>hn hk)⟩
theorem Ze7{k lc lr lo:Nat}{a b c:Int}(h1:(a==0)=decide (k<=16))(h2:(b==0)=decide (k<=16))(h3:(c==0)=decide (k<=16))(n1:k<=16->lc=k)(n2:k<=16->lr=k)(n3:k<=16->lo=k):(!(a==0)==decide ((k:Int)<=16)|| !(b==0)==decide ((k:Int)<=16)|| !(c==0)==decide ((k:Int)<=16)||decide ((k:Int)<=16)&&((lc:Int) != (k:Int)||(lr:Int) != (k:Int)||(lo:Int) != (k:Int)))=false:=by
 have e:decide ((k:Int)<=16)=decide (k<=16):=decide_eq_decide.2 qM;rw[e,h1,h2,h3]
 by_cases hk:k<=16
 · rw[n1 hk,n2 hk,n3 hk];simp[hk]
 · simp[hk]
theorem Zed{k lq lf:Nat}{d x:Int}(h14:14<=k)(h4:(d==0)=decide (k+17<=32))(n4:d=0->lq=k+17)(h5:(x==0)=decide (k<=15))(n5:x=0->lf+11=k):((d==0)==decide (((k+17:Nat):Int)<=32)&&(d != 0||(lq:Int)==((k+17:Nat):Int))&&(x==0)==decide (((k-12:Nat):Int)<=3)&&(x != 0||(lf:Int)==((k-11:Nat):Int)))=true:=by
 have e1:decide (((k+17:Nat):Int)<=32)=decide (k+17<=32):=decide_eq_decide.2 qM;have e2:decide (((k-12:Nat):Int)<=3)=decide (k<=15):=decide_eq_decide.2 qM;rw[e1,e2,<-h4,<-h5];have e3:(d != 0||(lq:Int)==((k+17:Nat):Int))=true:=by
   by_cases hd:d=0
   · rw[n4 hd];simp
   · simp[hd]
 have e4:(x != 0||(lf:Int)==((k-11:Nat):Int))=true:=by
   by_cases hd:x=0
   · have:=n5 hd
     rw[show lf=k-11 by omega];simp
   · simp[hd]
 rw[e3,e4];simp
set_option maxHeartbeats 4000000 in
theorem Z6U(n:Int)(hn:0<=n/\n<256):CallF Tryd.prog Z6X [NH 0,GF,AF] [.is (.int .u8 n)] (.is (.bool true)):=
CallF.of (fn:=Tryd.f3) Tryd.func3 (n:=176) rfl rfl rfl (fun _ _=>by kernel_rfl) fun E W=>by
 obtain⟨m,hm⟩: ∃m:Nat,(m:Int)=n.tmod 4:=⟨(n.tmod 4).toNat,by have:=tmn hn (m:=4) qD;omega⟩;have hm4:m<4:=by have:=tmn hn (m:=4) qD;omega
 obtain⟨k,hk⟩: ∃k:Nat,k=14+m:=⟨_,rfl⟩;have hk14:14<=k/\k<=17:=by omega
 obtain⟨hA,hB,hC,hD,hX⟩:=Zd4 hk14;have hcl:=Z67;have hol:=Z5Z;have hrl:=Z6g;have hjl:=Z7a;have hclk:=Z67 k;have holk:=Z5Z k;have hP1:=c_PL 0 (lsA k);have hS1:=Z6W (lsA k);obtain⟨p1,hp1⟩: ∃q,q=prS (lsA k):=⟨_,rfl⟩;rw[<-hp1]at hP1 hS1;have hP2:=c_PL 0 (lsB k);have hS2:=Z6W (lsB k);obtain⟨p2,hp2⟩: ∃q,q=prS (lsB k):=⟨_,rfl⟩;rw[<-hp2]at hP2 hS2;have hP3:=c_PL 0 (lsC k);have hS3:=Z6W (lsC k);obtain⟨p3,hp3⟩: ∃q,q=prS (lsC k):=⟨_,rfl⟩;rw[<-hp3]at hP3 hS3;have hP4:=c_PL 0 (lsD k);have hS4:=Z6W (lsD k);obtain⟨p4,hp4⟩: ∃q,q=prS (lsD k):=⟨_,rfl⟩;rw[<-hp4]at hP4 hS4;have hP5:=c_PL 0 (lsX k);have hS5:=Z6W (lsX k);obtain⟨p5,hp5⟩: ∃q,q=prS (lsX k):=⟨_,rfl⟩;rw[<-hp5]at hP5 hS5;rw[<-hp1]at hA;rw[<-hp2]at hB;rw[<-hp3]at hC;rw[<-hp4]at hD;rw[<-hp5]at hX;obtain⟨eA,nA⟩:=Zdz hA;obtain⟨eB,nB⟩:=Zdw hB;obtain⟨eC,nC⟩:=ZdO hC;obtain⟨eD,nD⟩:=ZdX hD;obtain⟨eX,nX⟩:=ZdZ hX;refine vQ ?_;refine Ja rfl (vP [0] ?_);refine Jq (Z1J rfl Z8U qF .nil) ?_;refine Jq (Z5r rfl) (vS [0,23] ?_);refine yC rfl (fun ht23=>?_) (fun ht23=>?_)
 try simp only[yd,yf]at ht23
 refine vQ ?_;refine Ja rfl (vS [2] ?_);refine vR ?_;exact JX.ret1is rfl rfl (by exact absurd ht23 qD)
 try simp only[yd,yf]at ht23
 apply yK;refine vN ?_;apply yN;refine Jm rfl (Jq (ZdS rfl rfl (by first|decide|(simp at hg;omega)|simp_all)) ?_);refine Jq (ZaT (cc:=((m:Nat):Int)) ⟨_,Z4v⟩ ZdC rfl (by rw[<-hm,Z6I qM qM])) ?_;refine Jq (ZB (cc:=((k:Nat):Int)) rfl rfl qM qM qM) ?_;refine Ja rfl (vP [3] ?_);refine Ja rfl (vP [3,4] ?_);refine Ja rfl (vP [3,4,5] ?_);refine Ja rfl (vS [3,4,5,6] ?_);apply yk
 repeat apply yQ
 refine J.loopF (α:=Nat) (fun i=>[(3,.is (.int .i64 (k:Nat))),(4,.is (.string (bl (colL i)))),(5,.is (.string (bl (oneL i)))),(6,.is (.int .i64 (i:Nat)))]) (fun i=>i<=k) (fun i=>k-i) 0 [3,4,5,6] (.cons rfl (.cons rfl (.cons rfl (.cons rfl .nil)))) (Nat.zero_le _) fun i hi=>?_;refine vQ ?_;refine Jm rfl (Jm rfl (Jq (Z1o rfl rfl) (vS [3,4,5,6,30] ?_)));refine yC rfl (fun ht30=>?_) (fun ht30=>?_)
 try simp only[yd,yf]at ht30
 apply yK;refine vN ?_;apply yk;have hcli:=Z67 i;have holi:=Z5Z i;refine vQ ?_;refine Jm rfl (Jq (Z1U rfl rfl) (vS [3,4,5,6,34] ?_));refine yC rfl (fun ht34=>?_) (fun ht34=>?_)
 try simp only[yd,yf]at ht34
 refine vQ ?_;refine Jm rfl (Jq (Z19 (u:=bl (colL i++[44,32])) rfl rfl (szL (by first|omega|(simp only[List.length_append,List.length_cons,List.length_nil];omega)) (by first|omega|(simp only[List.length_append,List.length_cons,List.length_nil];omega))) (by first|exact Z1k _ _|(rw[Z1a];done)|(rw[Z1a];rfl))) ?_);refine Ja rfl (vP [3,4,5,6] ?_);refine Jm rfl (Jq (Z19 (u:=bl (oneL i++[44])) rfl rfl (szL (by first|omega|(simp only[List.length_append,List.length_cons,List.length_nil];omega)) (by first|omega|(simp only[List.length_append,List.length_cons,List.length_nil];omega))) (by first|exact Z1k _ _|(rw[Z1a];done)|(rw[Z1a];rfl))) ?_);refine Ja rfl (vP [3,4,5,6] ?_);refine Jm rfl (Jq (Z19 (u:=bl (colL (i+1))) rfl rfl (szL (by first|omega|(simp only[List.length_append,List.length_cons,List.length_nil];omega)) (by first|omega|(simp only[List.length_append,List.length_cons,List.length_nil];omega))) (by first|(rw[Zbz qM];exact Z1k _ _)|(rw[Zbe qM];exact Z1k _ _))) ?_);refine Ja rfl (vP [3,4,5,6] ?_);refine Jm rfl (Jq (Z19 (u:=bl (oneL (i+1))) rfl rfl (szL (by first|omega|(simp only[List.length_append,List.length_cons,List.length_nil];omega)) (by first|omega|(simp only[List.length_append,List.length_cons,List.length_nil];omega))) (by first|(rw[Zby qM];exact Z1k _ _)|(rw[ZbH qM];exact Z1k _ _))) ?_);refine Ja rfl (vP [3,4,5,6] ?_);refine Jm rfl (Jq (ZB (cc:=((i+1:Nat):Int)) rfl rfl qM qM qM) ?_);refine Ja rfl ?_;apply yI
 repeat refine JX.normal_block ?_
 refine JX.roundS (i+1) ?_ ?_ [3,4,5,6] ?_ ?_ ?_
 · exact qM
 · exact qM
 · exact qS
 · exact qB
 · exact qB
 try simp only[yd,yf]at ht34
 apply yK;refine vN ?_;apply yN;refine Jm rfl (Jq (Z19 (u:=bl (colL (i+1))) rfl rfl (szL (by first|omega|(simp only[List.length_append,List.length_cons,List.length_nil];omega)) (by first|omega|(simp only[List.length_append,List.length_cons,List.length_nil];omega))) (by first|(rw[Zbz qM];exact Z1k _ _)|(rw[Zbe qM];exact Z1k _ _))) ?_);refine Ja rfl (vP [3,4,5,6] ?_);refine Jm rfl (Jq (Z19 (u:=bl (oneL (i+1))) rfl rfl (szL (by first|omega|(simp only[List.length_append,List.length_cons,List.length_nil];omega)) (by first|omega|(simp only[List.length_append,List.length_cons,List.length_nil];omega))) (by first|(rw[Zby qM];exact Z1k _ _)|(rw[ZbH qM];exact Z1k _ _))) ?_);refine Ja rfl (vP [3,4,5,6] ?_);refine Jm rfl (Jq (ZB (cc:=((i+1:Nat):Int)) rfl rfl qM qM qM) ?_);refine Ja rfl ?_;apply yI
 repeat refine JX.normal_block ?_
 refine JX.roundS (i+1) ?_ ?_ [3,4,5,6] ?_ ?_ ?_
 · exact qM
 · exact qM
 · exact qS
 · exact qB
 · exact qB
 try simp only[yd,yf]at ht30
 repeat apply yQ
 refine J.exit ?_
 repeat first|refine yH ?_|refine yM rfl ?_|refine yE ?_
 repeat first|apply yX|apply yB
 have hik:k=i:=by omega
 subst hik;refine vQ ?_;refine Jm rfl (Jq (Z19 (u:=bl ([99,114,101,97,116,101,32,116,97,98,108,101,32,116,32,40]++colL k)) rfl rfl (szL (by first|omega|(simp only[List.length_append,List.length_cons,List.length_nil];omega)) (by first|omega|(simp only[List.length_append,List.length_cons,List.length_nil];omega))) (by first|exact Z1k _ _|(rw[Z1a];done)|(rw[Z1a];rfl))) ?_);refine Jq (Z19 (u:=bl (lsA k)) rfl rfl (szL (by first|omega|(simp only[List.length_append,List.length_cons,List.length_nil];omega)) (by first|omega|(simp only[List.length_append,List.length_cons,List.length_nil];omega))) (by first|exact Z1k _ _|(rw[Z1a];done)|(rw[Z1a];rfl))) ?_;refine Jq (Z1J rfl hP1 qF qA) ?_;refine Jm rfl (Jq (Z1m rfl) (Jq (Z1l rfl) (JO.alloc ZE rfl fun b7=>(JO.m (Z2 rfl rfl qU (by exact ZQ rfl rfl) (by exact Z1z) Zk) (by rfl) ?_))));refine Ja rfl (vP [3,5,7,8] ?_);refine Jm rfl (Jq (Z19 (u:=bl ([105,110,115,101,114,116,32,105,110,116,111,32,116,32,118,97,108,117,101,115,32,40]++oneL k)) rfl rfl (szL (by first|omega|(simp only[List.length_append,List.length_cons,List.length_nil];omega)) (by first|omega|(simp only[List.length_append,List.length_cons,List.length_nil];omega))) (by first|exact Z1k _ _|(rw[Z1a];done)|(rw[Z1a];rfl))) ?_);refine Jq (Z19 (u:=bl (lsB k)) rfl rfl (szL (by first|omega|(simp only[List.length_append,List.length_cons,List.length_nil];omega)) (by first|omega|(simp only[List.length_append,List.length_cons,List.length_nil];omega))) (by first|exact Z1k _ _|(rw[Z1a];done)|(rw[Z1a];rfl))) ?_;refine Jq (Z1J rfl hP2 qF qA) ?_;refine Jm rfl (Jq (Z1m rfl) (Jq (Z1l rfl) (JO.alloc ZE rfl fun b9=>(JO.m (Z2 rfl rfl qU (by exact ZQ rfl rfl) (by exact Z1z) Zk) (by rfl) ?_))));refine Ja rfl (vP [3,5,7,8,9,10] ?_);refine Jm rfl (Jq (Z19 (u:=bl ([115,101,108,101,99,116,32]++oneL k)) rfl rfl (szL (by first|omega|(simp only[List.length_append,List.length_cons,List.length_nil];omega)) (by first|omega|(simp only[List.length_append,List.length_cons,List.length_nil];omega))) (by first|exact Z1k _ _|(rw[Z1a];done)|(rw[Z1a];rfl))) ?_);refine Jq (Z19 (u:=bl ([115,101,108,101,99,116,32]++oneL k++[32,102,114,111,109,32,116,32,111,114,100,101,114,32,98,121,32])) rfl rfl (szL (by first|omega|(simp only[List.length_append,List.length_cons,List.length_nil];omega)) (by first|omega|(simp only[List.length_append,List.length_cons,List.length_nil];omega))) (by first|exact Z1k _ _|(rw[Z1a];done)|(rw[Z1a];rfl))) ?_;refine Jm rfl (Jq (Z19 (u:=bl (lsC k)) rfl rfl (szL (by first|omega|(simp only[List.length_append,List.length_cons,List.length_nil];omega)) (by first|omega|(simp only[List.length_append,List.length_cons,List.length_nil];omega))) (by first|exact Z1k _ _|(rw[Z1a];done)|(rw[Z1a];rfl))) ?_);refine Jq (Z1J rfl hP3 qF qA) ?_;refine Jm rfl (Jq (Z1m rfl) (Jq (Z1l rfl) (JO.alloc ZE rfl fun b11=>(JO.m (Z2 rfl rfl qU (by exact ZQ rfl rfl) (by exact Z1z) Zk) (by rfl) ?_))));refine Ja rfl (vP [3,7,8,9,10,11,12] ?_);refine Jm rfl (Jq (Z42 rfl rfl) (Ja rfl (vS [3,7,8,9,10,11,12,13] ?_)));refine J.front b7 (by repeat(first|exact .here|apply Front.there)) ?_;refine J.openOwnSt fun vca vna vra via vfa vwa vga voa vsa h1ca=>?_;refine J.front b9 (by repeat(first|exact .here|apply Front.there)) ?_;refine J.openOwnSt fun vcb vnb vrb vib vfb vwb vgb vob vsb h1cb=>?_;refine J.front b11 (by repeat(first|exact .here|apply Front.there)) ?_;refine J.openOwnSt fun vcc vnc vrc vic vfc vwc vgc voc vsc h1cc=>?_;refine J.shapeE (xs:=p1.1.cols) (v:=vca) qI (fun pc ac lc cc bc oc_ hpc hvc hlc hac=>?_);refine J.shapeE (xs:=p2.1.rows) (v:=vrb) qI (fun pr ar lr cr br or_ hpr hvr hlr har=>?_);refine J.pureF (F:=CelF rwE pr) qI (fun pur=>?_);refine J.shapeE (xs:=p3.1.order) (v:=voc) qI (fun po ao lo co bo oo_ hpo hvo hlo hao=>?_);obtain⟨ar0,cr0,hr0⟩:=ZcG pur hpr;subst hvc hvr hvo;have nc:lc=p1.1.cols.length:=by rw[<-hlc,<-hpc,List.length_map]
 have nr:lr=p2.1.rows.length:=by rw[<-hlr,<-hpr,List.length_map]
 have no:lo=p3.1.order.length:=by rw[<-hlo,<-hpo,List.length_map]
 repeat apply yQ
 refine J.reg0 hmx qK qK ?_;refine yz (Z1 rfl) (yz (ZT rfl rfl) (yz (Z1 rfl) (yz (Z8d Z5E rfl rfl) (yz (Z1 rfl) (yg rfl rfl rfl (fun hg=>Z1 (.inl rfl)) (yg rfl rfl rfl (fun hg=>ZT (qR rfl) (.inl rfl)) ?_))))));refine yg rfl rfl rfl (fun hg=>Z1 (.inl rfl)) (yg rfl rfl rfl (fun hg=>Z8d Z5E (qR rfl) (qR rfl)) ?_);refine yz (Z1g rfl rfl rfl id) (yz (Z1 rfl) (yg rfl rfl rfl (fun hg=>Z1 (.inl rfl)) (yg rfl rfl rfl (fun hg=>ZT (qR rfl) (.inl rfl)) ?_)));refine yg rfl rfl rfl (fun hg=>Z1 (.inl rfl)) (yg rfl rfl rfl (fun hg=>Z8d Z5E (qR rfl) (qR rfl)) ?_);refine yz (Z1g rfl rfl rfl id) (yz (Z1 rfl) (yg rfl rfl rfl (fun hg=>Z1 (.inl rfl)) (yg rfl rfl rfl (fun hg=>Z1 (qR rfl)) ?_)));refine RT.gg rfl rfl rfl (fun hg=>(Z0 Z6t (.inl rfl))) ?_;refine RT.gg rfl rfl rfl (fun hg=>(Z5 Z7A (qR rfl) rfl)) ?_;refine RT.gg rfl rfl rfl (fun hg=>(ZS Z4t (qR rfl))) ?_;refine RT.gg rfl rfl rfl (fun hg=>(Z1 (.inl rfl))) ?_;refine RT.gg rfl rfl rfl (fun hg=>(Z2O (qR rfl) (qR rfl))) ?_;refine RT.gg rfl rfl rfl (fun hg=>(Z1 (qR rfl))) ?_;refine RT.gg rfl rfl rfl (fun hg=>(Z0 Z2u (.inl rfl))) ?_;refine RT.gg rfl rfl rfl (fun hg=>(Z5 Z2Y (qR rfl) rfl)) ?_;refine RT.gg rfl rfl rfl (fun hg=>(Zq Z2Z (qR rfl) (har (by first|omega|(simp at hg;omega))) (.inl rfl) qM (by first|omega|(simp at hg;omega)))) ?_;refine RT.gg rfl rfl rfl (fun hg=>(Z1h (sz:=1) (i:=0) (j:=0) (enc:=@Cel.cs _ rwE) (y:=pr[0]'(by first|omega|(simp at hg;omega))) (u:=.slice ar0 (p2.1.rows.headD []).length cr0) ZW (qR rfl) qI (har (by first|omega|(simp at hg;omega))) (List.getElem?_eq_getElem _) rfl (by rw[hr0];rfl))) ?_;refine RT.gg rfl rfl rfl (fun hg=>(ZS ZY (qR rfl))) ?_;refine RT.gg rfl rfl rfl (fun hg=>(Z1 (.inl rfl))) ?_;refine RT.gg rfl rfl rfl (fun hg=>(Z2O (qR rfl) (qR rfl))) ?_;refine RT.gg rfl rfl rfl (fun hg=>(Z1g (qR rfl) (.inl rfl) (.inl rfl) (fun h=>⟨hg,h⟩))) ?_;refine RT.gg rfl rfl rfl (fun hg=>(Z1 (qR rfl))) ?_;refine RT.gg rfl rfl rfl (fun hg=>(Z0 Z3K (.inl rfl))) ?_;refine RT.gg rfl rfl rfl (fun hg=>(Z5 Z6u (qR rfl) rfl)) ?_;refine RT.gg rfl rfl rfl (fun hg=>(ZS Z44 (qR rfl))) ?_;refine RT.gg rfl rfl rfl (fun hg=>(Z1 (.inl rfl))) ?_;refine RT.gg rfl rfl rfl (fun hg=>(Z2O (qR rfl) (qR rfl))) ?_;refine RT.gg rfl rfl rfl (fun hg=>(Z1g (qR rfl) (.inl rfl) (.inl rfl) (fun h=>⟨hg,h⟩))) ?_;refine yg rfl rfl rfl (fun hg=>Zz (qR rfl) (.inl rfl) (.inl rfl) (fun h=>⟨hg,h⟩)) ?_;refine yz (Z1g rfl rfl rfl id) ?_;apply yn;refine FinS.nil0 ?_;refine vS [3,109] ?_;refine yC rfl (fun ht109=>?_) (fun ht109=>?_)
 try simp only[yd,yf]at ht109
 refine vQ ?_;refine Ja rfl (vS [2] ?_);refine vR ?_;exact JX.ret1is rfl rfl (by exact absurd ht109 (by rw[Ze7 eA eB eC (fun h=>nc.trans (nA h)) (fun h=>(nB h).2) (fun h=>no.trans (nC h))];decide))
 try simp only[yd,yf]at ht109
 apply yK;refine vN ?_;apply yN;refine Ja rfl (vP [3,14] ?_);refine Ja rfl (vS [3,14,15] ?_);apply yk
 repeat apply yQ
 refine J.loopF (α:=Nat) (fun i=>[(3,.is (.int .i64 (k:Nat))),(14,.is (.string (bl (rowL i)))),(15,.is (.int .i64 ((i+1:Nat):Int)))]) (fun i=>i<=k+16) (fun i=>k+16-i) 0 [3,14,15] (.cons rfl (.cons rfl (.cons rfl .nil))) (Nat.zero_le _) fun i hi=>?_;refine vQ ?_;refine Jm rfl (Jm rfl (Jq (ZB (cc:=((k+17:Nat):Int)) rfl rfl qM qM qM) ?_));refine Jq (Z1o rfl rfl) (vS [3,14,15,113] ?_);refine yC rfl (fun ht113=>?_) (fun ht113=>?_)
 try simp only[yd,yf]at ht113
 apply yK;refine vN ?_;apply yk;have hrli:=Z6g i;refine vQ ?_;refine Jm rfl (Jq (Z19 (u:=bl (rowL (i+1))) rfl rfl (szL (by first|omega|(simp only[List.length_append,List.length_cons,List.length_nil];omega)) (by first|omega|(simp only[List.length_append,List.length_cons,List.length_nil];omega))) (by exact Z1k _ _)) ?_);refine Ja rfl (vP [3,14,15] ?_);refine Jm rfl (Jq (ZB (cc:=((i+1+1:Nat):Int)) rfl rfl qM qM qM) ?_);refine Ja rfl ?_;apply yI
 repeat refine JX.normal_block ?_
 refine JX.roundS (i+1) ?_ ?_ [3,14,15] ?_ ?_ ?_
 · exact qM
 · exact qM
 · exact qS
 · exact qB
 · exact qB
 try simp only[yd,yf]at ht113
 repeat apply yQ
 refine J.exit ?_
 repeat first|refine yH ?_|refine yM rfl ?_|refine yE ?_
 repeat first|apply yX|apply yB
 have hik:i=k+16:=by omega
 subst hik;have hrlk:=Z6g (k+16);refine vQ ?_;refine Jm rfl (Jq (Z19 (u:=bl (lsD k)) rfl rfl (szL (by first|omega|(simp only[List.length_append,List.length_cons,List.length_nil];omega)) (by first|omega|(simp only[List.length_append,List.length_cons,List.length_nil];omega))) (by first|exact Z1k _ _|(rw[Z1a];done)|(rw[Z1a];rfl))) ?_);refine Jq (Z1J rfl hP4 qF qA) ?_;refine Jm rfl (Jq (Z1m rfl) (Jq (Z1l rfl) (JO.alloc ZE rfl fun b16=>(JO.m (Z2 rfl rfl qU (by exact ZQ rfl rfl) (by exact Z1z) Zk) (by rfl) ?_))));refine Ja rfl (vP [3,16,17] ?_);refine Ja rfl (vP [3,16,17,18] ?_);refine Ja rfl (vS [3,16,17,18,19] ?_);apply yk
 repeat apply yQ
 refine J.loopF (α:=Nat) (fun i=>[(3,.is (.int .i64 (k:Nat))),(16,.is (.pointer (some ⟨b16,0,none⟩))),(17,.is (.int .i64 p4.2)),(18,.is (.string (bl (jnL i)))),(19,.is (.int .i64 (i:Nat)))]) (fun i=>i<=k-12) (fun i=>k-12-i) 0 [3,16,17,18,19] (.cons rfl (.cons rfl (.cons rfl (.cons rfl (.cons rfl .nil))))) (Nat.zero_le _) fun i hi=>?_;refine vQ ?_;refine Jm rfl (Jm rfl (Jq (Z5J (cc:=((k-12:Nat):Int)) rfl rfl qM qM qM) ?_));refine Jq (Z1o rfl rfl) (vS [3,16,17,18,19,127] ?_);refine yC rfl (fun ht127=>?_) (fun ht127=>?_)
 try simp only[yd,yf]at ht127
 apply yK;refine vN ?_;apply yk;have hjli:=Z7a i;refine vQ ?_;refine Jm rfl (Jq (Z19 (u:=bl (jnL (i+1))) rfl rfl (szL (by first|omega|(simp only[List.length_append,List.length_cons,List.length_nil];omega)) (by first|omega|(simp only[List.length_append,List.length_cons,List.length_nil];omega))) (by exact Z1k _ _)) ?_);refine Ja rfl (vP [3,16,17,18,19] ?_);refine Jm rfl (Jq (ZB (cc:=((i+1:Nat):Int)) rfl rfl qM qM qM) ?_);refine Ja rfl ?_;apply yI
 repeat refine JX.normal_block ?_
 refine JX.roundS (i+1) ?_ ?_ [3,16,17,18,19] ?_ ?_ ?_
 · exact qM
 · exact qM
 · exact qS
 · exact qB
 · exact qB
 try simp only[yd,yf]at ht127
 repeat apply yQ
 refine J.exit ?_
 repeat first|refine yH ?_|refine yM rfl ?_|refine yE ?_
 repeat first|apply yX|apply yB
 have hik:i=k-12:=by omega
 subst hik;have hjlk:=Z7a (k-12);refine vQ ?_;refine Jm rfl (Jq (Z19 (u:=bl (lsX k)) rfl rfl (szL (by first|omega|(simp only[List.length_append,List.length_cons,List.length_nil];omega)) (by first|omega|(simp only[List.length_append,List.length_cons,List.length_nil];omega))) (by first|exact Z1k _ _|(rw[Z1a];done)|(rw[Z1a];rfl))) ?_);refine Jq (Z1J rfl hP5 qF qA) ?_;refine Jm rfl (Jq (Z1m rfl) (Jq (Z1l rfl) (JO.alloc ZE rfl fun b20=>(JO.m (Z2 rfl rfl qU (by exact ZQ rfl rfl) (by exact Z1z) Zk) (by rfl) ?_))));refine Ja rfl (vS [3,16,17,20,21] ?_);refine J.front b16 (by repeat(first|exact .here|apply Front.there)) ?_;refine J.openOwnSt fun vcd vnd vrd vid vfd vwd vgd vod vsd h1cd=>?_;refine J.front b20 (by repeat(first|exact .here|apply Front.there)) ?_;refine J.openOwnSt fun vce vne vre vie vfe vwe vge voe vse h1ce=>?_;refine J.shapeE (xs:=p4.1.rows) (v:=vrd) qI (fun pq aq lq cq bq oq_ hpq hvq hlq haq=>?_);refine J.shapeE (xs:=p5.1.from_) (v:=vfe) qI (fun pf af lf cf bf of_ hpf hvf hlf haf=>?_);subst hvq hvf;have nq:lq=p4.1.rows.length:=by rw[<-hlq,<-hpq,List.length_map]
 have nf:lf=p5.1.from_.length:=by rw[<-hlf,<-hpf,List.length_map]
 repeat apply yQ
 refine J.reg0 hmx qK qK ?_;refine yz (Z1 rfl) (yz (ZT rfl rfl) (yz (Z1 rfl) (yz (ZB (cc:=((k+17:Nat):Int)) rfl rfl qM qM qM) ?_)));refine yz (Z42 rfl rfl) (yz (ZaA Z5E rfl rfl) (yz (Z1 rfl) (yg rfl rfl rfl (fun hg=>Z1 (.inl rfl)) (yg rfl rfl rfl (fun hg=>Z2O (qR rfl) (.inl rfl)) ?_))));refine yg rfl rfl rfl (fun hg=>Z1 (qR rfl)) ?_;refine RT.gg rfl rfl rfl (fun hg=>(Z0 Z2u (.inl rfl))) ?_;refine RT.gg rfl rfl rfl (fun hg=>(Z5 Z2Y (qR rfl) rfl)) ?_;refine RT.gg rfl rfl rfl (fun hg=>(ZS Z2a (qR rfl))) ?_;refine RT.gg rfl rfl rfl (fun hg=>(Z1 (.inl rfl))) ?_;refine RT.gg rfl rfl rfl (fun hg=>(ZB (cc:=((k+17:Nat):Int)) (qR rfl) (.inl rfl) qM qM qM)) ?_;refine RT.gg rfl rfl rfl (fun hg=>(ZT (qR rfl) (qR rfl))) ?_;refine yg rfl rfl rfl (fun hg=>Z1g (qR rfl) (.inl rfl) (.inl rfl) (fun h=>⟨hg,h⟩)) ?_;refine yz (Zz rfl rfl rfl id) (yz (Z1 rfl) (yg rfl rfl rfl (fun hg=>Z1 (.inl rfl)) (yg rfl rfl rfl (fun hg=>ZT (qR rfl) (.inl rfl)) ?_)));refine yg rfl rfl rfl (fun hg=>Z1 (.inl rfl)) (yg rfl rfl rfl (fun hg=>Z5J (cc:=((k-12:Nat):Int)) (qR rfl) (.inl rfl) qM qM qM) ?_);refine yg rfl rfl rfl (fun hg=>Z42 (qR rfl) (.inl rfl)) ?_;refine yg rfl rfl rfl (fun hg=>ZaA Z5E (qR rfl) (qR rfl)) ?_;refine yz (Zz rfl rfl rfl id) (yz (Z1 rfl) (yg rfl rfl rfl (fun hg=>Z1 (.inl rfl)) (yg rfl rfl rfl (fun hg=>Z2O (qR rfl) (.inl rfl)) ?_)));refine yg rfl rfl rfl (fun hg=>Z1 (qR rfl)) ?_;refine RT.gg rfl rfl rfl (fun hg=>(Z0 Z1Z (.inl rfl))) ?_;refine RT.gg rfl rfl rfl (fun hg=>(Z5 Z2n (qR rfl) rfl)) ?_;refine RT.gg rfl rfl rfl (fun hg=>(ZS Z2j (qR rfl))) ?_;refine RT.gg rfl rfl rfl (fun hg=>(Z1 (.inl rfl))) ?_;refine RT.gg rfl rfl rfl (fun hg=>(Z5J (cc:=((k-11:Nat):Int)) (qR rfl) (.inl rfl) qM qM qM)) ?_;refine RT.gg rfl rfl rfl (fun hg=>(ZT (qR rfl) (qR rfl))) ?_;refine yg rfl rfl rfl (fun hg=>Z1g (qR rfl) (.inl rfl) (.inl rfl) (fun h=>⟨hg,h⟩)) ?_;refine yz (Zz rfl rfl rfl id) (yz (Z2i rfl) ?_);apply yn;refine FinS.nil0 ?_;refine vS [2] ?_;refine vR ?_;exact JX.ret1is rfl rfl (by exact congrArg Value.bool (Zed hk14.1 eD (fun h=>nq.trans (nD h)) eX (fun h=>by rw[nf];exact nX h)))
end Go.Proofs.YtbedigkncjbggaaDoor
set_option maxRecDepth 100000
namespace Go.Proofs.YtbedigkncjbggaaDoor
open Go Go.Vc Go.Shelf Go.ChangeShapes Go.WideShapes Go.ChangeAt Go.RowKit
theorem own:ownKnob Tryd.prog.godebug=none:=by kernel_rfl
theorem laidOut:laidOutB Tryd.prog=true:=by kernel_rfl
def litCells:DataW Unit->Array Value
 | .agg l=>(l.map fun| .lit (.int k z)=>Value.int k z|_=>undef).toArray
 |_=> #[]
def accCells:Array Value:=((List.range 16).flatMap fun i=>[Value.int .u8 (Lib.accLo i),Value.int .u8 (Lib.accHi i)]).toArray
def wsCells:Array Value:=([9,13,1,32,133,101,160,5760,5600,8192,8202,1,8232,8233,1,8239,8287,48,12288,12288,1].map fun z=>Value.int .u16 z).toArray
noncomputable def laidWorld(os:Os):World:=
 let N:=(World.settled Tryd.prog os).heap.size
 let w0:=World.holding Tryd.prog os ⟨#[.cells Lib.caseCells5 (Z35.t 208),.cells #[.slice (some ⟨N+2,0,none⟩) 7 7,.slice none 0 0,.int .i64 2] 149,.cells wsCells 152],#[],[]⟩
 let put (h:Array Obj) (g:Nat) (cs:Array Value):Array Obj:=h.modify g fun
  | .cells _ t frozen=>.cells cs t frozen
  |o=>o
 let h0:=put w0.heap 0 (litCells Rows.laid_strings_asciiSpace)
 let h3:=put h0 3 #[.slice (some ⟨N,0,none⟩) 336 336]
 let h4:=put h3 2 #[.pointer (some ⟨N+1,0,none⟩)]
 let h5:=put h4 4 (Lib.firstTab.map fun z=>Value.int .u8 z).toArray
 let h6:=put h5 5 accCells
 {w0 with heap:=h6}
noncomputable abbrev N0:Nat:=(World.settled Tryd.prog default).heap.size
noncomputable abbrev LW(os:Os)(args:Array Value):World:=((laidWorld os).forCall (fun _ _=>0) ⟨#[],args,[]⟩).memory
theorem Zbf(os:Os)(args:Array Value):LaidIn Tryd.prog (LW os args) [("unicode/utf8.acceptRanges",Rows.laid_unicode_utf8_acceptRanges)] [5]:=
 LaidIn.of_run [5] 8 qK qK qK qK
theorem Zaf(os:Os)(args:Array Value):LaidIn Tryd.prog (LW os args) [("unicode/utf8.first",Rows.laid_unicode_utf8_first)] [4]:=
 LaidIn.of_run [4] 8 qK qK qK qK
theorem Zai{P:Program}{ρ:Ren}(L:Lays.n274 P ρ)(t206:P.underlying (ρ.t 206)=some (.array 3 (ρ.t 21)))(X:CaseExtra P ρ){w:World}(R:Nat)(t:TypeId)(hgR:ρ.g 13≠R)
   (hvar:w.heap[ρ.g 13]? =some (.cells #[.slice (some ⟨R,0,none⟩) Lib.caseA.size Lib.caseA.size] (ρ.t 162) (0,0)))
   (hblk:w.heap[R]? =some (.cells Lib.caseCells5 t (0,0))):LaidIn P w [("unicode.CaseRanges",Lib.caseData)] [ρ.g 13,R]:=by
 have hT:=caseTab_of_block hblk;have hread:=case_slice_reads L t206 X hT caseA_wf (by rw[Lib.caseA_size];unfold maxLen;omega) 0;rw[case_rows_data]at hread;have hv:w.var? P "unicode.CaseRanges"=some #[.slice (some ⟨R,0,none⟩) Lib.caseA.size Lib.caseA.size]:=by simp[World.var?,X.n13,hvar]
 refine LaidIn.one (cs:= #[.slice (some ⟨R,0,none⟩) Lib.caseA.size Lib.caseA.size]) [ρ.g 13,R] X.n13 X.y13 hv hread ?_ ?_ ?_
 · refine List.nodup_append.2 ⟨row_nodup _ _,row_nodup _ _,?_⟩
   intro a ha b hb e;obtain⟨i,_,rfl⟩:=MemPlace.mem_row.1 ha;obtain⟨j,_,rfl⟩:=MemPlace.mem_row.1 hb
   simp at e
   exact hgR e.1
 · intro b off hp
   rcases List.mem_append.1 hp with hp|hp
   · obtain⟨i,hi,e⟩:=MemPlace.mem_row.1 hp
     cases e;refine⟨⟨_,_,hvar⟩,fun u v hc=>?_⟩;obtain rfl:i=0:=by simp at hi;omega
     rw[Lib.cell_of_heap hvar]at hc
     simp at hc
   · obtain⟨i,hi,e⟩:=MemPlace.mem_row.1 hp
     cases e;refine⟨⟨_,_,hblk⟩,fun u v hc=>?_⟩;obtain⟨c0,c1,c2,c3,c4⟩:=hT (i / 5) qM;have hi5:0+i=0+i / 5*5+i % 5:=by omega
     simp only at hc;rw[hi5]at hc;have hm:i % 5<5:=Nat.mod_lt _ qM
     match hk:i % 5,hm with
     |0,_=>rw[hk,Nat.add_zero,c0]at hc;cases hc
     |1,_=>rw[hk,c1]at hc;cases hc
     |2,_=>rw[hk,c2]at hc;cases hc
     |3,_=>rw[hk,c3]at hc;cases hc
     |4,_=>rw[hk,c4]at hc;cases hc
 · intro x hx
   rcases List.mem_append.1 hx with hx|hx
   · obtain⟨i,_,rfl⟩:=MemPlace.mem_row.1 hx
     exact List.mem_cons_self
   · obtain⟨i,_,rfl⟩:=MemPlace.mem_row.1 hx
     exact List.mem_cons_of_mem _ List.mem_cons_self
theorem caseX:CaseExtra Tryd.prog Z35:=⟨by kernel_rfl,by kernel_rfl,by kernel_rfl,by kernel_rfl,by kernel_rfl,by kernel_rfl⟩
theorem ZaM(os:Os)(args:Array Value):LaidIn Tryd.prog (LW os args) [("unicode.CaseRanges",Rows.laid_unicode_CaseRanges)] [3,N0]:=by
 show LaidIn Tryd.prog (LW os args) [("unicode.CaseRanges",Go.Pinned.caseRanges)] [3,N0];rw[Pinned.caseRanges_eq];exact Zai {lays158 with} lays158.t206 caseX N0 (Z35.t 208) (of_decide_eq_true qK) qK qK
theorem ZcA(os:Os)(args:Array Value):LaidIn Tryd.prog (LW os args) [("unicode.White_Space",Rows.laid_unicode_White_Space)] [2,N0+1,N0+2]:=
 LaidIn.of_run [2,N0+1,N0+2] 8 qK qK qK qK
theorem Zb9(os:Os)(args:Array Value):LaidIn Tryd.prog (LW os args) [("strings.asciiSpace",Rows.laid_strings_asciiSpace)] [0]:=
 LaidIn.of_run [0] 8 qK qK qK qK
theorem Zbd(os:Os)(args:Array Value):laidMet Tryd.prog Rows.parseListsRow.laid (LW os args):=
 (((((Zbf os args).append (ZcA os args) qK).append (Zb9 os args) qK).append (ZaM os args) qK).append (Zaf os args) qK).met
end Go.Proofs.YtbedigkncjbggaaDoor
set_option maxRecDepth 100000
namespace Go.Proofs.YtbedigkncjbggaaDoor
open Go Go.Vc Go.ChangeShapes Go.WideShapes Go.ChangeAt Go.RowKit
theorem ZbG{W:World}(h:W.ShapedOpen Tryd.prog):GF W:=
 cell_of_shapedOpen_int (zero:= #[.int .i64 0]) (t:=3) h (of_decide_eq_true qK) qK rfl qK qK Tryd.underlying3
theorem ZbQ{W:World}{a:Addr}{v:Value}(h:W.cell? a=some v): ∀w',Keeps noX W w'->w'.cell? a=some v:=fun w' hk=>by
 unfold World.cell? at h ⊢;cases hb:W.heap[a.block]? with
 |none=>rw[hb]at h;simp at h
 |some o=>
   rw[hk.get hb (fun h=>h)];rw[hb]at h;exact h
theorem Zdh{W:World}(h:GF W):Pers noX W GF:=fun w' hk=>by
 obtain⟨m,hm⟩:=h;exact⟨m,ZbQ hm w' hk⟩
theorem Zcb:Tryd.prog.readableRec Z2k=true/\Z2k<Tryd.prog.types.size:=⟨by kernel_rfl,of_decide_eq_true qK⟩
theorem ZcY{W:World}(h:laidMetH Tryd.prog Rows.parseListsRow.laid W):AF W:=by
 have h1:laidMet Tryd.prog Rows.parseListsRow.laid W:=h;exact Lib.tabIs_of_head (t:=120) (e:=5) (n:=256) (by kernel_rfl:Tryd.prog.globalNamed "strings.asciiSpace"=some 0) qK qK qK qK qK (laidMet.tail (laidMet.tail h1))
theorem Zdt{W:World}(h:AF W):Pers noX W AF:=fun w' hk=>
 Joins.tab_stays (by kernel_rfl:Tryd.prog.globalNamed "strings.asciiSpace"=some 0) h hk.below (Nat.le_refl _)
end Go.Proofs.YtbedigkncjbggaaDoor
set_option maxRecDepth 100000
namespace Go.Proofs.YtbedigkncjbggaaDoor
open Go Go.Vc Go.ChangeShapes Go.WideShapes Go.ChangeAt Go.RowKit
open Go.ChangeMaps (open_string)
theorem Z7X(os:Os)(args:Array Value):laidMet Tryd.prog Rows.parseListsRow.laid (LW os args):=Zbd os args
theorem Z6N(os:Os){H:Type}(enc:TypeId×Value->H):
  (OpenSpec.ofChange Rows.parseListsSpec).preRow enc Tryd.prog Tryd.f3 Rows.parseListsRow.domain false Rows.parseListsRow.laid (LW os #[.int .u8 0]) #[.int .u8 0]:=by
 have hw:(DataW.whole enc Tryd.prog (LW os #[.int .u8 0]) Tryd.f3.params.toList Rows.parseListsSpec.vars false (#[.int .u8 0]:Array Value).toList 8).map (fun x=>(x.1,x.2.1))=some ([.lit (.int .u8 0)],[]):=by kernel_rfl
 obtain⟨⟨x1,x2,x3⟩,hx,hx1⟩:=Option.map_eq_some_iff.1 hw;simp only[Prod.mk.injEq]at hx1;obtain⟨rfl,rfl⟩:=hx1;exact OpenSpec.preRow_of_cond 8 hx qK (fun k hk=>by cases hk) qK (Z7X os _)
set_option maxHeartbeats 2000000 in
theorem Z7d(os:Os)(started:os.Started)(H:Type)(enc:TypeId×Value->H)(F:Stop.Interp):
   ReturnsInHanded {} Tryd.checked os 3 .any ((OpenSpec.ofChange Rows.parseListsSpec).preRow enc Tryd.prog Tryd.f3 Rows.parseListsRow.domain false Rows.parseListsRow.laid) (((OpenSpec.ofChange Rows.parseListsSpec).at F).post enc Tryd.prog Tryd.f3 false true false false):=by
 refine returnsInHanded_of_row (C:=Tryd.checked) (s:=OpenSpec.ofChange Rows.parseListsSpec) own started qK Tryd.func3
   (witness_row_atRef (enc:=enc) (C:=Tryd.checked) false (laidWorld os) #[.int .u8 0] rfl qK qK qK (Z6N os enc)) ?_
 intro W base args ds gs before hval0 hW _ _ hsz0 hL hsh _;have hW':=hW;obtain⟨p,q,hA0,hV,rfl,hfz,hnd⟩:=hW;have hA:DataW.TrodAll enc Tryd.prog W 0 (fun _=>true) true [Z2k] args.toList ds p:=hA0;have hgf:=Zdh (ZbG hsh);have haf:=Zdt (ZcY hL);obtain⟨v0,d0,rfl,rfl,h0⟩:=trodAll_one hA;obtain⟨rfl,rfl⟩:=trodVars_none hV;obtain⟨n,rfl,rfl,rfl,w0⟩:=open_int Z4v (hval0 0 Z2k v0 rfl rfl) h0;have hn:=Ze9 w0;refine((Z6U n hn).calls noX W [.int .u8 n] (fun _ h=>h.elim) (fun F hF=>by rcases yc.1 hF with rfl|hF;exact fun w' _=>Nat.zero_le _;rcases yc.1 hF with rfl|hF;exact hgf;rcases yc.1 hF with rfl|hF;exact haf;cases hF) ⟨rfl,trivial⟩).mono fun e W' ⟨v,he,hk,hR⟩=>?_;subst he;have hR':v= .bool true:=hR;subst hR';exact⟨_,rfl,Zbp (f:=Tryd.f3) (s:=Rows.parseListsSpec) (tB:=Zd1) laidOut (mem1 Zcb) qK qK rfl rfl rfl rfl hW' hk⟩
theorem Z84:Rows.ParseListsSaid:=
 OpenClaim.holds_of_cond 3 Tryd.f3 rfl rfl rfl rfl rfl rfl rfl ⟨rfl,rfl,rfl,rfl,rfl⟩ rfl rfl rfl rfl rfl qK Tryd.func3 qK
  (of_decide_eq_true qK) (by unfold Func.isWrapper;first|(rw[if_pos (by decide+kernel)];kernel_rfl)|(rw[if_neg (by decide+kernel)];exact⟨rfl,rfl⟩))
  (fun os started H enc _ F=>by rw[OpenClaim.pre_eq_preRow];exact Z7d os started H enc F)
theorem Z7y(f:FuncId)(fn:Func)(hf:Tryd.pinned.checked.prog.funcNamed "cadastre/cadastrelaw10.ParseLists"=some f)(hfn:Tryd.pinned.checked.prog.funcs[f]? =some fn):
  true=Tryd.pinned.checked.prog.looks []/\ ∀(j:Nat) t,fn.params[j]? =some t->Tryd.pinned.checked.prog.wantsStandIn t=false:=by
 obtain rfl:f=3:=Option.some.inj ((show Tryd.prog.funcNamed "cadastre/cadastrelaw10.ParseLists"=some 3 by kernel_rfl).symm.trans hf)|>.symm
 obtain rfl:fn=Tryd.f3:=(Option.some.inj (Tryd.func3.symm.trans hfn)).symm;refine⟨by kernel_rfl,fun j t ht=>?_⟩;have hp:Tryd.f3.params= #[Z2k]:=by kernel_rfl
 rw[hp]at ht;obtain rfl:t=Z2k:=by simpa using Array.mem_of_getElem? ht
 exact(show Tryd.prog.wantsStandIn Z2k=false by kernel_rfl)
theorem parseLists_card : Rows.ParseListsCardSaid :=
 Claim7.holds_tied_plain_at .later [] _ _ _ _ Z84 (fun _ h => by cases h) qK (fun _ h => by cases h) parseLists_row_tie rfl ⟨rfl, rfl⟩ qK rfl Z7y qK
#print axioms parseLists_card
end Go.Proofs.YtbedigkncjbggaaDoor
