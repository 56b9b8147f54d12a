/- A statement is the same as itself. No condition. -/
import Derived.Test.YtbedigkncjbggaaGreatDoorXQ11
import Derived.Test.YtbedigkncjbggaaGreatDoorXQ2
import Derived.Test.YtbedigkncjbggaaGreatDoorXG3
set_option maxRecDepth 20000
namespace Go.Proofs.YtbedigkncjbggaaGreatDoor
open Go Go.Vc
open Go.Pz
set_option maxHeartbeats 4000000 in
theorem Z4x (N N2 : Nat) (S0 : Pz.St) (hsm : SmS S0) (hec : ∀ x ∈ exsOf S0, ect x ≤ 4096) : CallTy Tryz.prog Zch [.rep (StR N S0), .rep (StR N2 S0)] (.is (.bool true)) :=
  CallTy.of (fn := Tryz.f15) Tryz.func15 (n := 120) rfl rfl rfl (fun _ _ => by kernel_rfl) fun E W => by
  refine J.openSt (s := 0) rfl (fun vc vn vr vi vf vw vg vo vs => ?_)
  refine J.shapeE (xs := S0.cols) (v := vc) (by repeat first | exact Mh | apply Mt) (fun pc ac lc cc bc oc hpc hvc hlc hac => ?_)
  refine J.shapeE (xs := S0.names) (v := vn) (by repeat first | exact Mh | apply Mt) (fun pn an ln cn bn on hpn hvn hln han => ?_)
  refine J.shapeE (xs := S0.rows) (v := vr) (by repeat first | exact Mh | apply Mt) (fun pr ar lr cr br or_ hpr hvr hlr har => ?_)
  refine J.shapeE (xs := S0.items) (v := vi) (by repeat first | exact Mh | apply Mt) (fun pi ai li ci bi oi hpi hvi hli hai => ?_)
  refine J.shapeE (xs := S0.from_) (v := vf) (by repeat first | exact Mh | apply Mt) (fun pf af lf cf bf of_ hpf hvf hlf haf => ?_)
  refine J.shapeE (xs := S0.order) (v := vo) (by repeat first | exact Mh | apply Mt) (fun po ao lo co bo oo hpo hvo hlo hao => ?_)
  refine J.shapeE (xs := S0.where_) (v := vw) (by repeat first | exact Mh | apply Mt) (fun pw aw lw cw bw ow hpw hvw hlw haw => ?_)
  refine J.shapeX (xs := S0.group) (v := vg) (by repeat first | exact Mh | apply Mt) (fun pg ag lg cg bg og hpg hvg hlg hag => ?_)
  refine J.shapeX (xs := S0.sets) (v := vs) (by repeat first | exact Mh | apply Mt) (fun px ax lx cx bx ox hpx hvx hlx hax => ?_)
  subst hvc hvn hvr hvi hvf hvo hvw hvg hvx
  have nc : lc = S0.cols.length := by rw [← hlc, ← hpc, List.length_map]
  have nn : ln = S0.names.length := by rw [← hln, ← hpn, List.length_map]
  have nr : lr = S0.rows.length := by rw [← hlr, ← hpr, List.length_map]
  have ni : li = S0.items.length := by rw [← hli, ← hpi, List.length_map]
  have nf : lf = S0.from_.length := by rw [← hlf, ← hpf, List.length_map]
  have no : lo = S0.order.length := by rw [← hlo, ← hpo, List.length_map]
  have nw : lw = S0.where_.length := by rw [← hlw, ← hpw, List.length_map]
  have ng : lg = S0.group.length := by rw [← hlg, ← hpg, List.length_map]
  refine J.openSt (s := 1) rfl (fun vcz vnz vrz viz vfz vwz vgz voz vsz => ?_)
  refine J.shapeE (xs := S0.cols) (v := vcz) (by repeat first | exact Mh | apply Mt) (fun pcz acz lcz ccz bcz ocz hpcz hvcz hlcz hacz => ?_)
  refine J.shapeE (xs := S0.names) (v := vnz) (by repeat first | exact Mh | apply Mt) (fun pnz anz lnz cnz bnz onz hpnz hvnz hlnz hanz => ?_)
  refine J.shapeE (xs := S0.rows) (v := vrz) (by repeat first | exact Mh | apply Mt) (fun prz arz lrz crz brz orz_ hprz hvrz hlrz harz => ?_)
  refine J.shapeE (xs := S0.items) (v := viz) (by repeat first | exact Mh | apply Mt) (fun piz aiz liz ciz biz oiz hpiz hviz hliz haiz => ?_)
  refine J.shapeE (xs := S0.from_) (v := vfz) (by repeat first | exact Mh | apply Mt) (fun pfz afz lfz cfz bfz ofz_ hpfz hvfz hlfz hafz => ?_)
  refine J.shapeE (xs := S0.order) (v := voz) (by repeat first | exact Mh | apply Mt) (fun poz aoz loz coz boz ooz hpoz hvoz hloz haoz => ?_)
  refine J.shapeE (xs := S0.where_) (v := vwz) (by repeat first | exact Mh | apply Mt) (fun pwz awz lwz cwz bwz owz hpwz hvwz hlwz hawz => ?_)
  refine J.shapeX (xs := S0.group) (v := vgz) (by repeat first | exact Mh | apply Mt) (fun pgz agz lgz cgz bgz ogz hpgz hvgz hlgz hagz => ?_)
  refine J.shapeX (xs := S0.sets) (v := vsz) (by repeat first | exact Mh | apply Mt) (fun pxz axz lxz cxz bxz oxz hpxz hvxz hlxz haxz => ?_)
  subst hvcz hvnz hvrz hviz hvfz hvoz hvwz hvgz hvxz
  have ncz : lcz = S0.cols.length := by rw [← hlcz, ← hpcz, List.length_map]
  have nnz : lnz = S0.names.length := by rw [← hlnz, ← hpnz, List.length_map]
  have nrz : lrz = S0.rows.length := by rw [← hlrz, ← hprz, List.length_map]
  have niz : liz = S0.items.length := by rw [← hliz, ← hpiz, List.length_map]
  have nfz : lfz = S0.from_.length := by rw [← hlfz, ← hpfz, List.length_map]
  have noz : loz = S0.order.length := by rw [← hloz, ← hpoz, List.length_map]
  have nwz : lwz = S0.where_.length := by rw [← hlwz, ← hpwz, List.length_map]
  have ngz : lgz = S0.group.length := by rw [← hlgz, ← hpgz, List.length_map]
  repeat apply Sq
  apply Pn
  refine JO.box rfl rfl fun b2 => ?_
  refine JO.box rfl rfl fun b3 => ?_
  refine Jt (Z2 rfl) rfl ?_
  apply Ni
  repeat first | apply Nx | apply Nb
  refine Sl [2, 3] (.cons rfl (.cons rfl .nil)) ?_
  repeat apply Sq
  refine J.reg0 hmx (by kernel_rfl) (by kernel_rfl) ?_
  refine Rq (Z1 Z44 rfl) ?_
  refine Rq (Z4 ZA rfl rfl) ?_
  refine Rq (Z1 Z44 rfl) ?_
  refine Rq (Z4 ZA rfl rfl) ?_
  refine Rq (Z1J rfl rfl) ?_
  refine Rq (Z0 rfl) ?_
  refine Rg rfl rfl rfl (fun hg => Z1 Z42 (.inl rfl)) ?_
  refine Rg rfl rfl rfl (fun hg => Z4 Zu (.inr ⟨_, rfl, id⟩) rfl) ?_
  refine Rg rfl rfl rfl (fun hg => Z1 Z42 (.inl rfl)) ?_
  refine Rg rfl rfl rfl (fun hg => Z4 Zu (.inr ⟨_, rfl, id⟩) rfl) ?_
  refine Rg rfl rfl rfl (fun hg => Z3J (.inr ⟨_, rfl, id⟩) (.inr ⟨_, rfl, id⟩)) ?_
  refine Rq (ZM rfl rfl rfl id) ?_
  refine Rq (Z0 rfl) ?_
  refine Rg rfl rfl rfl (fun hg => Z1 Z5p (.inl rfl)) ?_
  refine Rg rfl rfl rfl (fun hg => Z4 Zu (.inr ⟨_, rfl, id⟩) rfl) ?_
  refine Rg rfl rfl rfl (fun hg => Z1 Z5p (.inl rfl)) ?_
  refine Rg rfl rfl rfl (fun hg => Z4 Zu (.inr ⟨_, rfl, id⟩) rfl) ?_
  refine Rg rfl rfl rfl (fun hg => Z3J (.inr ⟨_, rfl, id⟩) (.inr ⟨_, rfl, id⟩)) ?_
  refine Rq (ZM rfl rfl rfl id) ?_
  refine Rq (Z0 rfl) ?_
  refine Rg rfl rfl rfl (fun hg => Z1 Z2b (.inl rfl)) ?_
  refine Rg rfl rfl rfl (fun hg => Z4 ZA (.inr ⟨_, rfl, id⟩) rfl) ?_
  refine Rg rfl rfl rfl (fun hg => Z1 Z2b (.inl rfl)) ?_
  refine Rg rfl rfl rfl (fun hg => Z4 ZA (.inr ⟨_, rfl, id⟩) rfl) ?_
  refine Rg rfl rfl rfl (fun hg => Z1J (.inr ⟨_, rfl, id⟩) (.inr ⟨_, rfl, id⟩)) ?_
  refine Rq (ZM rfl rfl rfl id) ?_
  refine Rq (Z0 rfl) ?_
  refine Rg rfl rfl rfl (fun hg => Z1 Z4T (.inl rfl)) ?_
  refine Rg rfl rfl rfl (fun hg => Z4 Z4O (.inr ⟨_, rfl, id⟩) rfl) ?_
  refine Rg rfl rfl rfl (fun hg => Z1 Z4T (.inl rfl)) ?_
  refine Rg rfl rfl rfl (fun hg => Z4 Z4O (.inr ⟨_, rfl, id⟩) rfl) ?_
  refine Rg rfl rfl rfl (fun hg => Zak Zah (.inr ⟨_, rfl, id⟩) (.inr ⟨_, rfl, id⟩)) ?_
  refine Rq (ZM rfl rfl rfl id) ?_
  refine Rq (Z0 rfl) ?_
  refine Rg rfl rfl rfl (fun hg => Z1 Z2N (.inl rfl)) ?_
  refine Rg rfl rfl rfl (fun hg => Z4 Z2E (.inr ⟨_, rfl, id⟩) rfl) ?_
  refine Rg rfl rfl rfl (fun hg => Zq Z2C (.inr ⟨_, rfl, id⟩)) ?_
  refine Rg rfl rfl rfl (fun hg => Z1 Z2N (.inl rfl)) ?_
  refine Rg rfl rfl rfl (fun hg => Z4 Z2E (.inr ⟨_, rfl, id⟩) rfl) ?_
  refine Rg rfl rfl rfl (fun hg => Zq Z2C (.inr ⟨_, rfl, id⟩)) ?_
  refine Rg rfl rfl rfl (fun hg => Z1J (.inr ⟨_, rfl, id⟩) (.inr ⟨_, rfl, id⟩)) ?_
  refine Rq (ZM rfl rfl rfl id) ?_
  refine Rq (Z0 rfl) ?_
  refine Rg rfl rfl rfl (fun hg => Z1 Z28 (.inl rfl)) ?_
  refine Rg rfl rfl rfl (fun hg => Z4 Z3D (.inr ⟨_, rfl, id⟩) rfl) ?_
  refine Rg rfl rfl rfl (fun hg => Zq Z21 (.inr ⟨_, rfl, id⟩)) ?_
  refine Rg rfl rfl rfl (fun hg => Z1 Z28 (.inl rfl)) ?_
  refine Rg rfl rfl rfl (fun hg => Z4 Z3D (.inr ⟨_, rfl, id⟩) rfl) ?_
  refine Rg rfl rfl rfl (fun hg => Zq Z21 (.inr ⟨_, rfl, id⟩)) ?_
  refine Rg rfl rfl rfl (fun hg => Z1J (.inr ⟨_, rfl, id⟩) (.inr ⟨_, rfl, id⟩)) ?_
  refine Rq (ZM rfl rfl rfl id) ?_
  refine Rq (Z0 rfl) ?_
  refine Rg rfl rfl rfl (fun hg => Z1 Z1D (.inl rfl)) ?_
  refine Rg rfl rfl rfl (fun hg => Z4 Z1v (.inr ⟨_, rfl, id⟩) rfl) ?_
  refine Rg rfl rfl rfl (fun hg => Zq Z1x (.inr ⟨_, rfl, id⟩)) ?_
  refine Rg rfl rfl rfl (fun hg => Z1 Z1D (.inl rfl)) ?_
  refine Rg rfl rfl rfl (fun hg => Z4 Z1v (.inr ⟨_, rfl, id⟩) rfl) ?_
  refine Rg rfl rfl rfl (fun hg => Zq Z1x (.inr ⟨_, rfl, id⟩)) ?_
  refine Rg rfl rfl rfl (fun hg => Z1J (.inr ⟨_, rfl, id⟩) (.inr ⟨_, rfl, id⟩)) ?_
  refine Rq (ZM rfl rfl rfl id) ?_
  refine Rq (Z0 rfl) ?_
  refine Rg rfl rfl rfl (fun hg => Z1 Z1q (.inl rfl)) ?_
  refine Rg rfl rfl rfl (fun hg => Z4 Z1u (.inr ⟨_, rfl, id⟩) rfl) ?_
  refine Rg rfl rfl rfl (fun hg => Zq Z1T (.inr ⟨_, rfl, id⟩)) ?_
  refine Rg rfl rfl rfl (fun hg => Z1 Z1q (.inl rfl)) ?_
  refine Rg rfl rfl rfl (fun hg => Z4 Z1u (.inr ⟨_, rfl, id⟩) rfl) ?_
  refine Rg rfl rfl rfl (fun hg => Zq Z1T (.inr ⟨_, rfl, id⟩)) ?_
  refine Rg rfl rfl rfl (fun hg => Z1J (.inr ⟨_, rfl, id⟩) (.inr ⟨_, rfl, id⟩)) ?_
  refine Rq (ZM rfl rfl rfl id) ?_
  refine Rq (Z0 rfl) ?_
  refine Rg rfl rfl rfl (fun hg => Z1 Z11 (.inl rfl)) ?_
  refine Rg rfl rfl rfl (fun hg => Z4 ZR (.inr ⟨_, rfl, id⟩) rfl) ?_
  refine Rg rfl rfl rfl (fun hg => Zq Z1S (.inr ⟨_, rfl, id⟩)) ?_
  refine Rg rfl rfl rfl (fun hg => Z1 Z11 (.inl rfl)) ?_
  refine Rg rfl rfl rfl (fun hg => Z4 ZR (.inr ⟨_, rfl, id⟩) rfl) ?_
  refine Rg rfl rfl rfl (fun hg => Zq Z1S (.inr ⟨_, rfl, id⟩)) ?_
  refine Rg rfl rfl rfl (fun hg => Z1J (.inr ⟨_, rfl, id⟩) (.inr ⟨_, rfl, id⟩)) ?_
  refine Rq (ZM rfl rfl rfl id) ?_
  refine Rq (Z0 rfl) ?_
  refine Rg rfl rfl rfl (fun hg => Z1 Z1t (.inl rfl)) ?_
  refine Rg rfl rfl rfl (fun hg => Z4 Z27 (.inr ⟨_, rfl, id⟩) rfl) ?_
  refine Rg rfl rfl rfl (fun hg => Zq Z2n (.inr ⟨_, rfl, id⟩)) ?_
  refine Rg rfl rfl rfl (fun hg => Z1 Z1t (.inl rfl)) ?_
  refine Rg rfl rfl rfl (fun hg => Z4 Z27 (.inr ⟨_, rfl, id⟩) rfl) ?_
  refine Rg rfl rfl rfl (fun hg => Zq Z2n (.inr ⟨_, rfl, id⟩)) ?_
  refine Rg rfl rfl rfl (fun hg => Z1J (.inr ⟨_, rfl, id⟩) (.inr ⟨_, rfl, id⟩)) ?_
  refine Rq (ZM rfl rfl rfl id) ?_
  apply Rn
  refine FinS.nil0 ?_
  repeat first | apply Nx | apply Nb
  refine Sl [2, 3, 91] (.cons rfl (.cons rfl (.cons rfl .nil))) ?_
  repeat apply Sq
  refine Cd rfl (fun ht91 => ?_) (fun ht91 => ?_)
  ·
    try simp only [dT, dF] at ht91
    repeat apply Sq
    apply Pn
    refine Jt (Z2 rfl) rfl ?_
    apply Ni
    repeat first | apply Nx | apply Nb
    refine Sl [4] (.cons rfl .nil) ?_
    repeat apply Sq
    apply Rt
    repeat first | apply Rp | apply Rb
    exact JX.ret1is rfl rfl (by exact absurd ht91 (by simp [seq, nc, ncz, nn, nnz, nr, nrz, ni, niz, nf, nfz, no, noz]))
  ·
    try simp only [dT, dF] at ht91
    apply Sk
    repeat first | apply Nx | apply Nb
    repeat apply Sq
    refine J.reg0 hmx (by kernel_rfl) (by kernel_rfl) ?_
    refine Rq (ZG (cs := [_, _, _, _, _, _, _, _, _, _, _, _, _, _]) Z8 rfl rfl rfl) ?_
    refine Rq (ZG (cs := [_, _, _, _, _, _, _, _, _, _, _, _, _, _]) Z8 rfl rfl rfl) ?_
    refine Rq (ZK rfl (Zb9 N N2 S0 hsm) (.sub rfl (Sub.st rfl fun X w hf w' hk => ⟨hf _ (by repeat first | exact Mh | apply Mt) w' hk, hf _ (by repeat first | exact Mh | apply Mt) w' hk, hf _ (by repeat first | exact Mh | apply Mt) w' hk, hf _ (by repeat first | exact Mh | apply Mt) w' hk, hf _ (by repeat first | exact Mh | apply Mt) w' hk, hf _ (by repeat first | exact Mh | apply Mt) w' hk, hf _ (by repeat first | exact Mh | apply Mt) w' hk, hf _ (by repeat first | exact Mh | apply Mt) w' hk, hf _ (by repeat first | exact Mh | apply Mt) w' hk⟩) (.sub rfl (Sub.st rfl fun X w hf w' hk => ⟨hf _ (by repeat first | exact Mh | apply Mt) w' hk, hf _ (by repeat first | exact Mh | apply Mt) w' hk, hf _ (by repeat first | exact Mh | apply Mt) w' hk, hf _ (by repeat first | exact Mh | apply Mt) w' hk, hf _ (by repeat first | exact Mh | apply Mt) w' hk, hf _ (by repeat first | exact Mh | apply Mt) w' hk, hf _ (by repeat first | exact Mh | apply Mt) w' hk, hf _ (by repeat first | exact Mh | apply Mt) w' hk, hf _ (by repeat first | exact Mh | apply Mt) w' hk⟩) .nil))) ?_
    refine Rq (Z0 rfl) ?_
    refine Rg rfl rfl rfl (fun hg => Z1 Z24 (.inl rfl)) ?_
    refine Rg rfl rfl rfl (fun hg => Z4 Zt (.inr ⟨_, rfl, id⟩) rfl) ?_
    refine Rg rfl rfl rfl (fun hg => Zq Zn (.inr ⟨_, rfl, id⟩)) ?_
    refine Rg rfl rfl rfl (fun hg => Z1 Z24 (.inl rfl)) ?_
    refine Rg rfl rfl rfl (fun hg => Z4 Zt (.inr ⟨_, rfl, id⟩) rfl) ?_
    refine Rg rfl rfl rfl (fun hg => Zq Zn (.inr ⟨_, rfl, id⟩)) ?_
    refine Rg rfl rfl rfl (fun hg => Z1e (.inr ⟨_, rfl, id⟩) (.inr ⟨_, rfl, id⟩)) ?_
    refine Rq (Zy rfl rfl rfl id) ?_
    refine Rq (Z0 rfl) ?_
    refine Rg rfl rfl rfl (fun hg => Z1 Z3i (.inl rfl)) ?_
    refine Rg rfl rfl rfl (fun hg => Z4 Zt (.inr ⟨_, rfl, id⟩) rfl) ?_
    refine Rg rfl rfl rfl (fun hg => Zq Zn (.inr ⟨_, rfl, id⟩)) ?_
    refine Rg rfl rfl rfl (fun hg => Z1 Z3i (.inl rfl)) ?_
    refine Rg rfl rfl rfl (fun hg => Z4 Zt (.inr ⟨_, rfl, id⟩) rfl) ?_
    refine Rg rfl rfl rfl (fun hg => Zq Zn (.inr ⟨_, rfl, id⟩)) ?_
    refine Rg rfl rfl rfl (fun hg => Z1e (.inr ⟨_, rfl, id⟩) (.inr ⟨_, rfl, id⟩)) ?_
    refine Rq (Zy rfl rfl rfl id) ?_
    refine Rq (Z0 rfl) ?_
    refine Rg rfl rfl rfl (fun hg => ZG (cs := [_, _, _, _, _, _, _, _, _, _, _, _, _, _]) Z8 (.inl rfl) rfl rfl) ?_
    refine Rg rfl rfl rfl (fun hg => ZK (.inl rfl) (Z8Z N S0 hsm) (.sub (.inr ⟨_, rfl, id⟩) (Sub.st rfl fun X w hf w' hk => ⟨hf _ (by repeat first | exact Mh | apply Mt) w' hk, hf _ (by repeat first | exact Mh | apply Mt) w' hk, hf _ (by repeat first | exact Mh | apply Mt) w' hk, hf _ (by repeat first | exact Mh | apply Mt) w' hk, hf _ (by repeat first | exact Mh | apply Mt) w' hk, hf _ (by repeat first | exact Mh | apply Mt) w' hk, hf _ (by repeat first | exact Mh | apply Mt) w' hk, hf _ (by repeat first | exact Mh | apply Mt) w' hk, hf _ (by repeat first | exact Mh | apply Mt) w' hk⟩) .nil)) ?_
    refine Rg rfl rfl rfl (fun hg => ZG (cs := [_, _, _, _, _, _, _, _, _, _, _, _, _, _]) Z8 (.inl rfl) rfl rfl) ?_
    refine Rg rfl rfl rfl (fun hg => ZK (.inl rfl) (Z8Z N2 S0 hsm) (.sub (.inr ⟨_, rfl, id⟩) (Sub.st rfl fun X w hf w' hk => ⟨hf _ (by repeat first | exact Mh | apply Mt) w' hk, hf _ (by repeat first | exact Mh | apply Mt) w' hk, hf _ (by repeat first | exact Mh | apply Mt) w' hk, hf _ (by repeat first | exact Mh | apply Mt) w' hk, hf _ (by repeat first | exact Mh | apply Mt) w' hk, hf _ (by repeat first | exact Mh | apply Mt) w' hk, hf _ (by repeat first | exact Mh | apply Mt) w' hk, hf _ (by repeat first | exact Mh | apply Mt) w' hk, hf _ (by repeat first | exact Mh | apply Mt) w' hk⟩) .nil)) ?_
    refine Rg rfl rfl rfl (fun hg => ZK (.inl rfl) (Z5v (exsOf S0) (Zf3 hsm) (fun x hx => Z5V 4096 x (hec x hx) (hec x hx))) (.one (.inr ⟨_, rfl, id⟩) (.one (.inr ⟨_, rfl, id⟩) .nil))) ?_
    refine Rq (Zy rfl rfl rfl id) ?_
    refine Rq (Z2 rfl) ?_
    apply Rn
    refine FinS.nil0 ?_
    repeat first | apply Nx | apply Nb
    refine Sl [4] (.cons rfl .nil) ?_
    repeat apply Sq
    apply Rt
    repeat first | apply Rp | apply Rb
    exact JX.ret1is rfl rfl (by simp [nw, nwz, ng, ngz])
end Go.Proofs.YtbedigkncjbggaaGreatDoor
set_option maxRecDepth 20000
namespace Go.Proofs.YtbedigkncjbggaaGreatDoor
open Go Go.Vc
abbrev sv (s : ByteArray) (i : Nat) : Value := .agg #[.string s, .int .i64 (i : Int)]
def or32 (c : Int) : Int := IntKind.u8.wrap (BitVec.ofInt IntKind.u8.bits c ||| BitVec.ofInt IntKind.u8.bits 32).toNat
def letterF (c : Int) : Bool := (c == 95) || (decide (97 ≤ or32 c) && decide (or32 c ≤ 122))
def digitF (c : Int) : Bool := decide (48 ≤ c) && decide (c ≤ 57)
def letB (b : UInt8) : Bool := letterF b.toNat
def digB (b : UInt8) : Bool := digitF b.toNat
def wordB (b : UInt8) : Bool := letB b || digB b
def isSp (b : UInt8) : Bool := decide (0 ≤ Lib.indexByte [32, 9, 10, 13] b)
def runN (p : UInt8 → Bool) : List UInt8 → Nat
 | [] => 0
 | b :: l => if p b then runN p l + 1 else 0
theorem Z51 (p : UInt8 → Bool) : ∀ l : List UInt8, runN p l ≤ l.length
  | [] => Nat.le_refl _
  | b :: l => by
    have := Z51 p l
    unfold runN
    split <;> simp <;> omega
theorem ZbZ {p : UInt8 → Bool} {s : ByteArray} {i : Nat} (h : i < s.size → p (by_ s i) = false) : runN p (dr s i) = 0 := by
 by_cases hi : i < s.size
 · rw [Z2A hi, runN, if_neg (by rw [h hi]; simp)]
 · rw [Z76 (by omega)]; rfl
theorem ZfX {p : UInt8 → Bool} {s : ByteArray} {i : Nat} (hi : i < s.size) (h : p (by_ s i) = true) : runN p (dr s i) = runN p (dr s (i + 1)) + 1 := by
 rw [Z2A hi, runN, if_pos h]
theorem ZeR {p : UInt8 → Bool} {s : ByteArray} {i : Nat} (hi : i ≤ s.size) : i + runN p (dr s i) ≤ s.size := by
 have := Z51 p (dr s i)
 rw [Z8n] at this
 omega
theorem Zh5 (s : ByteArray) (i : Nat) : (sb s i).toNat.toUInt8 = by_ s i := by
 rw [ZiS]
 simp
def kwB : ByteArray := ⟨#[32, 65, 78, 68, 32, 65, 83, 32, 65, 83, 67, 32, 66, 69, 71, 73, 78, 32, 66, 79, 79, 76, 32, 66, 89, 32, 67, 79, 77, 77, 73, 84, 32, 67, 79, 85, 78, 84, 32, 67, 82, 69, 65, 84, 69, 32, 68, 69, 76, 69, 84, 69, 32, 68, 69, 83, 67, 32, 70, 65, 76, 83, 69, 32, 70, 82, 79, 77, 32, 71, 82, 79, 85, 80, 32, 72, 65, 83, 72, 32, 73, 78, 68, 69, 88, 32, 73, 78, 78, 69, 82, 32, 73, 78, 83, 69, 82, 84, 32, 73, 78, 84, 32, 73, 78, 84, 79, 32, 73, 83, 32, 74, 79, 73, 78, 32, 75, 69, 89, 32, 76, 73, 77, 73, 84, 32, 77, 65, 88, 32, 77, 73, 78, 32, 78, 79, 84, 32, 78, 85, 76, 76, 32, 79, 78, 32, 79, 82, 32, 79, 82, 68, 69, 82, 32, 80, 82, 73, 77, 65, 82, 89, 32, 82, 79, 76, 76, 66, 65, 67, 75, 32, 83, 69, 76, 69, 67, 84, 32, 83, 69, 84, 32, 83, 85, 77, 32, 84, 65, 66, 76, 69, 32, 84, 69, 88, 84, 32, 84, 82, 85, 69, 32, 85, 78, 73, 81, 85, 69, 32, 85, 80, 68, 65, 84, 69, 32, 85, 83, 73, 78, 71, 32, 86, 65, 76, 85, 69, 83, 32, 87, 72, 69, 82, 69, 32]⟩
def sgB : ByteArray := ⟨#[32, 60, 62, 32, 60, 61, 32, 62, 61, 32, 40, 32, 41, 32, 44, 32, 59, 32, 42, 32, 43, 32, 45, 32, 47, 32, 37, 32, 61, 32, 60, 32, 62, 32, 46, 32]⟩
abbrev sp1 : ByteArray := ⟨#[32]⟩
abbrev bl (l : List UInt8) : ByteArray := ⟨l.toArray⟩
theorem Z8H (l : List UInt8) : (bl l).size = l.length := by show l.toArray.size = _; simp
theorem Z5L (l : List UInt8) : (bl l).data.toList = l := by simp
theorem Zj1 (s : ByteArray) : bl s.data.toList = s := by cases s; simp
theorem Zff (s : ByteArray) (n k : Nat) : s.extract n (n + k) = bl ((dr s n).take k) := by
 rw [← Z1n, Zj1]
theorem Zca (a b : ByteArray) : (a ++ b).data.toList = a.data.toList ++ b.data.toList := by
 rw [ByteArray.data_append, Array.toList_append]
def padL (l : List UInt8) : List UInt8 := 32 :: l ++ [32]
theorem Z5M (a : ByteArray) : ((sp1 ++ a) ++ sp1).data.toList = padL a.data.toList := by
 rw [Zca, Zca]; rfl
def wordL (w : List UInt8) : T3 × Int :=
 if Lib.contains kwB.data.toList (padL (Lib.toUpperA w)) then (⟨1, bl (Lib.toUpperA w), 0⟩, 0)
 else if decide (32 < (w.length : Int)) then (t3D, 30) else (⟨2, bl (Lib.toLowerA w), 0⟩, 0)
def numStep (a : Int × Int) (b : UInt8) : Int × Int :=
  (IntKind.i64.wrap (IntKind.i64.wrap (10 * a.1) + IntKind.i64.wrap (IntKind.u8.wrap ((b.toNat : Int) - 48))),
   if decide ((IntKind.i64.wrap ((IntKind.i64.wrap (9223372036854775807 - IntKind.i64.wrap (IntKind.u8.wrap ((b.toNat : Int) - 48)))).tdiv 10)) < a.1) then 35 else a.2)
def headP (p : UInt8 → Bool) : List UInt8 → Bool
 | [] => false
 | b :: _ => p b
def numE (l : List UInt8) : Int := if headP letB (l.drop (runN digB l)) then 30 else ((l.take (runN digB l)).foldl numStep (0, 0)).2
def numL (l : List UInt8) : T3 × Int :=
 if (numE l != 0) then (t3D, numE l) else (⟨3, ⟨#[]⟩, ((l.take (runN digB l)).foldl numStep (0, 0)).1⟩, 0)
def endT (acc : List UInt8) : T3 × Int := if decide (64 < (acc.length : Int)) then (t3D, 30) else (⟨4, bl acc, 0⟩, 0)
def textL : List UInt8 → List UInt8 → (T3 × Int) × Nat
 | [], _ => ((t3D, 30), 0)
 | [b], acc => if b == 39 then (endT acc, 1) else ((t3D, 30), 1)
 | b :: c :: l, acc => if b == 39 then (if c != 39 then (endT acc, 1) else ((textL l (acc ++ [c])).1, (textL l (acc ++ [c])).2 + 2)) else ((textL (c :: l) (acc ++ [b])).1, (textL (c :: l) (acc ++ [b])).2 + 1)
def tryL (l : List UInt8) (q : Nat) : Bool := decide (q ≤ l.length) && Lib.contains sgB.data.toList (padL (l.take q))
def signL (l : List UInt8) : (T3 × Int) × Nat := if tryL l 2 then ((⟨5, bl (l.take 2), 0⟩, 0), 2) else if tryL l 1 then ((⟨5, bl (l.take 1), 0⟩, 0), 1) else ((t3D, 30), 0)
def stepL : List UInt8 → (T3 × Int) × Nat
 | [] => ((t3D, 30), 0)
 | b :: l => if letB b then (wordL ((b :: l).take (runN wordB (b :: l))), runN wordB (b :: l))
  else if digB b then (numL (b :: l), runN digB (b :: l))
  else if b == 39 then ((textL l []).1, (textL l []).2 + 1)
  else signL (b :: l)
def allG : Nat → List UInt8 → List T3 × Int
  | 0, _ => ([], 0)
  | f + 1, l => match l.drop (runN isSp l) with
    | [] => ([], 0)
    | b :: r => if ((stepL (b :: r)).1.2 != 0) then ([], (stepL (b :: r)).1.2)
      else if ((allG f ((b :: r).drop (stepL (b :: r)).2)).2 != 0) then ([], (allG f ((b :: r).drop (stepL (b :: r)).2)).2)
      else ((stepL (b :: r)).1.1 :: (allG f ((b :: r).drop (stepL (b :: r)).2)).1, 0)
def lexL (l : List UInt8) : List T3 × Int := if decide (2048 < (l.length : Int)) then ([], 30) else allG (l.length + 1) l
theorem ZdB (w : List UInt8) : (Lib.toUpperA w).length = w.length := by simp [Lib.toUpperA]
theorem Zd8 {a : ByteArray} (h : a.size ≤ 2048) : sp1.size + a.size ≤ 9223372036854775807 := by
 have : sp1.size = 1 := rfl
 omega
theorem Zdd {a : ByteArray} (h : a.size ≤ 2048) : (sp1 ++ a).size + sp1.size ≤ 9223372036854775807 := by
 have : sp1.size = 1 := rfl
 rw [ByteArray.size_append]
 omega
theorem Z4W (s : ByteArray) (n k : Nat) : (s.extract n (n + k)).size ≤ s.size := by
 rw [Zff, Z8H, List.length_take, Z8n]
 omega
theorem Za8 : ∀ n : Nat, n < 256 → (letterF n || digitF n) = true → n < 128 := by decide +kernel
theorem ZdY {b : UInt8} (h : wordB b = true) : b.toNat < 128 := Za8 b.toNat b.toNat_lt h
theorem Za5 (p : UInt8 → Bool) : ∀ l : List UInt8, ∀ b ∈ l.take (runN p l), p b = true
  | [], b, h => by simp [runN] at h
  | c :: l, b, h => by
    unfold runN at h
    by_cases hc : p c = true
    · rw [if_pos hc, List.take_succ_cons] at h
      rcases List.mem_cons.1 h with rfl | h
      · exact hc
      · exact Za5 p l b h
    · rw [if_neg hc] at h
      simp at h
theorem ZaK (s : ByteArray) (n : Nat) : ∀ (j : Nat) (b : UInt8), (s.extract n (n + runN wordB (dr s n))).data.toList[j]? = some b → b.toNat < 128 := fun j b h => by
 rw [Z1n] at h
 exact ZdY (Za5 wordB _ b (List.mem_of_getElem? h))
end Go.Proofs.YtbedigkncjbggaaGreatDoor
set_option maxRecDepth 20000
namespace Go.Proofs.YtbedigkncjbggaaGreatDoor
open Go Go.Vc
abbrev AB : UInt8 → Ty := fun b => .is (.int .u8 b.toNat)
abbrev RBB (p : UInt8 → Bool) : UInt8 → Ty := fun b => .is (.bool (p b))
abbrev TT : World → Prop := fun _ => True
theorem Z6x {a b : Bool} (h : (a && b) = true) : a = true ∧ b = true := by simpa using h
theorem Z5N (c : Int) : CallTy Tryz.prog Zcd [.is (.int .u8 c)] (.is (.bool (letterF c))) :=
 CallTy.of (fn := Tryz.f98) Tryz.func98 (n := 15) rfl rfl rfl (fun _ _ => by kernel_rfl) fun E W => by
 repeat apply Sq
 apply Pn
 refine Jt (Z2 rfl) rfl ?_
 apply Ni
 repeat first | apply Nx | apply Nb
 refine Sl [0] (.cons rfl .nil) ?_
 repeat apply Sq
 refine J.reg0 hmx (by kernel_rfl) (by kernel_rfl) ?_
 refine Rq (Z0 rfl) ?_
 refine Rq (Z1e rfl rfl) ?_
 refine Rq (Z0 rfl) ?_
 refine Rg rfl rfl rfl (fun hg => Z0 (.inl rfl)) ?_
 refine Rg rfl rfl rfl (fun hg => ZgZ (.inr ⟨_, rfl, id⟩) (.inl rfl)) ?_
 refine Rg rfl rfl rfl (fun hg => Z8r (.inr ⟨_, rfl, id⟩) (.inl rfl)) ?_
 refine Rg rfl rfl rfl (fun hg => Z0 (.inr ⟨_, rfl, id⟩)) ?_
 refine RT.gg rfl rfl rfl (fun hg => (Z0 (.inl rfl))) ?_
 refine RT.gg rfl rfl rfl (fun hg => (ZgZ (.inr ⟨_, rfl, id⟩) (.inl rfl))) ?_
 refine RT.gg rfl rfl rfl (fun hg => (Z31 (.inr ⟨_, rfl, id⟩) (.inl rfl))) ?_
 refine Rg rfl rfl rfl (fun hg => Zy (.inr ⟨_, rfl, id⟩) (.inl rfl) (.inl rfl) (fun h => ⟨hg, h⟩)) ?_
 refine Rq (ZM rfl rfl rfl id) ?_
 refine Rq (Z2 rfl) ?_
 apply Rn
 refine FinS.nil0 ?_
 repeat first | apply Nx | apply Nb
 refine Sl [2] (.cons rfl .nil) ?_
 repeat apply Sq
 apply Rt
 repeat first | apply Rp | apply Rb
 exact JX.ret1is rfl rfl (by rfl)
theorem Z6J (c : Int) : CallTy Tryz.prog Z92 [.is (.int .u8 c)] (.is (.bool (digitF c))) :=
 CallTy.of (fn := Tryz.f100) Tryz.func100 (n := 9) rfl rfl rfl (fun _ _ => by kernel_rfl) fun E W => by
 repeat apply Sq
 apply Pn
 refine Jt (Z2 rfl) rfl ?_
 apply Ni
 repeat first | apply Nx | apply Nb
 refine Sl [0] (.cons rfl .nil) ?_
 repeat apply Sq
 refine J.reg0 hmx (by kernel_rfl) (by kernel_rfl) ?_
 refine Rq (Z0 rfl) ?_
 refine Rq (Z8r rfl rfl) ?_
 refine Rq (Z0 rfl) ?_
 refine Rg rfl rfl rfl (fun hg => Z0 (.inl rfl)) ?_
 refine Rg rfl rfl rfl (fun hg => Z31 (.inr ⟨_, rfl, id⟩) (.inl rfl)) ?_
 refine Rq (Zy rfl rfl rfl id) ?_
 refine Rq (Z2 rfl) ?_
 apply Rn
 refine FinS.nil0 ?_
 repeat first | apply Nx | apply Nb
 refine Sl [2] (.cons rfl .nil) ?_
 repeat apply Sq
 apply Rt
 repeat first | apply Rp | apply Rb
 exact JX.ret1is rfl rfl (by rfl)
theorem Z6I (c : Int) : CallTy Tryz.prog Z3Z [.is (.int .u8 c)] (.is (.bool (letterF c || digitF c))) :=
 CallTy.of (fn := Tryz.f140) Tryz.func140 (n := 9) rfl rfl rfl (fun _ _ => by kernel_rfl) fun E W => by
 repeat apply Sq
 apply Pn
 refine Jt (Z2 rfl) rfl ?_
 apply Ni
 repeat first | apply Nx | apply Nb
 refine Sl [0] (.cons rfl .nil) ?_
 repeat apply Sq
 refine J.reg0 hmx (by kernel_rfl) (by kernel_rfl) ?_
 refine Rq (Z0 rfl) ?_
 refine Rq (ZK rfl (Z5N c) (.one rfl .nil)) ?_
 refine Rq (Z0 rfl) ?_
 refine Rg rfl rfl rfl (fun hg => Z0 (.inl rfl)) ?_
 refine Rg rfl rfl rfl (fun hg => ZK (.inl rfl) (Z6J c) (.one (.inr ⟨_, rfl, id⟩) .nil)) ?_
 refine Rq (ZM rfl rfl rfl id) ?_
 refine Rq (Z2 rfl) ?_
 apply Rn
 refine FinS.nil0 ?_
 repeat first | apply Nx | apply Nb
 refine Sl [2] (.cons rfl .nil) ?_
 repeat apply Sq
 apply Rt
 repeat first | apply Rp | apply Rb
 exact JX.ret1is rfl rfl (by rfl)
theorem ZhI : Fn1 Tryz.prog (.func (.func Z3Z) ([] : List Value).toArray ([] : List Value).toArray) TT AB (RBB wordB) :=
 Fn1.of (TF := []) (TC := []) (fun b => Z6I b.toNat) (fun _ _ _ => trivial) (fun _ _ _ => trivial) 0
theorem ZgU : Fn1 Tryz.prog (.func (.func Z92) ([] : List Value).toArray ([] : List Value).toArray) TT AB (RBB digB) :=
 Fn1.of (TF := []) (TC := []) (fun b => Z6J b.toNat) (fun _ _ _ => trivial) (fun _ _ _ => trivial) 0
theorem Z4l (s : ByteArray) (n : Nat) (hn : n ≤ s.size) (hs : s.size ≤ 9223372036854775806) : CallM Tryz.prog Z73 Z14 (sv s n) [] [] (sv s (n + runN isSp (dr s n))) (.is (.tuple #[])) :=
CallM.of (fn := Tryz.f56) Tryz.func56 (n := 32) rfl rfl rfl (fun _ _ => by kernel_rfl) fun E W b0 => by
 repeat apply Sq
 apply Bk
 repeat apply Sq
 refine J.loopG (α := Nat) (fun i => [(0, .is (.pointer (some ⟨b0, 0, none⟩)))]) (fun i => [⟨b0, Z14, .is (sv s i)⟩]) (fun i => fun _ => True) (fun i => i ≤ s.size ∧ i + runN isSp (dr s i) = n + runN isSp (dr s n)) (fun i => s.size - i) n [0] (.cons rfl .nil) rfl (fun _ => trivial) ⟨hn, rfl⟩ fun i ⟨hi, hr⟩ => ?_
 try dsimp only
 try dsimp only at hi
 try dsimp only at hr
 repeat apply Sq
 refine J.reg0 hmx (by kernel_rfl) (by kernel_rfl) ?_
 refine Rq (Z0 rfl) ?_
 refine Rq (Z5 rfl) ?_
 refine Rq (Z1 Zc rfl) ?_
 refine Rq (Z4 ZA rfl rfl) ?_
 refine Rq (Z0 rfl) ?_
 refine Rq (Z5 rfl) ?_
 refine Rq (Z1 ZD rfl) ?_
 refine Rq (Z4 Zu rfl rfl) ?_
 refine Rq (Z2Y Zl rfl) ?_
 refine Rq (Z1h rfl rfl) ?_
 refine Rq (Z0 rfl) ?_
 refine Rg rfl rfl rfl (fun hg => Z0 (.inl rfl)) ?_
 refine Rg rfl rfl rfl (fun hg => Z5 (.inr ⟨_, rfl, id⟩)) ?_
 refine Rg rfl rfl rfl (fun hg => Z1 ZD (.inr ⟨_, rfl, id⟩)) ?_
 refine Rg rfl rfl rfl (fun hg => Z4 Zu (.inr ⟨_, rfl, id⟩) rfl) ?_
 refine Rg rfl rfl rfl (fun hg => Z0 (.inl rfl)) ?_
 refine Rg rfl rfl rfl (fun hg => Z5 (.inr ⟨_, rfl, id⟩)) ?_
 refine Rg rfl rfl rfl (fun hg => Z1 Zc (.inr ⟨_, rfl, id⟩)) ?_
 refine Rg rfl rfl rfl (fun hg => Z4 ZA (.inr ⟨_, rfl, id⟩) rfl) ?_
 refine Rg rfl rfl rfl (fun hg => Z2P Zl (.inr ⟨_, rfl, id⟩) (.inr ⟨_, rfl, id⟩) (by have h := hg; simp only [decide_eq_true_eq] at h; omega) (by have h := hg; simp only [decide_eq_true_eq] at h; omega)) ?_
 refine Rg rfl rfl rfl (fun hg => ZK (.inl rfl) (Z86 ⟨#[32, 9, 10, 13]⟩ (sb s i)) (.one (.inl rfl) (.one (.inr ⟨_, rfl, id⟩) .nil))) ?_
 refine Rg rfl rfl rfl (fun hg => Z8r (.inr ⟨_, rfl, id⟩) (.inl rfl)) ?_
 refine Rq (Zy rfl rfl rfl id) ?_
 apply Rn
 refine FinS.nil0 ?_
 repeat first | apply Nx | apply Nb
 refine Sl [0, 24] (.cons rfl (.cons rfl .nil)) ?_
 repeat apply Sq
 refine Cd rfl (fun ht24 => ?_) (fun ht24 => ?_)
 ·
  try simp only [dT, dF] at ht24
  apply Sk
  repeat first | apply Nx | apply Nb
  repeat apply Sq
  apply Bk
  have hlt : i < s.size := by have h := (Z6x ht24).1; simp only [decide_eq_true_eq] at h; omega
  repeat apply Sq
  apply Pn
  refine Jt (Z0 rfl) rfl ?_
  refine Jt (Z5 rfl) rfl ?_
  refine Jt (Z1 Zc rfl) rfl ?_
  refine Jt (Z4 ZA rfl rfl) rfl ?_
  refine Jt (ZB (cc := ((i + 1 : Nat) : Int)) rfl rfl (by omega) (by omega) (by omega)) rfl ?_
  refine Jt (Z5 rfl) rfl ?_
  refine Jt (Z1 Zc rfl) rfl ?_
  refine JO.m (Zf (cs' := [_, _]) rfl rfl (by repeat first | exact .here | apply Ut) rfl rfl rfl rfl Z38) (by rfl) ?_
  apply Ni
  repeat refine JX.normal_block ?_
  refine JX.roundG (x := i) (i + 1) ?_ ?_ [0] ?_ ?_ ?_ ?_
  · exact ⟨by omega, by rw [← hr, ZfX (by omega) (Z6x (show (decide ((i : Int) < s.size) && isSp (by_ s i)) = true by rw [← Zh5]; exact ht24)).2]; omega⟩
  · exact (by omega)
  · exact (.cons rfl .nil)
  · repeat (first | exact .all | exact .nil | refine Has.own (by repeat first | exact .here | apply Tl.past | apply Tl.there) ?_ | refine Has.cons (by repeat (first | exact .here | apply Pk.past | apply Pk.there)) ?_)
  · exact fun G hG => by repeat (first | exact hG | refine List.mem_cons_of_mem _ ?_)
  · exact fun _ _ _ => fun _ _ => trivial
 ·
  try simp only [dT, dF] at ht24
  repeat apply Sq
  refine J.exit ?_
  repeat first | refine Ht ?_ | refine Ms rfl ?_ | refine Ep ?_
  repeat first | apply Nx | apply Nb
  exact JX.normal_ret (JX.retM0e rfl HasOwn.mem (by rw [← hr, ZbZ fun h => by have h2 : (decide ((i : Int) < s.size) && isSp (by_ s i)) = false := (by rw [← Zh5]; exact ht24); simpa [h] using h2]; rfl))
theorem Z4K (p : UInt8 → Bool) (fv : Value) (hf : Fn1 Tryz.prog fv TT AB (RBB p)) (s : ByteArray) (n : Nat) (hn : n ≤ s.size) (hs : s.size ≤ 9223372036854775806) : CallM Tryz.prog Z84 Z14 (sv s n) [] [.rep (FunR fv TT)] (sv s (n + runN p (dr s n))) (.is (.string (s.extract n (n + runN p (dr s n))))) :=
CallM.of (fn := Tryz.f139) Tryz.func139 (n := 50) rfl rfl rfl (fun _ _ => by kernel_rfl) fun E W b0 => by
 refine J.openFun (s := 1) rfl ?_
 repeat apply Sq
 apply Pn
 refine Jt (Z2 rfl) rfl ?_
 apply Ni
 repeat first | apply Nx | apply Nb
 refine Sl [0, 1] (.cons rfl (.cons rfl .nil)) ?_
 repeat apply Sq
 apply Pn
 refine Jt (Z0 rfl) rfl ?_
 refine Jt (Z5 rfl) rfl ?_
 refine Jt (Z1 Zc rfl) rfl ?_
 refine Jt (Z4 ZA rfl rfl) rfl ?_
 refine Jt (Z2 rfl) rfl ?_
 apply Ni
 repeat first | apply Nx | apply Nb
 refine Sl [0, 1, 5] (.cons rfl (.cons rfl (.cons rfl .nil))) ?_
 repeat apply Sq
 apply Bk
 repeat apply Sq
 refine J.loopG (α := Nat) (fun i => [(0, .is (.pointer (some ⟨b0, 0, none⟩))), (1, .is fv), (5, .is (.int .i64 (n : Int)))]) (fun i => [⟨b0, Z14, .is (sv s i)⟩]) (fun i => fun _ => True) (fun i => i ≤ s.size ∧ i + runN p (dr s i) = n + runN p (dr s n)) (fun i => s.size - i) n [0, 1, 5] (.cons rfl (.cons rfl (.cons rfl .nil))) rfl (fun _ => trivial) ⟨hn, rfl⟩ fun i ⟨hi, hr⟩ => ?_
 try dsimp only
 try dsimp only at hi
 try dsimp only at hr
 repeat apply Sq
 refine J.reg0 hmx (by kernel_rfl) (by kernel_rfl) ?_
 refine Rq (Z0 rfl) ?_
 refine Rq (Z5 rfl) ?_
 refine Rq (Z1 Zc rfl) ?_
 refine Rq (Z4 ZA rfl rfl) ?_
 refine Rq (Z0 rfl) ?_
 refine Rq (Z5 rfl) ?_
 refine Rq (Z1 ZD rfl) ?_
 refine Rq (Z4 Zu rfl rfl) ?_
 refine Rq (Z2Y Zl rfl) ?_
 refine Rq (Z1h rfl rfl) ?_
 refine Rq (Z0 rfl) ?_
 refine Rg rfl rfl rfl (fun hg => Z0 (.inl rfl)) ?_
 refine Rg rfl rfl rfl (fun hg => Z0 (.inl rfl)) ?_
 refine Rg rfl rfl rfl (fun hg => Z5 (.inr ⟨_, rfl, id⟩)) ?_
 refine Rg rfl rfl rfl (fun hg => Z1 ZD (.inr ⟨_, rfl, id⟩)) ?_
 refine Rg rfl rfl rfl (fun hg => Z4 Zu (.inr ⟨_, rfl, id⟩) rfl) ?_
 refine Rg rfl rfl rfl (fun hg => Z0 (.inl rfl)) ?_
 refine Rg rfl rfl rfl (fun hg => Z5 (.inr ⟨_, rfl, id⟩)) ?_
 refine Rg rfl rfl rfl (fun hg => Z1 Zc (.inr ⟨_, rfl, id⟩)) ?_
 refine Rg rfl rfl rfl (fun hg => Z4 ZA (.inr ⟨_, rfl, id⟩) rfl) ?_
 refine Rg rfl rfl rfl (fun hg => Z2P Zl (.inr ⟨_, rfl, id⟩) (.inr ⟨_, rfl, id⟩) (by have h := hg; simp only [decide_eq_true_eq] at h; omega) (by have h := hg; simp only [decide_eq_true_eq] at h; omega)) ?_
 refine Rg rfl rfl rfl (fun hg => ZgF (by_ s i) (.inr ⟨_, rfl, id⟩) hf (by repeat first | exact Mh | apply Mt) (.inr ⟨_, rfl, id⟩)) ?_
 refine Rq (Zy rfl rfl rfl id) ?_
 apply Rn
 refine FinS.nil0 ?_
 repeat first | apply Nx | apply Nb
 refine Sl [0, 1, 5, 32] (.cons rfl (.cons rfl (.cons rfl (.cons rfl .nil)))) ?_
 repeat apply Sq
 refine Cd rfl (fun ht32 => ?_) (fun ht32 => ?_)
 ·
  try simp only [dT, dF] at ht32
  apply Sk
  repeat first | apply Nx | apply Nb
  repeat apply Sq
  apply Bk
  have hlt : i < s.size := by have h := (Z6x ht32).1; simp only [decide_eq_true_eq] at h; omega
  repeat apply Sq
  apply Pn
  refine Jt (Z0 rfl) rfl ?_
  refine Jt (Z5 rfl) rfl ?_
  refine Jt (Z1 Zc rfl) rfl ?_
  refine Jt (Z4 ZA rfl rfl) rfl ?_
  refine Jt (ZB (cc := ((i + 1 : Nat) : Int)) rfl rfl (by omega) (by omega) (by omega)) rfl ?_
  refine Jt (Z5 rfl) rfl ?_
  refine Jt (Z1 Zc rfl) rfl ?_
  refine JO.m (Zf (cs' := [_, _]) rfl rfl (by repeat first | exact .here | apply Ut) rfl rfl rfl rfl Z38) (by rfl) ?_
  apply Ni
  repeat refine JX.normal_block ?_
  refine JX.roundG (x := i) (i + 1) ?_ ?_ [0, 1, 5] ?_ ?_ ?_ ?_
  · exact ⟨by omega, by rw [← hr, ZfX (by omega) (Z6x (show (decide ((i : Int) < s.size) && p (by_ s i)) = true from ht32)).2]; omega⟩
  · exact (by omega)
  · exact (.cons rfl (.cons rfl (.cons rfl .nil)))
  · repeat (first | exact .all | exact .nil | refine Has.own (by repeat first | exact .here | apply Tl.past | apply Tl.there) ?_ | refine Has.cons (by repeat (first | exact .here | apply Pk.past | apply Pk.there)) ?_)
  · exact fun G hG => by repeat (first | exact hG | refine List.mem_cons_of_mem _ ?_)
  · exact fun _ _ _ => fun _ _ => trivial
 ·
  try simp only [dT, dF] at ht32
  repeat apply Sq
  refine J.exit ?_
  repeat first | refine Ht ?_ | refine Ms rfl ?_ | refine Ep ?_
  repeat first | apply Nx | apply Nb
  have he : i = n + runN p (dr s n) := by rw [← hr, ZbZ fun h => by have h2 : (decide ((i : Int) < s.size) && p (by_ s i)) = false := ht32; simpa [h] using h2]; rfl
  have hni : n ≤ i := by omega
  repeat apply Sq
  refine J.reg0 hmx (by kernel_rfl) (by kernel_rfl) ?_
  refine Rq (Z0 rfl) ?_
  refine Rq (Z5 rfl) ?_
  refine Rq (Z1 ZD rfl) ?_
  refine Rq (Z4 Zu rfl rfl) ?_
  refine Rq (Z0 rfl) ?_
  refine Rq (Z0 rfl) ?_
  refine Rq (Z5 rfl) ?_
  refine Rq (Z1 Zc rfl) ?_
  refine Rq (Z4 ZA rfl rfl) ?_
  refine Rq (Z8g Zl rfl rfl rfl (by omega) (by omega) (by omega)) ?_
  refine Rq (Z2 rfl) ?_
  apply Rn
  refine FinS.nil0 ?_
  repeat first | apply Nx | apply Nb
  refine Sl [4] (.cons rfl .nil) ?_
  repeat apply Sq
  apply Rt
  repeat first | apply Rp | apply Rb
  exact JX.retM1e rfl HasOwn.mem rfl (by rw [he]; rfl) (by rw [he])
end Go.Proofs.YtbedigkncjbggaaGreatDoor
set_option maxRecDepth 20000
namespace Go.Proofs.YtbedigkncjbggaaGreatDoor
open Go Go.Vc
theorem Zhc (p : UInt8 → Bool) (s : ByteArray) (i : Nat) : headP p (dr s i) = (decide ((i : Int) < s.size) && p (by_ s i)) := by
 by_cases h : i < s.size
 · rw [Z2A h, headP, decide_eq_true (by omega), Bool.true_and]
 · rw [Z76 (by omega), headP, decide_eq_false (by omega), Bool.false_and]
theorem Zez {s : ByteArray} {n : Nat} (hn : n < s.size) (q : Nat) : tryL (dr s n) q = (decide (((n + q : Nat) : Int) ≤ s.size) && Lib.contains sgB.data.toList ((sp1 ++ s.extract n (n + q)) ++ sp1).data.toList) := by
 unfold tryL
 rw [Z5M, Z1n, Z8n]
 congr 1
 exact decide_eq_decide.2 ⟨fun h => by omega, fun h => by omega⟩
theorem ZiD {l : List UInt8} {i : Nat} (h : i < l.length) : l[i]? = some (l.getD i 0) := by simp [h]
theorem ZaU {α : Type} (f : α → UInt8 → α) {a : α} {l : List UInt8} {k : Nat} (h : k < l.length) : (l.take (k + 1)).foldl f a = f ((l.take k).foldl f a) (l.getD k 0) := by
 rw [List.take_add_one, List.foldl_append]
 simp [h]
theorem Z7r (s : ByteArray) (n : Nat) (hn : n < s.size) (hs : s.size ≤ 2048) : CallM Tryz.prog Z4H Z14 (sv s n) [GF] [] (sv s (n + runN wordB (dr s n))) (.tup2 (.is (tv (wordL ((dr s n).take (runN wordB (dr s n)))).1)) (.is (.int .i64 (wordL ((dr s n).take (runN wordB (dr s n)))).2))) :=
CallM.of (fn := Tryz.f99) Tryz.func99 (n := 23) rfl rfl rfl (fun _ _ => by kernel_rfl) fun E W b0 => by
 repeat apply Sq
 apply Pn
 refine JO.alloc Z2e rfl fun b2 => ?_
 refine Jt (Z2 rfl) rfl ?_
 apply Ni
 repeat first | apply Nx | apply Nb
 refine Sl [0, 2] (.cons rfl (.cons rfl .nil)) ?_
 repeat apply Sq
 apply Pn
 refine Jt (Z0 rfl) rfl ?_
 refine JO.md (Z7p rfl rfl (Z4K wordB _ ZhI s n (by omega) (by omega)) (by repeat first | exact .here | apply Ut) (by simp) (.sub rfl (Sub.funT (fun _ => trivial)) .nil)) (by rfl) rfl ?_
 refine Jt (Z2 rfl) rfl ?_
 apply Ni
 repeat first | apply Nx | apply Nb
 refine Sl [2, 4] (.cons rfl (.cons rfl .nil)) ?_
 repeat apply Sq
 apply Pn
 refine Jt (Z0 rfl) rfl ?_
 refine Jt (ZK rfl (Z8N (s.extract n (n + runN wordB (dr s n))) (by have h1 := Z4W s n (runN wordB (dr s n)); omega) (ZaK s n)) (.one rfl .nil)) rfl ?_
 refine Jt (Z2 rfl) rfl ?_
 apply Ni
 repeat first | apply Nx | apply Nb
 refine Sl [2, 4, 5] (.cons rfl (.cons rfl (.cons rfl .nil))) ?_
 repeat apply Sq
 apply Pn
 refine Jt (Z0 rfl) rfl ?_
 refine Jt (Z7a rfl rfl (Zd8 (by show (bl (Lib.toUpperA (s.extract n (n + runN wordB (dr s n))).data.toList)).size ≤ 2048; rw [Z8H, ZdB, Z1w]; have h1 := Z4W s n (runN wordB (dr s n)); omega))) rfl ?_
 refine Jt (Z7a rfl rfl (Zdd (by show (bl (Lib.toUpperA (s.extract n (n + runN wordB (dr s n))).data.toList)).size ≤ 2048; rw [Z8H, ZdB, Z1w]; have h1 := Z4W s n (runN wordB (dr s n)); omega))) rfl ?_
 refine Jt (Z2o rfl (Z5l kwB _ (by decide)) (by simp) (.one rfl (.one rfl .nil))) rfl ?_
 apply Ni
 repeat first | apply Nx | apply Nb
 refine Sl [2, 4, 5, 13] (.cons rfl (.cons rfl (.cons rfl (.cons rfl .nil)))) ?_
 repeat apply Sq
 refine Cd rfl (fun ht13 => ?_) (fun ht13 => ?_)
 ·
  try simp only [dT, dF] at ht13
  repeat apply Sq
  apply Pn
  refine Jt (Z0 rfl) rfl ?_
  refine Jt (Zv (cs := [_, _, _]) Z1k (.cons rfl (.cons rfl .nil)) rfl rfl) rfl ?_
  refine JO.m (Z3 rfl rfl (by repeat first | exact .here | apply Ut) (by first | exact cI rfl rfl | exact cE) (by first | exact cI rfl rfl | exact cE | exact cO) Z17) (by rfl) ?_
  refine Jt (Z2 rfl) rfl ?_
  apply Ni
  repeat first | apply Nx | apply Nb
  refine Sl [2, 3] (.cons rfl (.cons rfl .nil)) ?_
  repeat apply Sq
  apply Rt
  repeat first | apply Rp | apply Rb
  exact JX.retMC1is rfl HasOwn.mem rfl ZW HasOwn.mem rfl rfl (by have hc : (Lib.contains kwB.data.toList ((sp1 ++ ⟨(Lib.toUpperA (s.extract n (n + runN wordB (dr s n))).data.toList).toArray⟩) ++ sp1).data.toList) = Lib.contains kwB.data.toList (padL (Lib.toUpperA ((dr s n).take (runN wordB (dr s n))))) := (by rw [Z5M, Z5L, Z1n]); rw [hc] at ht13; unfold wordL; rw [if_pos ht13, Z1n]) (by have hc : (Lib.contains kwB.data.toList ((sp1 ++ ⟨(Lib.toUpperA (s.extract n (n + runN wordB (dr s n))).data.toList).toArray⟩) ++ sp1).data.toList) = Lib.contains kwB.data.toList (padL (Lib.toUpperA ((dr s n).take (runN wordB (dr s n))))) := (by rw [Z5M, Z5L, Z1n]); rw [hc] at ht13; unfold wordL; rw [if_pos ht13]) (by rfl)
 ·
  try simp only [dT, dF] at ht13
  apply Sk
  repeat first | apply Nx | apply Nb
  repeat apply Sq
  apply Pn
  refine Jt (Z0 rfl) rfl ?_
  refine Jt (Z2Y Zl rfl) rfl ?_
  refine Jt (Z2O rfl rfl) rfl ?_
  apply Ni
  repeat first | apply Nx | apply Nb
  refine Sl [2, 4, 18] (.cons rfl (.cons rfl (.cons rfl .nil))) ?_
  repeat apply Sq
  refine Cd rfl (fun ht18 => ?_) (fun ht18 => ?_)
  ·
   try simp only [dT, dF] at ht18
   repeat apply Sq
   apply Pn
   refine Jt (Zv (cs := [_, _, _]) Z1k .nil rfl rfl) rfl ?_
   refine JO.m (Z3 rfl rfl (by repeat first | exact .here | apply Ut) (by first | exact cI rfl rfl | exact cE) (by first | exact cI rfl rfl | exact cE | exact cO) Z17) (by rfl) ?_
   refine Jt (Z2 rfl) rfl ?_
   apply Ni
   repeat first | apply Nx | apply Nb
   refine Sl [2, 3] (.cons rfl (.cons rfl .nil)) ?_
   repeat apply Sq
   apply Rt
   repeat first | apply Rp | apply Rb
   exact JX.retMC1is rfl HasOwn.mem rfl ZW HasOwn.mem rfl rfl (by have hc : (Lib.contains kwB.data.toList ((sp1 ++ ⟨(Lib.toUpperA (s.extract n (n + runN wordB (dr s n))).data.toList).toArray⟩) ++ sp1).data.toList) = Lib.contains kwB.data.toList (padL (Lib.toUpperA ((dr s n).take (runN wordB (dr s n))))) := (by rw [Z5M, Z5L, Z1n]); rw [hc] at ht13; have hl : ((s.extract n (n + runN wordB (dr s n))).size : Int) = (((dr s n).take (runN wordB (dr s n))).length : Int) := (by rw [← Z1w, Z1n]); rw [hl] at ht18; unfold wordL; rw [if_neg (by rw [ht13]; simp), if_pos (decide_eq_true ht18)]; rfl) (by have hc : (Lib.contains kwB.data.toList ((sp1 ++ ⟨(Lib.toUpperA (s.extract n (n + runN wordB (dr s n))).data.toList).toArray⟩) ++ sp1).data.toList) = Lib.contains kwB.data.toList (padL (Lib.toUpperA ((dr s n).take (runN wordB (dr s n))))) := (by rw [Z5M, Z5L, Z1n]); rw [hc] at ht13; have hl : ((s.extract n (n + runN wordB (dr s n))).size : Int) = (((dr s n).take (runN wordB (dr s n))).length : Int) := (by rw [← Z1w, Z1n]); rw [hl] at ht18; unfold wordL; rw [if_neg (by rw [ht13]; simp), if_pos (decide_eq_true ht18)]) (by rfl)
  ·
   try simp only [dT, dF] at ht18
   apply Sk
   repeat first | apply Nx | apply Nb
   repeat apply Sq
   apply Pn
   refine Jt (Z0 rfl) rfl ?_
   refine Jt (ZK rfl (Z8J (s.extract n (n + runN wordB (dr s n))) (by have h1 := Z4W s n (runN wordB (dr s n)); omega) (ZaK s n)) (.one rfl .nil)) rfl ?_
   refine Jt (Zv (cs := [_, _, _]) Z1k (.cons rfl (.cons rfl .nil)) rfl rfl) rfl ?_
   refine JO.m (Z3 rfl rfl (by repeat first | exact .here | apply Ut) (by first | exact cI rfl rfl | exact cE) (by first | exact cI rfl rfl | exact cE | exact cO) Z17) (by rfl) ?_
   refine Jt (Z2 rfl) rfl ?_
   apply Ni
   repeat first | apply Nx | apply Nb
   refine Sl [2, 3] (.cons rfl (.cons rfl .nil)) ?_
   repeat apply Sq
   apply Rt
   repeat first | apply Rp | apply Rb
   exact JX.retMC1is rfl HasOwn.mem rfl ZW HasOwn.mem rfl rfl (by have hc : (Lib.contains kwB.data.toList ((sp1 ++ ⟨(Lib.toUpperA (s.extract n (n + runN wordB (dr s n))).data.toList).toArray⟩) ++ sp1).data.toList) = Lib.contains kwB.data.toList (padL (Lib.toUpperA ((dr s n).take (runN wordB (dr s n))))) := (by rw [Z5M, Z5L, Z1n]); rw [hc] at ht13; have hl : ((s.extract n (n + runN wordB (dr s n))).size : Int) = (((dr s n).take (runN wordB (dr s n))).length : Int) := (by rw [← Z1w, Z1n]); rw [hl] at ht18; unfold wordL; rw [if_neg (by rw [ht13]; simp), if_neg (by rw [decide_eq_false ht18]; simp), Z1n]) (by have hc : (Lib.contains kwB.data.toList ((sp1 ++ ⟨(Lib.toUpperA (s.extract n (n + runN wordB (dr s n))).data.toList).toArray⟩) ++ sp1).data.toList) = Lib.contains kwB.data.toList (padL (Lib.toUpperA ((dr s n).take (runN wordB (dr s n))))) := (by rw [Z5M, Z5L, Z1n]); rw [hc] at ht13; have hl : ((s.extract n (n + runN wordB (dr s n))).size : Int) = (((dr s n).take (runN wordB (dr s n))).length : Int) := (by rw [← Z1w, Z1n]); rw [hl] at ht18; unfold wordL; rw [if_neg (by rw [ht13]; simp), if_neg (by rw [decide_eq_false ht18]; simp)]) (by rfl)
theorem Z6P (s : ByteArray) (n : Nat) (hn : n < s.size) (hs : s.size ≤ 2048) : CallM Tryz.prog Z3W Z14 (sv s n) [GF] [] (sv s (n + runN digB (dr s n))) (.tup2 (.is (tv (numL (dr s n)).1)) (.is (.int .i64 (numL (dr s n)).2))) :=
CallM.of (fn := Tryz.f101) Tryz.func101 (n := 58) rfl rfl rfl (fun _ _ => by kernel_rfl) fun E W b0 => by
 repeat apply Sq
 apply Pn
 refine JO.alloc Z2e rfl fun b2 => ?_
 refine Jt (Z2 rfl) rfl ?_
 apply Ni
 repeat first | apply Nx | apply Nb
 refine Sl [0, 2] (.cons rfl (.cons rfl .nil)) ?_
 repeat apply Sq
 apply Pn
 refine Jt (Z2 rfl) rfl ?_
 refine Jt (Z2 rfl) rfl ?_
 apply Ni
 repeat first | apply Nx | apply Nb
 refine Sl [0, 2, 4, 5] (.cons rfl (.cons rfl (.cons rfl (.cons rfl .nil)))) ?_
 have hbl : ((dr s n).take (runN digB (dr s n))).length ≤ 2048 := by rw [List.length_take, Z8n]; omega
 repeat apply Sq
 apply Pn
 refine Jt (Z0 rfl) rfl ?_
 refine JO.md (Z7p rfl rfl (Z4K digB _ ZgU s n (by omega) (by omega)) (by repeat first | exact .here | apply Ut) (by simp) (.sub rfl (Sub.funT (fun _ => trivial)) .nil)) (by rfl) rfl ?_
 refine Jt (Zgs Zl Z1Q Z7x rfl) rfl ?_
 refine JO.openSl (s := 11) rfl (fun a len cap bb bo hlen ha => ?_)
 have hlen2 : ((dr s n).take (runN digB (dr s n))).length = len := (by rw [← hlen, Z1n])
 subst hlen2
 refine Jt (Zq Z1Q rfl) rfl ?_
 refine Jt (Z0 rfl) rfl ?_
 apply Ni
 repeat first | apply Nx | apply Nb
 refine Sl [0, 2, 4, 5, 11, 12, 13] (.cons rfl (.cons rfl (.cons rfl (.cons rfl (.cons rfl (.cons rfl (.cons rfl .nil))))))) ?_
 repeat apply Sq
 apply Bk
 repeat apply Sq
 refine J.loopG (α := Nat × Int × Int) (fun z => [(0, .is (.pointer (some ⟨b0, 0, none⟩))), (2, .is (.pointer (some ⟨b2, 0, none⟩))), (4, .is (.int .i64 z.2.1)), (5, .is (.int .i64 z.2.2)), (11, .is (.slice a ((dr s n).take (runN digB (dr s n))).length cap)), (12, .is (.int .i64 (((dr s n).take (runN digB (dr s n))).length : Nat))), (13, .is (.int .i64 (z.1 : Nat)))]) (fun z => [⟨b2, Z22, .is (tv t3D)⟩, ⟨b0, Z14, .is (sv s (n + runN digB (dr s n)))⟩]) (fun z => fun _ => True) (fun z => z.1 ≤ ((dr s n).take (runN digB (dr s n))).length ∧ (((dr s n).take (runN digB (dr s n))).take z.1).foldl numStep (0, 0) = z.2) (fun z => ((dr s n).take (runN digB (dr s n))).length - z.1) (0, 0, 0) [0, 2, 4, 5, 11, 12, 13] (.cons rfl (.cons rfl (.cons rfl (.cons rfl (.cons rfl (.cons rfl (.cons rfl .nil))))))) rfl (fun _ => trivial) ⟨by omega, rfl⟩ fun ⟨k, m, e⟩ ⟨hk, hf⟩ => ?_
 try dsimp only
 try dsimp only at m
 try dsimp only at e
 try dsimp only at hk
 try dsimp only at hf
 repeat apply Sq
 apply Pn
 refine Jt (Z1h rfl rfl) rfl ?_
 apply Ni
 repeat first | apply Nx | apply Nb
 refine Sl [0, 2, 4, 5, 11, 12, 13, 14] (.cons rfl (.cons rfl (.cons rfl (.cons rfl (.cons rfl (.cons rfl (.cons rfl (.cons rfl .nil)))))))) ?_
 repeat apply Sq
 refine Cd rfl (fun ht14 => ?_) (fun ht14 => ?_)
 ·
  try simp only [dT, dF] at ht14
  apply Sk
  repeat first | apply Nx | apply Nb
  repeat apply Sq
  apply Bk
  repeat apply Sq
  apply Pn
  refine Jt (Za ZcV rfl (ha (by omega)) rfl (by omega) (by omega)) rfl ?_
  refine Jt (ZI (enc := bC) (sz := 1) (xs := (s.extract n (n + runN digB (dr s n))).data.toList) (len := ((dr s n).take (runN digB (dr s n))).length) (i := k) (j := 0) (y := ((dr s n).take (runN digB (dr s n))).getD k 0) Zgu rfl (by repeat first | exact Mh | apply Mt) (ha (by omega)) (by rw [Z1n]; exact ZiD (by omega)) (by simp) rfl) rfl ?_
  refine Jt (Z2 rfl) rfl ?_
  apply Ni
  repeat first | apply Nx | apply Nb
  refine Sl [0, 2, 4, 5, 7, 11, 12, 13] (.cons rfl (.cons rfl (.cons rfl (.cons rfl (.cons rfl (.cons rfl (.cons rfl (.cons rfl .nil)))))))) ?_
  repeat apply Sq
  apply Pn
  refine Jt (Z0 rfl) rfl ?_
  refine Jt (Z9M rfl rfl) rfl ?_
  refine Jt (Zfj ⟨_, Z7x⟩ ZgT rfl) rfl ?_
  refine Jt (Z2 rfl) rfl ?_
  apply Ni
  repeat first | apply Nx | apply Nb
  refine Sl [0, 2, 4, 5, 8, 11, 12, 13] (.cons rfl (.cons rfl (.cons rfl (.cons rfl (.cons rfl (.cons rfl (.cons rfl (.cons rfl .nil)))))))) ?_
  repeat apply Sq
  apply Pn
  refine Jt (Z0 rfl) rfl ?_
  refine Jt (Z0 rfl) rfl ?_
  refine Jt (Z9M rfl rfl) rfl ?_
  refine Jt (ZiB rfl rfl (by decide)) rfl ?_
  refine Jt (Z2O rfl rfl) rfl ?_
  apply Ni
  repeat first | apply Nx | apply Nb
  refine Sl [0, 2, 4, 5, 8, 11, 12, 13, 24] (.cons rfl (.cons rfl (.cons rfl (.cons rfl (.cons rfl (.cons rfl (.cons rfl (.cons rfl (.cons rfl .nil))))))))) ?_
  repeat apply Sq
  refine Cd rfl (fun ht24 => ?_) (fun ht24 => ?_)
  ·
   try simp only [dT, dF] at ht24
   repeat apply Sq
   apply Pn
   refine Jt (Z2 rfl) rfl ?_
   apply Ni
   repeat first | apply Nx | apply Nb
   refine Sl [0, 2, 4, 5, 8, 11, 12, 13] (.cons rfl (.cons rfl (.cons rfl (.cons rfl (.cons rfl (.cons rfl (.cons rfl (.cons rfl .nil)))))))) ?_
   repeat apply Sq
   apply Pn
   refine Jt (Z0 rfl) rfl ?_
   refine Jt (ZfP rfl rfl) rfl ?_
   refine Jt (Z0 rfl) rfl ?_
   refine Jt (Z9G rfl rfl) rfl ?_
   refine Jt (Z2 rfl) rfl ?_
   apply Ni
   repeat first | apply Nx | apply Nb
   refine Sl [0, 2, 4, 5, 11, 12, 13] (.cons rfl (.cons rfl (.cons rfl (.cons rfl (.cons rfl (.cons rfl (.cons rfl .nil))))))) ?_
   repeat apply Sq
   apply Pn
   refine Jt (ZB (cc := ((k + 1 : Nat) : Int)) rfl rfl (by omega) (by omega) (by omega)) rfl ?_
   refine Jt (Z0 rfl) rfl ?_
   apply Ni
   repeat refine JX.normal_block ?_
   refine JX.roundG (x := ⟨k, m, e⟩) (k + 1, (numStep (m, e) (((dr s n).take (runN digB (dr s n))).getD k 0)).1, 35) ?_ ?_ [0, 2, 4, 5, 11, 12, 13] ?_ ?_ ?_ ?_
   · exact ⟨by omega, by rw [ZaU numStep (by omega), hf]; simp only [numStep]; rw [if_pos (decide_eq_true ht24)]⟩
   · exact (by simp only; omega)
   · exact (.cons rfl (.cons rfl (.cons rfl (.cons rfl (.cons rfl (.cons rfl (.cons rfl .nil)))))))
   · repeat (first | exact .all | exact .nil | refine Has.own (by repeat first | exact .here | apply Tl.past | apply Tl.there) ?_ | refine Has.cons (by repeat (first | exact .here | apply Pk.past | apply Pk.there)) ?_)
   · exact fun G hG => by repeat (first | exact hG | refine List.mem_cons_of_mem _ ?_)
   · exact fun _ _ _ => fun _ _ => trivial
  ·
   try simp only [dT, dF] at ht24
   apply Sk
   repeat first | apply Nx | apply Nb
   repeat apply Sq
   apply Pn
   refine Jt (Z0 rfl) rfl ?_
   refine Jt (ZfP rfl rfl) rfl ?_
   refine Jt (Z0 rfl) rfl ?_
   refine Jt (Z9G rfl rfl) rfl ?_
   refine Jt (Z2 rfl) rfl ?_
   apply Ni
   repeat first | apply Nx | apply Nb
   refine Sl [0, 2, 4, 5, 11, 12, 13] (.cons rfl (.cons rfl (.cons rfl (.cons rfl (.cons rfl (.cons rfl (.cons rfl .nil))))))) ?_
   repeat apply Sq
   apply Pn
   refine Jt (ZB (cc := ((k + 1 : Nat) : Int)) rfl rfl (by omega) (by omega) (by omega)) rfl ?_
   refine Jt (Z0 rfl) rfl ?_
   apply Ni
   repeat refine JX.normal_block ?_
   refine JX.roundG (x := ⟨k, m, e⟩) (k + 1, (numStep (m, e) (((dr s n).take (runN digB (dr s n))).getD k 0)).1, e) ?_ ?_ [0, 2, 4, 5, 11, 12, 13] ?_ ?_ ?_ ?_
   · exact ⟨by omega, by rw [ZaU numStep (by omega), hf]; simp only [numStep]; rw [if_neg (by rw [decide_eq_false ht24]; simp)]⟩
   · exact (by simp only; omega)
   · exact (.cons rfl (.cons rfl (.cons rfl (.cons rfl (.cons rfl (.cons rfl (.cons rfl .nil)))))))
   · repeat (first | exact .all | exact .nil | refine Has.own (by repeat first | exact .here | apply Tl.past | apply Tl.there) ?_ | refine Has.cons (by repeat (first | exact .here | apply Pk.past | apply Pk.there)) ?_)
   · exact fun G hG => by repeat (first | exact hG | refine List.mem_cons_of_mem _ ?_)
   · exact fun _ _ _ => fun _ _ => trivial
 ·
  try simp only [dT, dF] at ht14
  repeat apply Sq
  refine J.exit ?_
  repeat first | refine Ht ?_ | refine Ms rfl ?_ | refine Ep ?_
  repeat first | apply Nx | apply Nb
  have hfe : ((dr s n).take (runN digB (dr s n))).foldl numStep (0, 0) = (m, e) := (by have h1 : ((dr s n).take (runN digB (dr s n))).take k = ((dr s n).take (runN digB (dr s n))) := List.take_of_length_le (by omega); rw [h1] at hf; exact hf)
  have hh : headP letB ((dr s n).drop (runN digB (dr s n))) = (decide (((n + runN digB (dr s n) : Nat) : Int) < s.size) && letterF (sb s (n + runN digB (dr s n)))) := by rw [Z7f]; exact Zhc letB s _
  repeat apply Sq
  refine J.reg0 hmx (by kernel_rfl) (by kernel_rfl) ?_
  refine Rq (Z0 rfl) ?_
  refine Rq (Z5 rfl) ?_
  refine Rq (Z1 Zc rfl) ?_
  refine Rq (Z4 ZA rfl rfl) ?_
  refine Rq (Z0 rfl) ?_
  refine Rq (Z5 rfl) ?_
  refine Rq (Z1 ZD rfl) ?_
  refine Rq (Z4 Zu rfl rfl) ?_
  refine Rq (Z2Y Zl rfl) ?_
  refine Rq (Z1h rfl rfl) ?_
  refine Rq (Z0 rfl) ?_
  refine Rg rfl rfl rfl (fun hg => Z0 (.inl rfl)) ?_
  refine Rg rfl rfl rfl (fun hg => Z5 (.inr ⟨_, rfl, id⟩)) ?_
  refine Rg rfl rfl rfl (fun hg => Z1 ZD (.inr ⟨_, rfl, id⟩)) ?_
  refine Rg rfl rfl rfl (fun hg => Z4 Zu (.inr ⟨_, rfl, id⟩) rfl) ?_
  refine Rg rfl rfl rfl (fun hg => Z0 (.inl rfl)) ?_
  refine Rg rfl rfl rfl (fun hg => Z5 (.inr ⟨_, rfl, id⟩)) ?_
  refine Rg rfl rfl rfl (fun hg => Z1 Zc (.inr ⟨_, rfl, id⟩)) ?_
  refine Rg rfl rfl rfl (fun hg => Z4 ZA (.inr ⟨_, rfl, id⟩) rfl) ?_
  refine Rg rfl rfl rfl (fun hg => Z2P Zl (.inr ⟨_, rfl, id⟩) (.inr ⟨_, rfl, id⟩) (by have h := hg; simp only [decide_eq_true_eq] at h; omega) (by have h := hg; simp only [decide_eq_true_eq] at h; omega)) ?_
  refine Rg rfl rfl rfl (fun hg => ZK (.inl rfl) (Z5N (sb s (n + runN digB (dr s n)))) (.one (.inr ⟨_, rfl, id⟩) .nil)) ?_
  refine Rq (Zy rfl rfl rfl id) ?_
  apply Rn
  refine FinS.nil0 ?_
  repeat first | apply Nx | apply Nb
  refine Sl [2, 4, 5, 51] (.cons rfl (.cons rfl (.cons rfl (.cons rfl .nil)))) ?_
  repeat apply Sq
  refine Cd rfl (fun ht51 => ?_) (fun ht51 => ?_)
  ·
   try simp only [dT, dF] at ht51
   repeat apply Sq
   apply Pn
   refine Jt (Z2 rfl) rfl ?_
   apply Ni
   repeat first | apply Nx | apply Nb
   refine Sl [2, 4, 5] (.cons rfl (.cons rfl (.cons rfl .nil))) ?_
   repeat apply Sq
   apply Pn
   refine Jt (Z0 rfl) rfl ?_
   refine Jt (Z1J rfl rfl) rfl ?_
   apply Ni
   repeat first | apply Nx | apply Nb
   refine Sl [2, 4, 5, 53] (.cons rfl (.cons rfl (.cons rfl (.cons rfl .nil)))) ?_
   repeat apply Sq
   refine Cd rfl (fun ht53 => ?_) (fun ht53 => ?_)
   ·
    try simp only [dT, dF] at ht53
    repeat apply Sq
    apply Pn
    refine Jt (Zv (cs := [_, _, _]) Z1k .nil rfl rfl) rfl ?_
    refine Jt (Z0 rfl) rfl ?_
    refine JO.m (Z3 rfl rfl (by repeat first | exact .here | apply Ut) (by first | exact cI rfl rfl | exact cE) (by first | exact cI rfl rfl | exact cE | exact cO) Z17) (by rfl) ?_
    refine Jt (Z2 rfl) rfl ?_
    apply Ni
    repeat first | apply Nx | apply Nb
    refine Sl [2, 3] (.cons rfl (.cons rfl .nil)) ?_
    repeat apply Sq
    apply Rt
    repeat first | apply Rp | apply Rb
    exact JX.retMC1is rfl HasOwn.mem rfl ZW HasOwn.mem rfl rfl (by have hE : numE (dr s n) = 30 := (by unfold numE; rw [hh]; rw [if_pos ht51]); unfold numL; rw [hE, if_pos ht53]; rfl) (by have hE : numE (dr s n) = 30 := (by unfold numE; rw [hh]; rw [if_pos ht51]); unfold numL; rw [hE, if_pos ht53]) (by rfl)
   ·
    try simp only [dT, dF] at ht53
    apply Sk
    repeat first | apply Nx | apply Nb
    repeat apply Sq
    apply Pn
    refine Jt (Z0 rfl) rfl ?_
    refine Jt (Zv (cs := [_, _, _]) Z1k (.cons rfl (.cons rfl .nil)) rfl rfl) rfl ?_
    refine JO.m (Z3 rfl rfl (by repeat first | exact .here | apply Ut) (by first | exact cI rfl rfl | exact cE) (by first | exact cI rfl rfl | exact cE | exact cO) Z17) (by rfl) ?_
    refine Jt (Z2 rfl) rfl ?_
    apply Ni
    repeat first | apply Nx | apply Nb
    refine Sl [2, 3] (.cons rfl (.cons rfl .nil)) ?_
    repeat apply Sq
    apply Rt
    repeat first | apply Rp | apply Rb
    exact JX.retMC1is rfl HasOwn.mem rfl ZW HasOwn.mem rfl rfl (by have hE : numE (dr s n) = 30 := (by unfold numE; rw [hh]; rw [if_pos ht51]); unfold numL; rw [hE, if_neg (by rw [ht53]; simp), hfe]) (by have hE : numE (dr s n) = 30 := (by unfold numE; rw [hh]; rw [if_pos ht51]); unfold numL; rw [hE, if_neg (by rw [ht53]; simp)]) (by rfl)
  ·
   try simp only [dT, dF] at ht51
   apply Sk
   repeat first | apply Nx | apply Nb
   repeat apply Sq
   apply Pn
   refine Jt (Z0 rfl) rfl ?_
   refine Jt (Z1J rfl rfl) rfl ?_
   apply Ni
   repeat first | apply Nx | apply Nb
   refine Sl [2, 4, 5, 53] (.cons rfl (.cons rfl (.cons rfl (.cons rfl .nil)))) ?_
   repeat apply Sq
   refine Cd rfl (fun ht53 => ?_) (fun ht53 => ?_)
   ·
    try simp only [dT, dF] at ht53
    repeat apply Sq
    apply Pn
    refine Jt (Zv (cs := [_, _, _]) Z1k .nil rfl rfl) rfl ?_
    refine Jt (Z0 rfl) rfl ?_
    refine JO.m (Z3 rfl rfl (by repeat first | exact .here | apply Ut) (by first | exact cI rfl rfl | exact cE) (by first | exact cI rfl rfl | exact cE | exact cO) Z17) (by rfl) ?_
    refine Jt (Z2 rfl) rfl ?_
    apply Ni
    repeat first | apply Nx | apply Nb
    refine Sl [2, 3] (.cons rfl (.cons rfl .nil)) ?_
    repeat apply Sq
    apply Rt
    repeat first | apply Rp | apply Rb
    exact JX.retMC1is rfl HasOwn.mem rfl ZW HasOwn.mem rfl rfl (by have hE : numE (dr s n) = e := (by unfold numE; rw [hh]; rw [if_neg (by rw [ht51]; simp), hfe]); unfold numL; rw [hE, if_pos ht53]; rfl) (by have hE : numE (dr s n) = e := (by unfold numE; rw [hh]; rw [if_neg (by rw [ht51]; simp), hfe]); unfold numL; rw [hE, if_pos ht53]) (by rfl)
   ·
    try simp only [dT, dF] at ht53
    apply Sk
    repeat first | apply Nx | apply Nb
    repeat apply Sq
    apply Pn
    refine Jt (Z0 rfl) rfl ?_
    refine Jt (Zv (cs := [_, _, _]) Z1k (.cons rfl (.cons rfl .nil)) rfl rfl) rfl ?_
    refine JO.m (Z3 rfl rfl (by repeat first | exact .here | apply Ut) (by first | exact cI rfl rfl | exact cE) (by first | exact cI rfl rfl | exact cE | exact cO) Z17) (by rfl) ?_
    refine Jt (Z2 rfl) rfl ?_
    apply Ni
    repeat first | apply Nx | apply Nb
    refine Sl [2, 3] (.cons rfl (.cons rfl .nil)) ?_
    repeat apply Sq
    apply Rt
    repeat first | apply Rp | apply Rb
    exact JX.retMC1is rfl HasOwn.mem rfl ZW HasOwn.mem rfl rfl (by have hE : numE (dr s n) = e := (by unfold numE; rw [hh]; rw [if_neg (by rw [ht51]; simp), hfe]); unfold numL; rw [hE, if_neg (by rw [ht53]; simp), hfe]) (by have hE : numE (dr s n) = e := (by unfold numE; rw [hh]; rw [if_neg (by rw [ht51]; simp), hfe]); unfold numL; rw [hE, if_neg (by rw [ht53]; simp)]) (by rfl)
theorem Z7B (s : ByteArray) (n : Nat) (hn : n < s.size) (hs : s.size ≤ 2048) : CallM Tryz.prog Z4I Z14 (sv s n) [GF] [] (sv s (n + (signL (dr s n)).2)) (.tup2 (.is (tv (signL (dr s n)).1.1)) (.is (.int .i64 (signL (dr s n)).1.2))) :=
CallM.of (fn := Tryz.f103) Tryz.func103 (n := 66) rfl rfl rfl (fun _ _ => by kernel_rfl) fun E W b0 => by
  repeat apply Sq
  apply Pn
  refine JO.alloc Z2e rfl fun b2 => ?_
  refine Jt (Z2 rfl) rfl ?_
  apply Ni
  repeat first | apply Nx | apply Nb
  refine Sl [0, 2] (.cons rfl (.cons rfl .nil)) ?_
  repeat apply Sq
  apply Pn
  refine Jt (Z2 rfl) rfl ?_
  apply Ni
  repeat first | apply Nx | apply Nb
  refine Sl [0, 2, 4] (.cons rfl (.cons rfl (.cons rfl .nil))) ?_
  repeat apply Sq
  apply Bk
  repeat apply Sq
  refine J.loopG (α := Nat) (fun q => [(0, .is (.pointer (some ⟨b0, 0, none⟩))), (2, .is (.pointer (some ⟨b2, 0, none⟩))), (4, .is (.int .i64 (q : Nat)))]) (fun q => [⟨b2, Z22, .is (tv t3D)⟩, ⟨b0, Z14, .is (sv s n)⟩]) (fun q => fun _ => True) (fun q => q ≤ 2 ∧ (q < 2 → tryL (dr s n) 2 = false) ∧ (q < 1 → tryL (dr s n) 1 = false)) (fun q => q) 2 [0, 2, 4] (.cons rfl (.cons rfl (.cons rfl .nil))) rfl (fun _ => trivial) ⟨by omega, fun h => absurd h (by omega), fun h => absurd h (by omega)⟩ fun q ⟨hq, h2, h1⟩ => ?_
  try dsimp only
  try dsimp only at hq
  try dsimp only at h2
  try dsimp only at h1
  repeat apply Sq
  apply Pn
  refine Jt (Z0 rfl) rfl ?_
  refine Jt (Z2O rfl rfl) rfl ?_
  apply Ni
  repeat first | apply Nx | apply Nb
  refine Sl [0, 2, 4, 6] (.cons rfl (.cons rfl (.cons rfl (.cons rfl .nil)))) ?_
  repeat apply Sq
  refine Cd rfl (fun ht6 => ?_) (fun ht6 => ?_)
  ·
    try simp only [dT, dF] at ht6
    apply Sk
    repeat first | apply Nx | apply Nb
    repeat apply Sq
    apply Bk
    repeat apply Sq
    refine J.reg0 hmx (by kernel_rfl) (by kernel_rfl) ?_
    refine Rq (Z0 rfl) ?_
    refine Rq (Z5 rfl) ?_
    refine Rq (Z1 Zc rfl) ?_
    refine Rq (Z4 ZA rfl rfl) ?_
    refine Rq (Z0 rfl) ?_
    refine Rq (ZB (cc := ((n + q : Nat) : Int)) rfl rfl (by omega) (by omega) (by omega)) ?_
    refine Rq (Z0 rfl) ?_
    refine Rq (Z5 rfl) ?_
    refine Rq (Z1 ZD rfl) ?_
    refine Rq (Z4 Zu rfl rfl) ?_
    refine Rq (Z2Y Zl rfl) ?_
    refine Rq (Z31 rfl rfl) ?_
    refine Rq (Z0 rfl) ?_
    refine Rg rfl rfl rfl (fun hg => Z0 (.inl rfl)) ?_
    refine Rg rfl rfl rfl (fun hg => Z5 (.inr ⟨_, rfl, id⟩)) ?_
    refine Rg rfl rfl rfl (fun hg => Z1 ZD (.inr ⟨_, rfl, id⟩)) ?_
    refine Rg rfl rfl rfl (fun hg => Z4 Zu (.inr ⟨_, rfl, id⟩) rfl) ?_
    refine Rg rfl rfl rfl (fun hg => Z0 (.inl rfl)) ?_
    refine Rg rfl rfl rfl (fun hg => Z5 (.inr ⟨_, rfl, id⟩)) ?_
    refine Rg rfl rfl rfl (fun hg => Z1 Zc (.inr ⟨_, rfl, id⟩)) ?_
    refine Rg rfl rfl rfl (fun hg => Z4 ZA (.inr ⟨_, rfl, id⟩) rfl) ?_
    refine Rg rfl rfl rfl (fun hg => Z0 (.inl rfl)) ?_
    refine Rg rfl rfl rfl (fun hg => Z5 (.inr ⟨_, rfl, id⟩)) ?_
    refine Rg rfl rfl rfl (fun hg => Z1 Zc (.inr ⟨_, rfl, id⟩)) ?_
    refine Rg rfl rfl rfl (fun hg => Z4 ZA (.inr ⟨_, rfl, id⟩) rfl) ?_
    refine Rg rfl rfl rfl (fun hg => Z0 (.inl rfl)) ?_
    refine Rg rfl rfl rfl (fun hg => ZB (cc := ((n + q : Nat) : Int)) (.inr ⟨_, rfl, id⟩) (.inr ⟨_, rfl, id⟩) (by omega) (by omega) (by omega)) ?_
    refine Rg rfl rfl rfl (fun hg => Z8g Zl (.inr ⟨_, rfl, id⟩) (.inr ⟨_, rfl, id⟩) (.inr ⟨_, rfl, id⟩) (by omega) (by omega) (by have h := hg; simp only [decide_eq_true_eq] at h; omega)) ?_
    refine Rg rfl rfl rfl (fun hg => Z7a (.inl rfl) (.inr ⟨_, rfl, id⟩) (Zd8 (by have h1 := Z4W s n q; show (s.extract n (n + q)).size ≤ 2048; omega))) ?_
    refine Rg rfl rfl rfl (fun hg => Z7a (.inr ⟨_, rfl, id⟩) (.inl rfl) (Zdd (by have h1 := Z4W s n q; show (s.extract n (n + q)).size ≤ 2048; omega))) ?_
    refine Rg rfl rfl rfl (fun hg => Z2o (.inl rfl) (Z5l sgB ((sp1 ++ s.extract n (n + q)) ++ sp1) (by decide)) (by simp) (.one (.inl rfl) (.one (.inr ⟨_, rfl, id⟩) .nil))) ?_
    refine Rq (Zy rfl rfl rfl id) ?_
    apply Rn
    refine FinS.nil0 ?_
    repeat first | apply Nx | apply Nb
    refine Sl [0, 2, 4, 40] (.cons rfl (.cons rfl (.cons rfl (.cons rfl .nil)))) ?_
    repeat apply Sq
    refine Cd rfl (fun ht40 => ?_) (fun ht40 => ?_)
    ·
      try simp only [dT, dF] at ht40
      have ht1 : tryL (dr s n) q = true := (Zez hn q).trans ht40
      have hsg : signL (dr s n) = ((⟨5, bl ((dr s n).take q), 0⟩, 0), q) := by
        unfold signL
        rcases (show q = 1 ∨ q = 2 by omega) with rfl | rfl
        · rw [if_neg (by rw [h2 (by omega)]; simp), if_pos ht1]
        · rw [if_pos ht1]
      have hfit : n + q ≤ s.size := by have h := ht40; simp only [Bool.and_eq_true, decide_eq_true_eq] at h; omega
      repeat apply Sq
      apply Pn
      refine Jt (Z0 rfl) rfl ?_
      refine Jt (Z5 rfl) rfl ?_
      refine Jt (Z1 Zc rfl) rfl ?_
      refine Jt (Z4 ZA rfl rfl) rfl ?_
      refine Jt (Z0 rfl) rfl ?_
      refine Jt (ZB (cc := ((n + q : Nat) : Int)) rfl rfl (by omega) (by omega) (by omega)) rfl ?_
      refine Jt (Z5 rfl) rfl ?_
      refine Jt (Z1 Zc rfl) rfl ?_
      refine JO.m (Zf (cs' := [_, _]) rfl rfl (by repeat first | exact .here | apply Ut) rfl rfl rfl rfl Z38) (by rfl) ?_
      apply Ni
      repeat first | apply Nx | apply Nb
      refine Sl [0, 2, 4] (.cons rfl (.cons rfl (.cons rfl .nil))) ?_
      repeat apply Sq
      refine J.front b2 (by repeat (first | exact .here | apply Front.there)) ?_
      refine J.reg1 hmx (by kernel_rfl) (by kernel_rfl) ?_
      refine Rq (Z0 rfl) ?_
      refine Rq (Z5 rfl) ?_
      refine Rq (Z1 ZD rfl) ?_
      refine Rq (Z4 Zu rfl rfl) ?_
      refine Rq (Z0 rfl) ?_
      refine Rq (Z5 rfl) ?_
      refine Rq (Z1 Zc rfl) ?_
      refine Rq (Z4 ZA rfl rfl) ?_
      refine Rq (Z0 rfl) ?_
      refine Rq (ZdN (cc := (n : Int)) rfl rfl (by omega) (by omega) (by omega)) ?_
      refine Rq (Z0 rfl) ?_
      refine Rq (Z5 rfl) ?_
      refine Rq (Z1 Zc rfl) ?_
      refine Rq (Z4 ZA rfl rfl) ?_
      refine Rq (Z8g Zl rfl rfl rfl (by omega) (by omega) (by omega)) ?_
      refine Rq (Zv (cs := [_, _, _]) Z1k (.cons rfl (.cons rfl .nil)) rfl rfl) ?_
      refine RT.m rfl (Z3 rfl rfl (by repeat first | exact .here | apply Ut) (by first | exact cI rfl rfl | exact cE) (by first | exact cI rfl rfl | exact cE | exact cO) Z17) (by rfl) ?_
      refine Rq (Z2 rfl) ?_
      apply Rn
      refine FinS.nil1 ?_
      repeat first | apply Nx | apply Nb
      refine Sl [2, 3] (.cons rfl (.cons rfl .nil)) ?_
      repeat apply Sq
      apply Rt
      repeat first | apply Rp | apply Rb
      exact JX.retMC1is rfl HasOwn.mem rfl ZW HasOwn.mem rfl rfl (by rw [hsg]; show Value.agg #[.int .i64 5, .string (s.extract n (n + q)), .int .i64 0] = _; rw [Zff]) (by rw [hsg]) (by rw [hsg])
    ·
      try simp only [dT, dF] at ht40
      apply Sk
      repeat first | apply Nx | apply Nb
      have ht2 : tryL (dr s n) q = false := (Zez hn q).trans ht40
      repeat apply Sq
      apply Pn
      refine Jt (Z0 rfl) rfl ?_
      refine Jt (ZdN (cc := ((q - 1 : Nat) : Int)) rfl rfl (by omega) (by omega) (by omega)) rfl ?_
      refine Jt (Z2 rfl) rfl ?_
      apply Ni
      repeat refine JX.normal_block ?_
      refine JX.roundG (x := q) (q - 1) ?_ ?_ [0, 2, 4] ?_ ?_ ?_ ?_
      · exact ⟨by omega, fun h => (by rcases (show q = 1 ∨ q = 2 by omega) with rfl | rfl; exact h2 (by omega); exact ht2), fun h => (by have : q = 1 := (by omega); subst this; exact ht2)⟩
      · exact (by omega)
      · exact (.cons rfl (.cons rfl (.cons rfl .nil)))
      · repeat (first | exact .all | exact .nil | refine Has.own (by repeat first | exact .here | apply Tl.past | apply Tl.there) ?_ | refine Has.cons (by repeat (first | exact .here | apply Pk.past | apply Pk.there)) ?_)
      · exact fun G hG => by repeat (first | exact hG | refine List.mem_cons_of_mem _ ?_)
      · exact fun _ _ _ => fun _ _ => trivial
  ·
    try simp only [dT, dF] at ht6
    repeat apply Sq
    refine J.exit ?_
    repeat first | refine Ht ?_ | refine Ms rfl ?_ | refine Ep ?_
    repeat first | apply Nx | apply Nb
    have hsg : signL (dr s n) = ((t3D, 30), 0) := by unfold signL; rw [if_neg (by rw [h2 (by omega)]; simp), if_neg (by rw [h1 (by omega)]; simp)]
    repeat apply Sq
    apply Pn
    refine Jt (Zv (cs := [_, _, _]) Z1k .nil rfl rfl) rfl ?_
    refine JO.m (Z3 rfl rfl (by repeat first | exact .here | apply Ut) (by first | exact cI rfl rfl | exact cE) (by first | exact cI rfl rfl | exact cE | exact cO) Z17) (by rfl) ?_
    refine Jt (Z2 rfl) rfl ?_
    apply Ni
    repeat first | apply Nx | apply Nb
    refine Sl [2, 3] (.cons rfl (.cons rfl .nil)) ?_
    repeat apply Sq
    apply Rt
    repeat first | apply Rp | apply Rb
    exact JX.retMC1is rfl HasOwn.mem rfl ZW HasOwn.mem rfl rfl (by rw [hsg]; rfl) (by rw [hsg]) (by rw [hsg]; rfl)
end Go.Proofs.YtbedigkncjbggaaGreatDoor
