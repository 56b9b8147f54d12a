/- Two expressions, two frames: the same just if they are. No condition. -/
import Derived.Test.YtbedigkncjbggaaGreatDoorXQ14
import Derived.Test.YtbedigkncjbggaaGreatDoorXG8
import Derived.Test.YtbedigkncjbggaaGreatDoorXQ3
import Derived.Test.YtbedigkncjbggaaGreatDoorRows
import Derived.Deep.DeepHandedRow
import Derived.Deep.DeepWitnessRowRef
import Derived.Lib.LaidCaseMet
import Derived.Lib.LaidIn
import Derived.PinnedBridge
import Derived.ProofKit
import Derived.Test.YtbedigkncjbggaaGreatDoorXG1
import Derived.Stop.LaidErr
import Derived.Lib.LaidTab
import Derived.Lib.SmallJoins
import Derived.Shelf.Vars
import Derived.JoinedCond
import Derived.ChangeMaps5
import Derived.Test.YtbedigkncjbggaaGreatDoorCards
import Derived.Test.YtbedigkncjbggaaGreatDoorTie
import Derived.Test.YtbedigkncjbggaaGreatDoorXQ5
import Derived.Test.YtbedigkncjbggaaGreatDoorXQ1
set_option maxRecDepth 20000
namespace Go.Proofs.YtbedigkncjbggaaGreatDoor
open Go Go.Vc
open Go.Pz
abbrev SameG (x y : Ex) : Prop := CallTy Tryz.prog Z7e [.rep (ExR x), .rep (ExR y)] (.is (.bool (eqD x y)))
theorem Zl4 {x y : Ex} (h1 : x.K = y.K) (h2 : x.VK = y.VK) (h3 : x.VN = y.VN) (h4 : x.VS = y.VS) (h5 : x.TB = y.TB) (h6 : x.NM = y.NM) (h7 : x.SL = y.SL) : eqD x.KS y.KS = eqD x y :=
 ZkW ⟨fun h => by rw [x.eta, y.eta, h1, h2, h3, h4, h5, h6, h7, h], fun h => by rw [h]⟩
theorem bv_f {b : Bool} (h : b = false) : Value.bool false = .bool b := by rw [h]
theorem bv_t {b : Bool} (h : b = true) : Value.bool true = .bool b := by rw [h]
theorem Zkw {x y : Ex} (h : ((((x.K != y.K || !veq x.VK x.VN x.VS y.VK y.VN y.VS) || !seq x.TB y.TB) || !seq x.NM y.NM) || x.SL != y.SL) = false) : x.K = y.K ∧ x.VK = y.VK ∧ x.VN = y.VN ∧ x.VS = y.VS ∧ x.TB = y.TB ∧ x.NM = y.NM ∧ x.SL = y.SL := by
 simp only [Bool.or_eq_false_iff, bne_eq_false_iff_eq, Bool.not_eq_false', veq, Bool.and_eq_true, beq_iff_eq, Z67] at h
 exact ⟨h.1.1.1.1, h.1.1.1.2.1, h.1.1.1.2.2.1, h.1.1.1.2.2.2, h.1.1.2, h.1.2, h.2⟩
theorem ZkN {x y : Ex} (h : ((((x.K != y.K || !veq x.VK x.VN x.VS y.VK y.VN y.VS) || !seq x.TB y.TB) || !seq x.NM y.NM) || x.SL != y.SL) = true) : x ≠ y := by
 rintro rfl
 simp [veq, seq] at h
def fR (s : Pz.St) : List Nat := s.rows.map List.length
def fI (s : Pz.St) : List Bool := s.items.map (·.all)
def fF (s : Pz.St) : List (ByteArray × ByteArray × Nat) := s.from_.map fun x => (x.tb, x.nm, x.on.length)
def fO (s : Pz.St) : List Bool := s.order.map (·.desc)
noncomputable def frD (s t : Pz.St) : Bool := eqD (s.cols, s.names, fR s, fI s, fF s, fO s) (t.cols, t.names, fR t, fI t, fF t, fO t)
theorem Ziv {s t : Pz.St} (h1 : s.cols = t.cols) (h2 : s.names = t.names) (h3 : fR s = fR t) (h4 : fI s = fI t) (h5 : fF s = fF t) (h6 : fO s = fO t) : frD s t = true := Z7E (by rw [h1, h2, h3, h4, h5, h6])
theorem ZlF {s t : Pz.St} (h : s.cols ≠ t.cols) : frD s t = false := Z4i fun e => h (by injection e)
theorem Zlr {s t : Pz.St} (h : s.names ≠ t.names) : frD s t = false := Z4i fun e => h (by injection e with _ e; injection e)
theorem Zl7 {s t : Pz.St} (h : fR s ≠ fR t) : frD s t = false := Z4i fun e => h (by injection e with _ e; injection e with _ e; injection e)
theorem Zlk {s t : Pz.St} (h : fI s ≠ fI t) : frD s t = false := Z4i fun e => h (by injection e with _ e; injection e with _ e; injection e with _ e; injection e)
theorem Zle {s t : Pz.St} (h : fF s ≠ fF t) : frD s t = false := Z4i fun e => h (by injection e with _ e; injection e with _ e; injection e with _ e; injection e with _ e; injection e)
theorem ZlB {s t : Pz.St} (h : fO s ≠ fO t) : frD s t = false := Z4i fun e => h (by injection e with _ e; injection e with _ e; injection e with _ e; injection e with _ e; injection e)
theorem Zai {α : Type} {l m : List α} {i : Nat} {a b : α} (h1 : l[i]? = some a) (h2 : m[i]? = some b) (h : a ≠ b) : l ≠ m := fun e => h (by rw [e, h2] at h1; injection h1 with h1; exact h1.symm)
theorem Z3B {α β : Type} {l : List α} {f : α → β} {i : Nat} (h : i < l.length) : (l.map f)[i]? = some (f l[i]) := by rw [List.getElem?_map, List.getElem?_eq_getElem h]; rfl
theorem Zkf {c d : Col} (h : ceq c.nm c.ty c.nn c.un d.nm d.ty d.nn d.un = true) : c = d := by
 cases c; cases d
 simp only [ceq, Bool.and_eq_true, Z67, beq_iff_eq] at h
 obtain ⟨rfl, rfl, rfl, rfl⟩ := h
 rfl
theorem Z6n (xs ys : List Ex) (hl : xs.length ≤ 4096) (hk : ∀ x ∈ xs, ∀ y, SameG x y) : CallTy Tryz.prog Z6I [.rep (ExsR xs), .rep (ExsR ys)] (.is (.bool (eqD xs ys))) :=
 CallTy.of (fn := Tryz.f41) Tryz.func41 (n := 27) rfl rfl rfl (fun _ _ => by kernel_rfl) fun E W => by
 refine J.openExs (s := 0) rfl (fun a len cap b o hlen ha => ?_)
 refine J.openExs (s := 1) rfl (fun a2 len2 cap2 b2 o2 hlen2 ha2 => ?_)
 subst hlen hlen2
 refine vQ ?_
 refine Ja rfl ?_
 refine vP [0, 1] ?_
 refine Jm rfl (Jq (Zo Zl rfl) ?_)
 refine Jm rfl (Jq (Zo Zl rfl) ?_)
 refine Jq (Z25 rfl rfl) ?_
 refine vS [0, 1, 10] ?_
 refine yC rfl (fun ht10 => ?_) (fun ht10 => ?_)
 try simp only [yd, yf] at ht10
 refine vQ ?_
 refine Ja rfl ?_
 refine vS [4] ?_
 refine vR ?_
 exact JX.ret1is rfl rfl (bv_f (Z4i fun e => absurd ht10 (by rw [e]; simp)))
 try simp only [yd, yf] at ht10
 apply yK
 repeat first|apply yX|apply yB
 have hle : ys.length = xs.length := by simp at ht10; omega
 refine vQ ?_
 refine Ja rfl ?_
 refine vS [0, 1, 5] ?_
 apply yk
 repeat apply yQ
 refine J.loopF (α := Nat) (fun s => [(0, .is (.slice a xs.length cap)), (1, .is (.slice a2 ys.length cap2)), (5, .is (.int .i64 (s : Nat)))]) (fun s => s ≤ xs.length ∧ xs.take s = ys.take s) (fun s => xs.length - s) 0 [0, 1, 5] (.cons rfl (.cons rfl (.cons rfl .nil))) ⟨Nat.zero_le _, by rw [List.take_zero, List.take_zero]⟩ fun i ⟨hi, htk⟩ => ?_
 refine vQ ?_
 refine Jm rfl (Jm rfl (Jq (Zo Zl rfl) ?_))
 refine Jq (ZW rfl rfl) ?_
 refine vS [0, 1, 5, 14] ?_
 refine yC rfl (fun ht14 => ?_) (fun ht14 => ?_)
 try simp only [yd, yf] at ht14
 apply yK
 refine vN ?_
 apply yk
 have hxi : i < xs.length := by omega
 have hyi : i < ys.length := by omega
 repeat apply yQ
 refine J.reg0 hmx qK qK ?_
 refine yz (Z2 rfl) ?_
 refine yz (Z2 rfl) ?_
 refine yz (Z7 Z1X rfl (ha qM) rfl qM qM) ?_
 refine yz (Z3s (i := i) (len := xs.length) (kid := xs.getD i ex0) Za rfl qI (ha qM) (Z2Y qM) qM) ?_
 refine yz (Z2 rfl) ?_
 refine yz (Z2 rfl) ?_
 refine yz (Z7 Z1X rfl (ha2 qM) rfl qM qM) ?_
 refine yz (Z3s (i := i) (len := ys.length) (kid := ys.getD i ex0) Za rfl qI (ha2 qM) (Z2Y qM) qM) ?_
 refine yz (ZL rfl (hk _ (Z2X qM) _) (.one rfl (.one rfl .nil))) ?_
 refine yz (Z6p rfl) ?_
 apply yn
 refine FinS.nil0 ?_
 refine vS [0, 1, 5, 26] ?_
 refine yC rfl (fun ht26 => ?_) (fun ht26 => ?_)
 try simp only [yd, yf] at ht26
 refine vQ ?_
 refine Ja rfl ?_
 refine vS [4] ?_
 refine vR ?_
 exact JX.ret1is rfl rfl (bv_f (Z4i fun e => absurd ht26 (by rw [e, Z7E rfl]; decide)))
 try simp only [yd, yf] at ht26
 apply yK
 refine vN ?_
 apply yN
 refine Jm rfl (Jq (ZE (cc := ((i + 1 : Nat) : Int)) rfl rfl qM qM qM) ?_)
 refine Ja rfl ?_
 apply yI
 repeat refine JX.normal_block ?_
 refine JX.roundS (i + 1) ?_ ?_ [0, 1, 5] ?_ ?_ ?_
 · exact ⟨by omega, Z5b htk (by rw [Z2Y hxi, Z2Y hyi, show xs.getD i ex0 = ys.getD i ex0 from Z8w.1 (by simpa using ht26)])⟩
 · exact qM
 · exact qS
 · exact qB
 · exact qB
 try simp only [yd, yf] at ht14
 repeat apply yQ
 refine J.exit ?_
 repeat first|refine yH ?_|refine yM rfl ?_|refine yE ?_
 refine vN ?_
 apply yN
 refine Ja rfl ?_
 refine vS [4] ?_
 refine vR ?_
 exact JX.ret1is rfl rfl (bv_t (Z7E (Z59 htk qM qM)))
theorem Z9E (x y : Ex) (hS : CallTy Tryz.prog Z6I [.rep (ExsR x.KS), .rep (ExsR y.KS)] (.is (.bool (eqD x.KS y.KS)))) : CallTy Tryz.prog Z7e [.rep (ExR x), .rep (ExR y)] (.is (.bool (eqD x y))) :=
 CallTy.of (fn := Tryz.f17) Tryz.func17 (n := 43) rfl rfl rfl (fun _ _ => by kernel_rfl) fun E W => by
 refine J.openA (s := 0) rfl (fun a len cap b o hlen ha => ?_)
 refine J.openA (s := 1) rfl (fun a2 len2 cap2 b2 o2 hlen2 ha2 => ?_)
 refine vQ ?_
 refine JO.box rfl rfl fun b2 => ?_
 refine JO.box rfl rfl fun b3 => ?_
 refine Ja rfl ?_
 refine vS [2, 3] ?_
 refine J.reg0 hmx qK qK ?_
 refine yz (Z0 Z28 rfl) ?_
 refine yz (Z1 Zt rfl rfl) ?_
 refine yz (Z0 Z28 rfl) ?_
 refine yz (Z1 Zt rfl rfl) ?_
 refine yz (Z25 rfl rfl) ?_
 refine yz (Z2 rfl) ?_
 refine yg rfl rfl rfl (fun hg => Z0 Z6F (.inl rfl)) ?_
 refine yg rfl rfl rfl (fun hg => ZI (cs := [_, _, _]) Z4n (qR rfl) rfl rfl) ?_
 refine yg rfl rfl rfl (fun hg => Z0 Z6F (.inl rfl)) ?_
 refine yg rfl rfl rfl (fun hg => ZI (cs := [_, _, _]) Z4n (qR rfl) rfl rfl) ?_
 refine yg rfl rfl rfl (fun hg => Zj2 ZcJ (qR rfl) (qR rfl)) ?_
 refine yz (Z11 rfl rfl rfl id) ?_
 refine yz (Z2 rfl) ?_
 refine yg rfl rfl rfl (fun hg => Z0 Z43 (.inl rfl)) ?_
 refine yg rfl rfl rfl (fun hg => Z1 Z9 (qR rfl) rfl) ?_
 refine yg rfl rfl rfl (fun hg => Z0 Z43 (.inl rfl)) ?_
 refine yg rfl rfl rfl (fun hg => Z1 Z9 (qR rfl) rfl) ?_
 refine yg rfl rfl rfl (fun hg => Z3m (qR rfl) (qR rfl)) ?_
 refine yz (Z11 rfl rfl rfl id) ?_
 refine yz (Z2 rfl) ?_
 refine yg rfl rfl rfl (fun hg => Z0 Z3l (.inl rfl)) ?_
 refine yg rfl rfl rfl (fun hg => Z1 Z9 (qR rfl) rfl) ?_
 refine yg rfl rfl rfl (fun hg => Z0 Z3l (.inl rfl)) ?_
 refine yg rfl rfl rfl (fun hg => Z1 Z9 (qR rfl) rfl) ?_
 refine yg rfl rfl rfl (fun hg => Z3m (qR rfl) (qR rfl)) ?_
 refine yz (Z11 rfl rfl rfl id) ?_
 refine yz (Z2 rfl) ?_
 refine yg rfl rfl rfl (fun hg => Z0 Z9j (.inl rfl)) ?_
 refine yg rfl rfl rfl (fun hg => Z1 Zt (qR rfl) rfl) ?_
 refine yg rfl rfl rfl (fun hg => Z0 Z9j (.inl rfl)) ?_
 refine yg rfl rfl rfl (fun hg => Z1 Zt (qR rfl) rfl) ?_
 refine yg rfl rfl rfl (fun hg => Z25 (qR rfl) (qR rfl)) ?_
 refine yz (Z11 rfl rfl rfl id) ?_
 apply yn
 refine FinS.nil0 ?_
 refine vS [2, 3, 37] ?_
 refine yC rfl (fun ht37 => ?_) (fun ht37 => ?_)
 try simp only [yd, yf] at ht37
 refine vQ ?_
 refine Ja rfl ?_
 refine vS [4] ?_
 refine vR ?_
 exact JX.ret1is rfl rfl (bv_f (Z4i (ZkN ht37)))
 try simp only [yd, yf] at ht37
 apply yK
 refine vN ?_
 apply yN
 refine Jq (Z0 Z2U rfl) ?_
 refine Jq (Z1 Zh rfl rfl) ?_
 refine Jq (Z0 Z2U rfl) ?_
 refine Jq (Z1 Zh rfl rfl) ?_
 refine Jq (ZL rfl (hS) (.sub rfl (Sub.exsK qI) (.sub rfl (Sub.exsK qI) .nil))) ?_
 refine Ja rfl ?_
 refine vS [4] ?_
 refine vR ?_
 exact JX.ret1is rfl rfl ((by obtain ⟨h1, h2, h3, h4, h5, h6, h7⟩ := Zkw (by simpa using ht37); rw [Zl4 h1 h2 h3 h4 h5 h6 h7]))
theorem Z6H : ∀ (n : Nat) (x : Ex), ect x ≤ n → ect x ≤ 4096 → ∀ y, SameG x y
 | 0, x, h, _, _ => absurd h (by rw [Z2K]; omega)
 | n + 1, x, h, hx, y => Z9E x y (Z6n x.KS y.KS (by have := Zb2 x.KS; rw [Z2K] at hx; omega) fun z hz => Z6H n z (by have := Z42 hz; rw [Z2K] at h; omega) (by have := Z42 hz; rw [Z2K] at hx; omega))
set_option maxHeartbeats 2000000 in
theorem Zc2 (N N2 : Nat) (S0 S1 : Pz.St) (hsm : SmS S0) (kc : S0.cols.length = S1.cols.length) (kn : S0.names.length = S1.names.length) (kr : S0.rows.length = S1.rows.length) (ki : S0.items.length = S1.items.length) (kf : S0.from_.length = S1.from_.length) (ko : S0.order.length = S1.order.length) : CallTy Tryz.prog ZcP [.rep (StR N S0), .rep (StR N2 S1)] (.is (.bool (frD S0 S1))) :=
 CallTy.of (fn := Tryz.f40) Tryz.func40 (n := 159) rfl rfl rfl (fun _ _ => by kernel_rfl) fun E W => by
 obtain ⟨hb1, hb2, hb3, hb4, hb5, hb6, hb7, hb8, hb9, hb10, hb11⟩ := hsm
 refine J.openSt (s := 0) rfl (fun vc vn vr vi vf vw vg vo vs => ?_)
 refine J.shapeE (xs := S0.cols) (v := vc) qI (fun pc ac lc cc bc oc hpc hvc hlc hac => ?_)
 refine J.shapeE (xs := S0.names) (v := vn) qI (fun pn an ln cn bn on hpn hvn hln han => ?_)
 refine J.shapeE (xs := S0.rows) (v := vr) qI (fun pr ar lr cr br or_ hpr hvr hlr har => ?_)
 refine J.shapeE (xs := S0.items) (v := vi) qI (fun pi ai li ci bi oi hpi hvi hli hai => ?_)
 refine J.shapeE (xs := S0.from_) (v := vf) qI (fun pf af lf cf bf of_ hpf hvf hlf haf => ?_)
 refine J.shapeE (xs := S0.order) (v := vo) qI (fun po ao lo co bo oo hpo hvo hlo hao => ?_)
 refine J.pureF (F := CelF coE pc) qI (fun puc => ?_)
 refine J.pureF (F := CelF stE pn) qI (fun pun => ?_)
 refine J.pureF (F := CelF rwE pr) qI (fun pur => ?_)
 refine J.pureF (F := CelF itE pi) qI (fun pui => ?_)
 refine J.pureF (F := CelF srE pf) qI (fun puf => ?_)
 refine J.pureF (F := CelF kyE po) qI (fun puo => ?_)
 subst hvc hvn hvr hvi hvf hvo
 have nc : pc.length = S0.cols.length := by rw [← hpc, List.length_map]
 have nn : pn.length = S0.names.length := by rw [← hpn, List.length_map]
 have nr : pr.length = S0.rows.length := by rw [← hpr, List.length_map]
 have ni : pi.length = S0.items.length := by rw [← hpi, List.length_map]
 have nf : pf.length = S0.from_.length := by rw [← hpf, List.length_map]
 have no : po.length = S0.order.length := by rw [← hpo, List.length_map]
 refine J.openSt (s := 1) rfl (fun vcz vnz vrz viz vfz vwz vgz voz vsz => ?_)
 refine J.shapeE (xs := S1.cols) (v := vcz) qI (fun pcz acz lcz ccz bcz ocz hpcz hvcz hlcz hacz => ?_)
 refine J.shapeE (xs := S1.names) (v := vnz) qI (fun pnz anz lnz cnz bnz onz hpnz hvnz hlnz hanz => ?_)
 refine J.shapeE (xs := S1.rows) (v := vrz) qI (fun prz arz lrz crz brz orz_ hprz hvrz hlrz harz => ?_)
 refine J.shapeE (xs := S1.items) (v := viz) qI (fun piz aiz liz ciz biz oiz hpiz hviz hliz haiz => ?_)
 refine J.shapeE (xs := S1.from_) (v := vfz) qI (fun pfz afz lfz cfz bfz ofz_ hpfz hvfz hlfz hafz => ?_)
 refine J.shapeE (xs := S1.order) (v := voz) qI (fun poz aoz loz coz boz ooz hpoz hvoz hloz haoz => ?_)
 refine J.pureF (F := CelF coE pcz) qI (fun pucz => ?_)
 refine J.pureF (F := CelF stE pnz) qI (fun punz => ?_)
 refine J.pureF (F := CelF rwE prz) qI (fun purz => ?_)
 refine J.pureF (F := CelF itE piz) qI (fun puiz => ?_)
 refine J.pureF (F := CelF srE pfz) qI (fun pufz => ?_)
 refine J.pureF (F := CelF kyE poz) qI (fun puoz => ?_)
 subst hvcz hvnz hvrz hviz hvfz hvoz
 have ncz : pcz.length = S1.cols.length := by rw [← hpcz, List.length_map]
 have nnz : pnz.length = S1.names.length := by rw [← hpnz, List.length_map]
 have nrz : prz.length = S1.rows.length := by rw [← hprz, List.length_map]
 have niz : piz.length = S1.items.length := by rw [← hpiz, List.length_map]
 have nfz : pfz.length = S1.from_.length := by rw [← hpfz, List.length_map]
 have noz : poz.length = S1.order.length := by rw [← hpoz, List.length_map]
 refine vQ ?_
 refine JO.box rfl rfl fun b2 => ?_
 refine JO.box rfl rfl fun b3 => ?_
 refine Ja rfl ?_
 refine vP [2, 3] ?_
 refine Ja rfl ?_
 refine vS [2, 3, 5] ?_
 apply yk
 repeat apply yQ
 refine J.loopF (α := Nat) (fun k => [(2, _), (3, _), (5, .is (.int .i64 (k : Nat)))]) (fun k => k ≤ lc ∧ (S0.cols).take k = (S1.cols).take k) (fun k => lc - k) 0 [2, 3, 5] (.cons rfl (.cons rfl (.cons rfl .nil))) ⟨Nat.zero_le _, by rw [List.take_zero, List.take_zero]⟩ fun i ⟨hi, htk⟩ => ?_
 refine vQ ?_
 refine Jm rfl (Jq (Z0 Z2Z rfl) ?_)
 refine Jq (Z1 Z2A rfl rfl) ?_
 refine Jq (Zo Z2B rfl) ?_
 refine Jq (ZW rfl rfl) ?_
 refine vS [2, 3, 5, 15] ?_
 refine yC rfl (fun ht15 => ?_) (fun ht15 => ?_)
 try simp only [yd, yf] at ht15
 apply yK
 refine vN ?_
 apply yk
 have hbi : i < S0.cols.length := by omega
 have hbiz : i < S1.cols.length := by omega
 repeat apply yQ
 refine J.reg0 hmx qK qK ?_
 refine yz (Z0 Z2Z rfl) ?_
 refine yz (Z1 Z2A rfl rfl) ?_
 refine yz (Z2 rfl) ?_
 refine yz (Z7 Z5c rfl (hac qM) rfl qM qM) ?_
 refine yz (Z2W (sz := 4) (i := i) (enc := Cel.cs) (cs := [.string (S0.cols[i]'hbi).nm, .int .i64 (S0.cols[i]'hbi).ty, .bool (S0.cols[i]'hbi).nn, .bool (S0.cols[i]'hbi).un]) Z1w rfl qI (hac qM) (List.getElem?_eq_getElem (by omega : i < pc.length)) qM (ZeO puc hpc _ _)) ?_
 refine yz (Z0 Z2Z rfl) ?_
 refine yz (Z1 Z2A rfl rfl) ?_
 refine yz (Z2 rfl) ?_
 refine yz (Z7 Z5c rfl (hacz qM) rfl qM qM) ?_
 refine yz (Z2W (sz := 4) (i := i) (enc := Cel.cs) (cs := [.string (S1.cols[i]'hbiz).nm, .int .i64 (S1.cols[i]'hbiz).ty, .bool (S1.cols[i]'hbiz).nn, .bool (S1.cols[i]'hbiz).un]) Z1w rfl qI (hacz qM) (List.getElem?_eq_getElem (by omega : i < pcz.length)) qM (ZeO pucz hpcz _ _)) ?_
 refine yz (Zjs ZbX rfl rfl) ?_
 apply yn
 refine FinS.nil0 ?_
 refine vS [2, 3, 5, 28] ?_
 refine yC rfl (fun ht28 => ?_) (fun ht28 => ?_)
 try simp only [yd, yf] at ht28
 refine vQ ?_
 refine Ja rfl ?_
 refine vS [4] ?_
 refine vR ?_
 exact JX.ret1is rfl rfl ((by rw [ZlF (Zai (List.getElem?_eq_getElem hbi) (List.getElem?_eq_getElem hbiz) (fun e => absurd ht28 (by rw [e]; simp [ceq, seq])))]))
 try simp only [yd, yf] at ht28
 apply yK
 refine vN ?_
 apply yN
 refine Jm rfl (Jq (ZE (cc := ((i + 1 : Nat) : Int)) rfl rfl qM qM qM) ?_)
 refine Ja rfl ?_
 apply yI
 repeat refine JX.normal_block ?_
 refine JX.roundS (i + 1) ?_ ?_ [2, 3, 5] ?_ ?_ ?_
 · exact ⟨by omega, Z5b htk (by rw [List.getElem?_eq_getElem hbi, List.getElem?_eq_getElem hbiz]; rw [show S0.cols[i]'hbi = S1.cols[i]'hbiz from Zkf (by simpa using ht28)])⟩
 · exact qM
 · exact qS
 · exact qB
 · exact qB
 try simp only [yd, yf] at ht15
 repeat apply yQ
 refine J.exit ?_
 repeat first|refine yH ?_|refine yM rfl ?_|refine yE ?_
 repeat first|apply yX|apply yB
 have e1 : S0.cols = S1.cols := Z59 htk qM qM
 refine vQ ?_
 refine Ja rfl ?_
 refine vS [2, 3, 6] ?_
 apply yk
 repeat apply yQ
 refine J.loopF (α := Nat) (fun k => [(2, _), (3, _), (6, .is (.int .i64 (k : Nat)))]) (fun k => k ≤ ln ∧ (S0.names).take k = (S1.names).take k) (fun k => ln - k) 0 [2, 3, 6] (.cons rfl (.cons rfl (.cons rfl .nil))) ⟨Nat.zero_le _, by rw [List.take_zero, List.take_zero]⟩ fun i ⟨hi, htk⟩ => ?_
 refine vQ ?_
 refine Jm rfl (Jq (Z0 Z1u rfl) ?_)
 refine Jq (Z1 Z2m rfl rfl) ?_
 refine Jq (Zo ZX rfl) ?_
 refine Jq (ZW rfl rfl) ?_
 refine vS [2, 3, 6, 33] ?_
 refine yC rfl (fun ht33 => ?_) (fun ht33 => ?_)
 try simp only [yd, yf] at ht33
 apply yK
 refine vN ?_
 apply yk
 have hbi : i < S0.names.length := by omega
 have hbiz : i < S1.names.length := by omega
 repeat apply yQ
 refine J.reg0 hmx qK qK ?_
 refine yz (Z0 Z1u rfl) ?_
 refine yz (Z1 Z2m rfl rfl) ?_
 refine yz (Z2 rfl) ?_
 refine yz (Z7 Z1B rfl (han qM) rfl qM qM) ?_
 refine yz (ZJ (sz := 1) (i := i) (j := 0) (enc := @Cel.cs _ stE) (y := pn[i]) (u := .string (S0.names[i]'hbi)) Z9 rfl qI (han qM) (List.getElem?_eq_getElem (by omega : i < pn.length)) qM (by rw [ZbP pun hpn qM qM]; rfl)) ?_
 refine yz (Z0 Z1u rfl) ?_
 refine yz (Z1 Z2m rfl rfl) ?_
 refine yz (Z2 rfl) ?_
 refine yz (Z7 Z1B rfl (hanz qM) rfl qM qM) ?_
 refine yz (ZJ (sz := 1) (i := i) (j := 0) (enc := @Cel.cs _ stE) (y := pnz[i]) (u := .string (S1.names[i]'hbiz)) Z9 rfl qI (hanz qM) (List.getElem?_eq_getElem (by omega : i < pnz.length)) qM (by rw [ZbP punz hpnz qM qM]; rfl)) ?_
 refine yz (Z3m rfl rfl) ?_
 apply yn
 refine FinS.nil0 ?_
 refine vS [2, 3, 6, 46] ?_
 refine yC rfl (fun ht46 => ?_) (fun ht46 => ?_)
 try simp only [yd, yf] at ht46
 refine vQ ?_
 refine Ja rfl ?_
 refine vS [4] ?_
 refine vR ?_
 exact JX.ret1is rfl rfl ((by rw [Zlr (Zai (List.getElem?_eq_getElem hbi) (List.getElem?_eq_getElem hbiz) (fun e => absurd ht46 (by rw [e]; simp [seq])))]))
 try simp only [yd, yf] at ht46
 apply yK
 refine vN ?_
 apply yN
 refine Jm rfl (Jq (ZE (cc := ((i + 1 : Nat) : Int)) rfl rfl qM qM qM) ?_)
 refine Ja rfl ?_
 apply yI
 repeat refine JX.normal_block ?_
 refine JX.roundS (i + 1) ?_ ?_ [2, 3, 6] ?_ ?_ ?_
 · exact ⟨by omega, Z5b htk (by rw [List.getElem?_eq_getElem hbi, List.getElem?_eq_getElem hbiz]; rw [show S0.names[i]'hbi = S1.names[i]'hbiz from Z67.1 (by simpa using ht46)])⟩
 · exact qM
 · exact qS
 · exact qB
 · exact qB
 try simp only [yd, yf] at ht33
 repeat apply yQ
 refine J.exit ?_
 repeat first|refine yH ?_|refine yM rfl ?_|refine yE ?_
 repeat first|apply yX|apply yB
 have e2 : S0.names = S1.names := Z59 htk qM qM
 refine vQ ?_
 refine Ja rfl ?_
 refine vS [2, 3, 7] ?_
 apply yk
 repeat apply yQ
 refine J.loopF (α := Nat) (fun k => [(2, _), (3, _), (7, .is (.int .i64 (k : Nat)))]) (fun k => k ≤ lr ∧ (fR S0).take k = (fR S1).take k) (fun k => lr - k) 0 [2, 3, 7] (.cons rfl (.cons rfl (.cons rfl .nil))) ⟨Nat.zero_le _, by rw [List.take_zero, List.take_zero]⟩ fun i ⟨hi, htk⟩ => ?_
 refine vQ ?_
 refine Jm rfl (Jq (Z0 Z1v rfl) ?_)
 refine Jq (Z1 Z1m rfl rfl) ?_
 refine Jq (Zo Z1t rfl) ?_
 refine Jq (ZW rfl rfl) ?_
 refine vS [2, 3, 7, 51] ?_
 refine yC rfl (fun ht51 => ?_) (fun ht51 => ?_)
 try simp only [yd, yf] at ht51
 apply yK
 refine vN ?_
 apply yk
 have hbi : i < S0.rows.length := by omega
 have hbiz : i < S1.rows.length := by omega
 obtain ⟨ax, cx, hcx⟩ := ZeN pur hpr (i := i) qM qM
 obtain ⟨axz, cxz, hcxz⟩ := ZeN purz hprz (i := i) qM qM
 repeat apply yQ
 refine J.reg0 hmx qK qK ?_
 refine yz (Z0 Z1v rfl) ?_
 refine yz (Z1 Z1m rfl rfl) ?_
 refine yz (Z2 rfl) ?_
 refine yz (Z7 Z2s rfl (har qM) rfl qM qM) ?_
 refine yz (ZJ (sz := 1) (i := i) (j := 0) (enc := @Cel.cs _ rwE) (y := pr[i]) (u := .slice ax (S0.rows[i]'hbi).length cx) Zh rfl qI (har qM) (List.getElem?_eq_getElem (by omega : i < pr.length)) qM (by rw [hcx]; rfl)) ?_
 refine yz (Zo Zl rfl) ?_
 refine yz (Z0 Z1v rfl) ?_
 refine yz (Z1 Z1m rfl rfl) ?_
 refine yz (Z2 rfl) ?_
 refine yz (Z7 Z2s rfl (harz qM) rfl qM qM) ?_
 refine yz (ZJ (sz := 1) (i := i) (j := 0) (enc := @Cel.cs _ rwE) (y := prz[i]) (u := .slice axz (S1.rows[i]'hbiz).length cxz) Zh rfl qI (harz qM) (List.getElem?_eq_getElem (by omega : i < prz.length)) qM (by rw [hcxz]; rfl)) ?_
 refine yz (Zo Zl rfl) ?_
 refine yz (Z25 rfl rfl) ?_
 apply yn
 refine FinS.nil0 ?_
 refine vS [2, 3, 7, 66] ?_
 refine yC rfl (fun ht66 => ?_) (fun ht66 => ?_)
 try simp only [yd, yf] at ht66
 refine vQ ?_
 refine Ja rfl ?_
 refine vS [4] ?_
 refine vR ?_
 exact JX.ret1is rfl rfl ((by rw [Zl7 (Zai (Z3B hbi) (Z3B hbiz) (fun e => absurd ht66 (by rw [e]; simp)))]))
 try simp only [yd, yf] at ht66
 apply yK
 refine vN ?_
 apply yN
 refine Jm rfl (Jq (ZE (cc := ((i + 1 : Nat) : Int)) rfl rfl qM qM qM) ?_)
 refine Ja rfl ?_
 apply yI
 repeat refine JX.normal_block ?_
 refine JX.roundS (i + 1) ?_ ?_ [2, 3, 7] ?_ ?_ ?_
 · exact ⟨by omega, Z5b htk (by unfold fR; rw [Z3B hbi, Z3B hbiz]; have hq := ht66; simp at hq; rw [show S0.rows[i].length = S1.rows[i].length by omega])⟩
 · exact qM
 · exact qS
 · exact qB
 · exact qB
 try simp only [yd, yf] at ht51
 repeat apply yQ
 refine J.exit ?_
 repeat first|refine yH ?_|refine yM rfl ?_|refine yE ?_
 repeat first|apply yX|apply yB
 have e3 : fR S0 = fR S1 := Z59 htk (by unfold fR; rw [List.length_map]; omega) (by unfold fR; rw [List.length_map]; omega)
 refine vQ ?_
 refine Ja rfl ?_
 refine vS [2, 3, 8] ?_
 apply yk
 repeat apply yQ
 refine J.loopF (α := Nat) (fun k => [(2, _), (3, _), (8, .is (.int .i64 (k : Nat)))]) (fun k => k ≤ li ∧ (fI S0).take k = (fI S1).take k) (fun k => li - k) 0 [2, 3, 8] (.cons rfl (.cons rfl (.cons rfl .nil))) ⟨Nat.zero_le _, by rw [List.take_zero, List.take_zero]⟩ fun i ⟨hi, htk⟩ => ?_
 refine vQ ?_
 refine Jm rfl (Jq (Z0 Z1T rfl) ?_)
 refine Jq (Z1 Z1Y rfl rfl) ?_
 refine Jq (Zo Z2h rfl) ?_
 refine Jq (ZW rfl rfl) ?_
 refine vS [2, 3, 8, 71] ?_
 refine yC rfl (fun ht71 => ?_) (fun ht71 => ?_)
 try simp only [yd, yf] at ht71
 apply yK
 refine vN ?_
 apply yk
 have hbi : i < S0.items.length := by omega
 have hbiz : i < S1.items.length := by omega
 repeat apply yQ
 refine J.reg0 hmx qK qK ?_
 refine yz (Z0 Z1T rfl) ?_
 refine yz (Z1 Z1Y rfl rfl) ?_
 refine yz (Z2 rfl) ?_
 refine yz (Z7 Z3P rfl (hai qM) rfl qM qM) ?_
 refine yz (Z0 Z6E rfl) ?_
 refine yz (ZJ (sz := 9) (i := i) (j := 0) (enc := @Cel.cs _ itE) (y := pi[i]) (u := .bool (S0.items[i]'hbi).all) Z3r rfl qI (hai qM) (List.getElem?_eq_getElem (by omega : i < pi.length)) qM (ZeK pui hpi qM qM)) ?_
 refine yz (Z0 Z1T rfl) ?_
 refine yz (Z1 Z1Y rfl rfl) ?_
 refine yz (Z2 rfl) ?_
 refine yz (Z7 Z3P rfl (haiz qM) rfl qM qM) ?_
 refine yz (Z0 Z6E rfl) ?_
 refine yz (ZJ (sz := 9) (i := i) (j := 0) (enc := @Cel.cs _ itE) (y := piz[i]) (u := .bool (S1.items[i]'hbiz).all) Z3r rfl qI (haiz qM) (List.getElem?_eq_getElem (by omega : i < piz.length)) qM (ZeK puiz hpiz qM qM)) ?_
 refine yz (Zc9 Zal rfl rfl) ?_
 apply yn
 refine FinS.nil0 ?_
 refine vS [2, 3, 8, 86] ?_
 refine yC rfl (fun ht86 => ?_) (fun ht86 => ?_)
 try simp only [yd, yf] at ht86
 refine vQ ?_
 refine Ja rfl ?_
 refine vS [4] ?_
 refine vR ?_
 exact JX.ret1is rfl rfl ((by rw [Zlk (Zai (Z3B hbi) (Z3B hbiz) (fun e => absurd ht86 (by rw [e]; simp)))]))
 try simp only [yd, yf] at ht86
 apply yK
 refine vN ?_
 apply yN
 refine Jm rfl (Jq (ZE (cc := ((i + 1 : Nat) : Int)) rfl rfl qM qM qM) ?_)
 refine Ja rfl ?_
 apply yI
 repeat refine JX.normal_block ?_
 refine JX.roundS (i + 1) ?_ ?_ [2, 3, 8] ?_ ?_ ?_
 · exact ⟨by omega, Z5b htk (by unfold fI; rw [Z3B hbi, Z3B hbiz]; have hq := ht86; simp at hq; (try rw [hq]))⟩
 · exact qM
 · exact qS
 · exact qB
 · exact qB
 try simp only [yd, yf] at ht71
 repeat apply yQ
 refine J.exit ?_
 repeat first|refine yH ?_|refine yM rfl ?_|refine yE ?_
 repeat first|apply yX|apply yB
 have e4 : fI S0 = fI S1 := Z59 htk (by unfold fI; rw [List.length_map]; omega) (by unfold fI; rw [List.length_map]; omega)
 refine vQ ?_
 refine Ja rfl ?_
 refine vS [2, 3, 9] ?_
 apply yk
 repeat apply yQ
 refine J.loopF (α := Nat) (fun k => [(2, _), (3, _), (9, .is (.int .i64 (k : Nat)))]) (fun k => k ≤ lf ∧ (fF S0).take k = (fF S1).take k) (fun k => lf - k) 0 [2, 3, 9] (.cons rfl (.cons rfl (.cons rfl .nil))) ⟨Nat.zero_le _, by rw [List.take_zero, List.take_zero]⟩ fun i ⟨hi, htk⟩ => ?_
 refine vQ ?_
 refine Jm rfl (Jq (Z0 Z10 rfl) ?_)
 refine Jq (Z1 ZR rfl rfl) ?_
 refine Jq (Zo Z1Q rfl) ?_
 refine Jq (ZW rfl rfl) ?_
 refine vS [2, 3, 9, 91] ?_
 refine yC rfl (fun ht91 => ?_) (fun ht91 => ?_)
 try simp only [yd, yf] at ht91
 apply yK
 refine vN ?_
 apply yk
 have hbi : i < S0.from_.length := by omega
 have hbiz : i < S1.from_.length := by omega
 obtain ⟨ay, cy, hcy⟩ := ZbQ puf hpf (i := i) qM qM
 obtain ⟨ayz, cyz, hcyz⟩ := ZbQ pufz hpfz (i := i) qM qM
 repeat apply yQ
 refine J.reg0 hmx qK qK ?_
 refine yz (Z0 Z10 rfl) ?_
 refine yz (Z1 ZR rfl rfl) ?_
 refine yz (Z2 rfl) ?_
 refine yz (Z7 Z1I rfl (haf qM) rfl qM qM) ?_
 refine yz (Z0 Z2R rfl) ?_
 refine yz (ZJ (sz := 3) (i := i) (j := 0) (enc := @Cel.cs _ srE) (y := pf[i]) (u := .string (S0.from_[i]'hbi).tb) Z9 rfl qI (haf qM) (List.getElem?_eq_getElem (by omega : i < pf.length)) qM (by rw [hcy]; rfl)) ?_
 refine yz (Z0 Z10 rfl) ?_
 refine yz (Z1 ZR rfl rfl) ?_
 refine yz (Z2 rfl) ?_
 refine yz (Z7 Z1I rfl (hafz qM) rfl qM qM) ?_
 refine yz (Z0 Z2R rfl) ?_
 refine yz (ZJ (sz := 3) (i := i) (j := 0) (enc := @Cel.cs _ srE) (y := pfz[i]) (u := .string (S1.from_[i]'hbiz).tb) Z9 rfl qI (hafz qM) (List.getElem?_eq_getElem (by omega : i < pfz.length)) qM (by rw [hcyz]; rfl)) ?_
 refine yz (Z3m rfl rfl) ?_
 refine yz (Z2 rfl) ?_
 refine yg rfl rfl rfl (fun hg => Z0 Z10 (.inl rfl)) ?_
 refine yg rfl rfl rfl (fun hg => Z1 ZR (qR rfl) rfl) ?_
 refine yg rfl rfl rfl (fun hg => Z2 (.inl rfl)) ?_
 refine yg rfl rfl rfl (fun hg => Z7 Z1I (qR rfl) (haf qM) (qR rfl) qM qM) ?_
 refine yg rfl rfl rfl (fun hg => Z0 Z2q (qR rfl)) ?_
 refine yg rfl rfl rfl (fun hg => ZJ (sz := 3) (i := i) (j := 1) (enc := @Cel.cs _ srE) (y := pf[i]) (u := .string (S0.from_[i]'hbi).nm) Z9 (qR rfl) qI (haf qM) (List.getElem?_eq_getElem (by omega : i < pf.length)) qM (by rw [hcy]; rfl)) ?_
 refine yg rfl rfl rfl (fun hg => Z0 Z10 (.inl rfl)) ?_
 refine yg rfl rfl rfl (fun hg => Z1 ZR (qR rfl) rfl) ?_
 refine yg rfl rfl rfl (fun hg => Z2 (.inl rfl)) ?_
 refine yg rfl rfl rfl (fun hg => Z7 Z1I (qR rfl) (hafz qM) (qR rfl) qM qM) ?_
 refine yg rfl rfl rfl (fun hg => Z0 Z2q (qR rfl)) ?_
 refine yg rfl rfl rfl (fun hg => ZJ (sz := 3) (i := i) (j := 1) (enc := @Cel.cs _ srE) (y := pfz[i]) (u := .string (S1.from_[i]'hbiz).nm) Z9 (qR rfl) qI (hafz qM) (List.getElem?_eq_getElem (by omega : i < pfz.length)) qM (by rw [hcyz]; rfl)) ?_
 refine yg rfl rfl rfl (fun hg => Z3m (qR rfl) (qR rfl)) ?_
 refine yz (Z11 rfl rfl rfl id) ?_
 refine yz (Z2 rfl) ?_
 refine yg rfl rfl rfl (fun hg => Z0 Z10 (.inl rfl)) ?_
 refine yg rfl rfl rfl (fun hg => Z1 ZR (qR rfl) rfl) ?_
 refine yg rfl rfl rfl (fun hg => Z2 (.inl rfl)) ?_
 refine yg rfl rfl rfl (fun hg => Z7 Z1I (qR rfl) (haf qM) (qR rfl) qM qM) ?_
 refine yg rfl rfl rfl (fun hg => Z0 Z1O (qR rfl)) ?_
 refine yg rfl rfl rfl (fun hg => ZJ (sz := 3) (i := i) (j := 2) (enc := @Cel.cs _ srE) (y := pf[i]) (u := .slice ay (S0.from_[i]'hbi).on.length cy) Zh (qR rfl) qI (haf qM) (List.getElem?_eq_getElem (by omega : i < pf.length)) qM (by rw [hcy]; rfl)) ?_
 refine yg rfl rfl rfl (fun hg => Zo Zl (qR rfl)) ?_
 refine yg rfl rfl rfl (fun hg => Z0 Z10 (.inl rfl)) ?_
 refine yg rfl rfl rfl (fun hg => Z1 ZR (qR rfl) rfl) ?_
 refine yg rfl rfl rfl (fun hg => Z2 (.inl rfl)) ?_
 refine yg rfl rfl rfl (fun hg => Z7 Z1I (qR rfl) (hafz qM) (qR rfl) qM qM) ?_
 refine yg rfl rfl rfl (fun hg => Z0 Z1O (qR rfl)) ?_
 refine yg rfl rfl rfl (fun hg => ZJ (sz := 3) (i := i) (j := 2) (enc := @Cel.cs _ srE) (y := pfz[i]) (u := .slice ayz (S1.from_[i]'hbiz).on.length cyz) Zh (qR rfl) qI (hafz qM) (List.getElem?_eq_getElem (by omega : i < pfz.length)) qM (by rw [hcyz]; rfl)) ?_
 refine yg rfl rfl rfl (fun hg => Zo Zl (qR rfl)) ?_
 refine yg rfl rfl rfl (fun hg => Z25 (qR rfl) (qR rfl)) ?_
 refine yz (Z11 rfl rfl rfl id) ?_
 apply yn
 refine FinS.nil0 ?_
 refine vS [2, 3, 9, 138] ?_
 refine yC rfl (fun ht138 => ?_) (fun ht138 => ?_)
 try simp only [yd, yf] at ht138
 refine vQ ?_
 refine Ja rfl ?_
 refine vS [4] ?_
 refine vR ?_
 exact JX.ret1is rfl rfl ((by rw [Zle (Zai (Z3B hbi) (Z3B hbiz) (fun e => absurd ht138 (by injection e with e1 e2; injection e2 with e2 e3; rw [e1, e2, e3]; simp [seq])))]))
 try simp only [yd, yf] at ht138
 apply yK
 refine vN ?_
 apply yN
 refine Jm rfl (Jq (ZE (cc := ((i + 1 : Nat) : Int)) rfl rfl qM qM qM) ?_)
 refine Ja rfl ?_
 apply yI
 repeat refine JX.normal_block ?_
 refine JX.roundS (i + 1) ?_ ?_ [2, 3, 9] ?_ ?_ ?_
 · exact ⟨by omega, Z5b htk (by unfold fF; rw [Z3B hbi, Z3B hbiz]; have hq := ht138; simp [Z67] at hq; rw [hq.1.1, hq.1.2, show (S0.from_[i]).on.length = (S1.from_[i]).on.length by have := hq.2; omega])⟩
 · exact qM
 · exact qS
 · exact qB
 · exact qB
 try simp only [yd, yf] at ht91
 repeat apply yQ
 refine J.exit ?_
 repeat first|refine yH ?_|refine yM rfl ?_|refine yE ?_
 repeat first|apply yX|apply yB
 have e5 : fF S0 = fF S1 := Z59 htk (by unfold fF; rw [List.length_map]; omega) (by unfold fF; rw [List.length_map]; omega)
 refine vQ ?_
 refine Ja rfl ?_
 refine vS [2, 3, 10] ?_
 apply yk
 repeat apply yQ
 refine J.loopF (α := Nat) (fun k => [(2, _), (3, _), (10, .is (.int .i64 (k : Nat)))]) (fun k => k ≤ lo ∧ (fO S0).take k = (fO S1).take k) (fun k => lo - k) 0 [2, 3, 10] (.cons rfl (.cons rfl (.cons rfl .nil))) ⟨Nat.zero_le _, by rw [List.take_zero, List.take_zero]⟩ fun i ⟨hi, htk⟩ => ?_
 refine vQ ?_
 refine Jm rfl (Jq (Z0 Z1p rfl) ?_)
 refine Jq (Z1 Z1S rfl rfl) ?_
 refine Jq (Zo Z2b rfl) ?_
 refine Jq (ZW rfl rfl) ?_
 refine vS [2, 3, 10, 143] ?_
 refine yC rfl (fun ht143 => ?_) (fun ht143 => ?_)
 try simp only [yd, yf] at ht143
 apply yK
 refine vN ?_
 apply yk
 have hbi : i < S0.order.length := by omega
 have hbiz : i < S1.order.length := by omega
 repeat apply yQ
 refine J.reg0 hmx qK qK ?_
 refine yz (Z0 Z1p rfl) ?_
 refine yz (Z1 Z1S rfl rfl) ?_
 refine yz (Z2 rfl) ?_
 refine yz (Z7 Z46 rfl (hao qM) rfl qM qM) ?_
 refine yz (Z0 Z5L rfl) ?_
 refine yz (ZJ (sz := 9) (i := i) (j := 8) (enc := @Cel.cs _ kyE) (y := po[i]) (u := .bool (S0.order[i]'hbi).desc) Z3r rfl qI (hao qM) (List.getElem?_eq_getElem (by omega : i < po.length)) qM (ZeY puo hpo qM qM)) ?_
 refine yz (Z0 Z1p rfl) ?_
 refine yz (Z1 Z1S rfl rfl) ?_
 refine yz (Z2 rfl) ?_
 refine yz (Z7 Z46 rfl (haoz qM) rfl qM qM) ?_
 refine yz (Z0 Z5L rfl) ?_
 refine yz (ZJ (sz := 9) (i := i) (j := 8) (enc := @Cel.cs _ kyE) (y := poz[i]) (u := .bool (S1.order[i]'hbiz).desc) Z3r rfl qI (haoz qM) (List.getElem?_eq_getElem (by omega : i < poz.length)) qM (ZeY puoz hpoz qM qM)) ?_
 refine yz (Zc9 Zal rfl rfl) ?_
 apply yn
 refine FinS.nil0 ?_
 refine vS [2, 3, 10, 158] ?_
 refine yC rfl (fun ht158 => ?_) (fun ht158 => ?_)
 try simp only [yd, yf] at ht158
 refine vQ ?_
 refine Ja rfl ?_
 refine vS [4] ?_
 refine vR ?_
 exact JX.ret1is rfl rfl ((by rw [ZlB (Zai (Z3B hbi) (Z3B hbiz) (fun e => absurd ht158 (by rw [e]; simp)))]))
 try simp only [yd, yf] at ht158
 apply yK
 refine vN ?_
 apply yN
 refine Jm rfl (Jq (ZE (cc := ((i + 1 : Nat) : Int)) rfl rfl qM qM qM) ?_)
 refine Ja rfl ?_
 apply yI
 repeat refine JX.normal_block ?_
 refine JX.roundS (i + 1) ?_ ?_ [2, 3, 10] ?_ ?_ ?_
 · exact ⟨by omega, Z5b htk (by unfold fO; rw [Z3B hbi, Z3B hbiz]; have hq := ht158; simp at hq; (try rw [hq]))⟩
 · exact qM
 · exact qS
 · exact qB
 · exact qB
 try simp only [yd, yf] at ht143
 repeat apply yQ
 refine J.exit ?_
 repeat first|refine yH ?_|refine yM rfl ?_|refine yE ?_
 repeat first|apply yX|apply yB
 have e6 : fO S0 = fO S1 := Z59 htk (by unfold fO; rw [List.length_map]; omega) (by unfold fO; rw [List.length_map]; omega)
 refine vQ ?_
 refine Ja rfl ?_
 refine vS [4] ?_
 refine vR ?_
 exact JX.ret1is rfl rfl ((by rw [Ziv e1 e2 e3 e4 e5 e6]))
theorem Zfa : ∀ {l m : List (List Ex)} {a b : List Ex}, l.map List.length = m.map List.length → l.flatten ++ a = m.flatten ++ b → l = m ∧ a = b
 | [], [], _, _, _, h => ⟨rfl, h⟩
 | [], _ :: _, _, _, h, _ => by cases h
 | _ :: _, [], _, _, h, _ => by cases h
 | x :: l, y :: m, a, b, h, e => by
   simp only [List.map_cons, List.cons.injEq] at h
   rw [List.flatten_cons, List.flatten_cons, List.append_assoc, List.append_assoc] at e
   obtain ⟨e1, e2⟩ := List.append_inj e h.1
   obtain ⟨e3, e4⟩ := Zfa h.2 e2
   exact ⟨by rw [e1, e3], e4⟩
theorem Ze9 : ∀ {l m : List Itm} {a b : List Ex}, l.map (·.all) = m.map (·.all) → l.map (·.ex) ++ a = m.map (·.ex) ++ b → l = m ∧ a = b
 | [], [], _, _, _, h => ⟨rfl, h⟩
 | [], _ :: _, _, _, h, _ => by cases h
 | _ :: _, [], _, _, h, _ => by cases h
 | x :: l, y :: m, a, b, h, e => by
   simp only [List.map_cons, List.cons.injEq] at h
   simp only [List.map_cons, List.cons_append, List.cons.injEq] at e
   obtain ⟨e3, e4⟩ := Ze9 h.2 e.2
   refine ⟨?_, e4⟩
   rw [e3]; congr 1
   cases x; cases y; simp only [Itm.mk.injEq]; exact ⟨h.1, e.1⟩
theorem Zfe : ∀ {l m : List Ky} {a b : List Ex}, l.map (·.desc) = m.map (·.desc) → l.map (·.ex) ++ a = m.map (·.ex) ++ b → l = m ∧ a = b
 | [], [], _, _, _, h => ⟨rfl, h⟩
 | [], _ :: _, _, _, h, _ => by cases h
 | _ :: _, [], _, _, h, _ => by cases h
 | x :: l, y :: m, a, b, h, e => by
   simp only [List.map_cons, List.cons.injEq] at h
   simp only [List.map_cons, List.cons_append, List.cons.injEq] at e
   obtain ⟨e3, e4⟩ := Zfe h.2 e.2
   refine ⟨?_, e4⟩
   rw [e3]; congr 1
   cases x; cases y; simp only [Ky.mk.injEq]; exact ⟨e.1, h.1⟩
theorem Zfq : ∀ {l m : List Pz.Src} {a b : List Ex}, l.map (fun x => (x.tb, x.nm, x.on.length)) = m.map (fun x => (x.tb, x.nm, x.on.length)) → (l.map (·.on)).flatten ++ a = (m.map (·.on)).flatten ++ b → l = m ∧ a = b
 | [], [], _, _, _, h => ⟨rfl, h⟩
 | [], _ :: _, _, _, h, _ => by cases h
 | _ :: _, [], _, _, h, _ => by cases h
 | x :: l, y :: m, a, b, h, e => by
   simp only [List.map_cons, List.cons.injEq, Prod.mk.injEq] at h
   rw [List.map_cons, List.map_cons, List.flatten_cons, List.flatten_cons, List.append_assoc, List.append_assoc] at e
   obtain ⟨e1, e2⟩ := List.append_inj e h.1.2.2
   obtain ⟨e3, e4⟩ := Zfq h.2 e2
   refine ⟨?_, e4⟩
   rw [e3]; congr 1
   cases x; cases y; simp only [Pz.Src.mk.injEq]; exact ⟨h.1.1, h.1.2.1, e1⟩
theorem ZhX {s t : Pz.St} (h1 : s.kind = t.kind) (h2 : s.tb = t.tb) (h3 : s.nm = t.nm) (h4 : s.limit = t.limit) (h5 : s.hash = t.hash) : (((frD s t && ((s.where_.length : Int) == (t.where_.length : Int))) && ((s.group.length : Int) == (t.group.length : Int))) && eqD (exsOf s) (exsOf t)) = eqD s t := by
 by_cases e : s = t
 · subst e
   rw [Ziv rfl rfl rfl rfl rfl rfl, Z7E rfl, Z7E rfl]; simp
 · rw [Z4i e]
   cases hc : (((frD s t && ((s.where_.length : Int) == (t.where_.length : Int))) && ((s.group.length : Int) == (t.group.length : Int))) && eqD (exsOf s) (exsOf t)) with
   | false => rfl
   | true =>
     simp only [Bool.and_eq_true, beq_iff_eq] at hc
     obtain ⟨⟨⟨hf, hw⟩, hg⟩, hx⟩ := hc
     have hf := Z8w.1 hf
     have hx := Z8w.1 hx
     simp only [Prod.mk.injEq] at hf
     obtain ⟨f1, f2, f3, f4, f5, f6⟩ := hf
     unfold exsOf at hx
     simp only [List.append_assoc] at hx
     obtain ⟨x1, hx⟩ := Zfa f3 hx
     obtain ⟨x2, hx⟩ := Ze9 f4 hx
     obtain ⟨x3, hx⟩ := Zfq f5 hx
     obtain ⟨x4, hx⟩ := Zfe f6 hx
     obtain ⟨x5, hx⟩ := List.append_inj hx qM
     obtain ⟨x6, x7⟩ := List.append_inj hx qM
     refine absurd ?_ e
     cases s; cases t
     simp only at *
     subst h1 h2 h3 h4 h5 f1 f2 x1 x2 x3 x4 x5 x6 x7
     rfl
set_option maxHeartbeats 4000000 in
theorem ZcK (N N2 : Nat) (S0 S1 : Pz.St) (hsm : SmS S0) (hsm1 : SmS S1) (hec : ∀ x ∈ exsOf S0, ect x ≤ 4096) : CallTy Tryz.prog Zdl [.rep (StR N S0), .rep (StR N2 S1)] (.is (.bool (eqD S0 S1))) :=
 CallTy.of (fn := Tryz.f15) Tryz.func15 (n := 120) rfl rfl rfl (fun _ _ => by kernel_rfl) fun E W => by
 refine J.openSt (s := 0) rfl (fun vc vn vr vi vf vw vg vo vs => ?_)
 refine J.shapeE (xs := S0.cols) (v := vc) qI (fun pc ac lc cc bc oc hpc hvc hlc hac => ?_)
 refine J.shapeE (xs := S0.names) (v := vn) qI (fun pn an ln cn bn on hpn hvn hln han => ?_)
 refine J.shapeE (xs := S0.rows) (v := vr) qI (fun pr ar lr cr br or_ hpr hvr hlr har => ?_)
 refine J.shapeE (xs := S0.items) (v := vi) qI (fun pi ai li ci bi oi hpi hvi hli hai => ?_)
 refine J.shapeE (xs := S0.from_) (v := vf) qI (fun pf af lf cf bf of_ hpf hvf hlf haf => ?_)
 refine J.shapeE (xs := S0.order) (v := vo) qI (fun po ao lo co bo oo hpo hvo hlo hao => ?_)
 refine J.shapeE (xs := S0.where_) (v := vw) qI (fun pw aw lw cw bw ow hpw hvw hlw haw => ?_)
 refine J.shapeX (xs := S0.group) (v := vg) qI (fun pg ag lg cg bg og hpg hvg hlg hag => ?_)
 refine J.shapeX (xs := S0.sets) (v := vs) qI (fun px ax lx cx bx ox hpx hvx hlx hax => ?_)
 subst hvc hvn hvr hvi hvf hvo hvw hvg hvx
 have nc : lc = S0.cols.length := by rw [← hlc, ← hpc, List.length_map]
 have nn : ln = S0.names.length := by rw [← hln, ← hpn, List.length_map]
 have nr : lr = S0.rows.length := by rw [← hlr, ← hpr, List.length_map]
 have ni : li = S0.items.length := by rw [← hli, ← hpi, List.length_map]
 have nf : lf = S0.from_.length := by rw [← hlf, ← hpf, List.length_map]
 have no : lo = S0.order.length := by rw [← hlo, ← hpo, List.length_map]
 have nw : lw = S0.where_.length := by rw [← hlw, ← hpw, List.length_map]
 have ng : lg = S0.group.length := by rw [← hlg, ← hpg, List.length_map]
 refine J.openSt (s := 1) rfl (fun vcz vnz vrz viz vfz vwz vgz voz vsz => ?_)
 refine J.shapeE (xs := S1.cols) (v := vcz) qI (fun pcz acz lcz ccz bcz ocz hpcz hvcz hlcz hacz => ?_)
 refine J.shapeE (xs := S1.names) (v := vnz) qI (fun pnz anz lnz cnz bnz onz hpnz hvnz hlnz hanz => ?_)
 refine J.shapeE (xs := S1.rows) (v := vrz) qI (fun prz arz lrz crz brz orz_ hprz hvrz hlrz harz => ?_)
 refine J.shapeE (xs := S1.items) (v := viz) qI (fun piz aiz liz ciz biz oiz hpiz hviz hliz haiz => ?_)
 refine J.shapeE (xs := S1.from_) (v := vfz) qI (fun pfz afz lfz cfz bfz ofz_ hpfz hvfz hlfz hafz => ?_)
 refine J.shapeE (xs := S1.order) (v := voz) qI (fun poz aoz loz coz boz ooz hpoz hvoz hloz haoz => ?_)
 refine J.shapeE (xs := S1.where_) (v := vwz) qI (fun pwz awz lwz cwz bwz owz hpwz hvwz hlwz hawz => ?_)
 refine J.shapeX (xs := S1.group) (v := vgz) qI (fun pgz agz lgz cgz bgz ogz hpgz hvgz hlgz hagz => ?_)
 refine J.shapeX (xs := S1.sets) (v := vsz) qI (fun pxz axz lxz cxz bxz oxz hpxz hvxz hlxz haxz => ?_)
 subst hvcz hvnz hvrz hviz hvfz hvoz hvwz hvgz hvxz
 have ncz : lcz = S1.cols.length := by rw [← hlcz, ← hpcz, List.length_map]
 have nnz : lnz = S1.names.length := by rw [← hlnz, ← hpnz, List.length_map]
 have nrz : lrz = S1.rows.length := by rw [← hlrz, ← hprz, List.length_map]
 have niz : liz = S1.items.length := by rw [← hliz, ← hpiz, List.length_map]
 have nfz : lfz = S1.from_.length := by rw [← hlfz, ← hpfz, List.length_map]
 have noz : loz = S1.order.length := by rw [← hloz, ← hpoz, List.length_map]
 have nwz : lwz = S1.where_.length := by rw [← hlwz, ← hpwz, List.length_map]
 have ngz : lgz = S1.group.length := by rw [← hlgz, ← hpgz, List.length_map]
 refine vQ ?_
 refine JO.box rfl rfl fun b2 => ?_
 refine JO.box rfl rfl fun b3 => ?_
 refine Ja rfl ?_
 refine vS [2, 3] ?_
 refine J.reg0 hmx qK qK ?_
 refine yz (Z0 Z52 rfl) ?_
 refine yz (Z1 Zt rfl rfl) ?_
 refine yz (Z0 Z52 rfl) ?_
 refine yz (Z1 Zt rfl rfl) ?_
 refine yz (Z25 rfl rfl) ?_
 refine yz (Z2 rfl) ?_
 refine yg rfl rfl rfl (fun hg => Z0 Z27 (.inl rfl)) ?_
 refine yg rfl rfl rfl (fun hg => Z1 Z9 (qR rfl) rfl) ?_
 refine yg rfl rfl rfl (fun hg => Z0 Z27 (.inl rfl)) ?_
 refine yg rfl rfl rfl (fun hg => Z1 Z9 (qR rfl) rfl) ?_
 refine yg rfl rfl rfl (fun hg => Z3m (qR rfl) (qR rfl)) ?_
 refine yz (Z11 rfl rfl rfl id) ?_
 refine yz (Z2 rfl) ?_
 refine yg rfl rfl rfl (fun hg => Z0 Z51 (.inl rfl)) ?_
 refine yg rfl rfl rfl (fun hg => Z1 Z9 (qR rfl) rfl) ?_
 refine yg rfl rfl rfl (fun hg => Z0 Z51 (.inl rfl)) ?_
 refine yg rfl rfl rfl (fun hg => Z1 Z9 (qR rfl) rfl) ?_
 refine yg rfl rfl rfl (fun hg => Z3m (qR rfl) (qR rfl)) ?_
 refine yz (Z11 rfl rfl rfl id) ?_
 refine yz (Z2 rfl) ?_
 refine yg rfl rfl rfl (fun hg => Z0 Z1M (.inl rfl)) ?_
 refine yg rfl rfl rfl (fun hg => Z1 Zt (qR rfl) rfl) ?_
 refine yg rfl rfl rfl (fun hg => Z0 Z1M (.inl rfl)) ?_
 refine yg rfl rfl rfl (fun hg => Z1 Zt (qR rfl) rfl) ?_
 refine yg rfl rfl rfl (fun hg => Z25 (qR rfl) (qR rfl)) ?_
 refine yz (Z11 rfl rfl rfl id) ?_
 refine yz (Z2 rfl) ?_
 refine yg rfl rfl rfl (fun hg => Z0 Z4J (.inl rfl)) ?_
 refine yg rfl rfl rfl (fun hg => Z1 Z3r (qR rfl) rfl) ?_
 refine yg rfl rfl rfl (fun hg => Z0 Z4J (.inl rfl)) ?_
 refine yg rfl rfl rfl (fun hg => Z1 Z3r (qR rfl) rfl) ?_
 refine yg rfl rfl rfl (fun hg => Zc9 Zal (qR rfl) (qR rfl)) ?_
 refine yz (Z11 rfl rfl rfl id) ?_
 refine yz (Z2 rfl) ?_
 refine yg rfl rfl rfl (fun hg => Z0 Z2Z (.inl rfl)) ?_
 refine yg rfl rfl rfl (fun hg => Z1 Z2A (qR rfl) rfl) ?_
 refine yg rfl rfl rfl (fun hg => Zo Z2B (qR rfl)) ?_
 refine yg rfl rfl rfl (fun hg => Z0 Z2Z (.inl rfl)) ?_
 refine yg rfl rfl rfl (fun hg => Z1 Z2A (qR rfl) rfl) ?_
 refine yg rfl rfl rfl (fun hg => Zo Z2B (qR rfl)) ?_
 refine yg rfl rfl rfl (fun hg => Z25 (qR rfl) (qR rfl)) ?_
 refine yz (Z11 rfl rfl rfl id) ?_
 refine yz (Z2 rfl) ?_
 refine yg rfl rfl rfl (fun hg => Z0 Z1u (.inl rfl)) ?_
 refine yg rfl rfl rfl (fun hg => Z1 Z2m (qR rfl) rfl) ?_
 refine yg rfl rfl rfl (fun hg => Zo ZX (qR rfl)) ?_
 refine yg rfl rfl rfl (fun hg => Z0 Z1u (.inl rfl)) ?_
 refine yg rfl rfl rfl (fun hg => Z1 Z2m (qR rfl) rfl) ?_
 refine yg rfl rfl rfl (fun hg => Zo ZX (qR rfl)) ?_
 refine yg rfl rfl rfl (fun hg => Z25 (qR rfl) (qR rfl)) ?_
 refine yz (Z11 rfl rfl rfl id) ?_
 refine yz (Z2 rfl) ?_
 refine yg rfl rfl rfl (fun hg => Z0 Z1v (.inl rfl)) ?_
 refine yg rfl rfl rfl (fun hg => Z1 Z1m (qR rfl) rfl) ?_
 refine yg rfl rfl rfl (fun hg => Zo Z1t (qR rfl)) ?_
 refine yg rfl rfl rfl (fun hg => Z0 Z1v (.inl rfl)) ?_
 refine yg rfl rfl rfl (fun hg => Z1 Z1m (qR rfl) rfl) ?_
 refine yg rfl rfl rfl (fun hg => Zo Z1t (qR rfl)) ?_
 refine yg rfl rfl rfl (fun hg => Z25 (qR rfl) (qR rfl)) ?_
 refine yz (Z11 rfl rfl rfl id) ?_
 refine yz (Z2 rfl) ?_
 refine yg rfl rfl rfl (fun hg => Z0 Z1T (.inl rfl)) ?_
 refine yg rfl rfl rfl (fun hg => Z1 Z1Y (qR rfl) rfl) ?_
 refine yg rfl rfl rfl (fun hg => Zo Z2h (qR rfl)) ?_
 refine yg rfl rfl rfl (fun hg => Z0 Z1T (.inl rfl)) ?_
 refine yg rfl rfl rfl (fun hg => Z1 Z1Y (qR rfl) rfl) ?_
 refine yg rfl rfl rfl (fun hg => Zo Z2h (qR rfl)) ?_
 refine yg rfl rfl rfl (fun hg => Z25 (qR rfl) (qR rfl)) ?_
 refine yz (Z11 rfl rfl rfl id) ?_
 refine yz (Z2 rfl) ?_
 refine yg rfl rfl rfl (fun hg => Z0 Z10 (.inl rfl)) ?_
 refine yg rfl rfl rfl (fun hg => Z1 ZR (qR rfl) rfl) ?_
 refine yg rfl rfl rfl (fun hg => Zo Z1Q (qR rfl)) ?_
 refine yg rfl rfl rfl (fun hg => Z0 Z10 (.inl rfl)) ?_
 refine yg rfl rfl rfl (fun hg => Z1 ZR (qR rfl) rfl) ?_
 refine yg rfl rfl rfl (fun hg => Zo Z1Q (qR rfl)) ?_
 refine yg rfl rfl rfl (fun hg => Z25 (qR rfl) (qR rfl)) ?_
 refine yz (Z11 rfl rfl rfl id) ?_
 refine yz (Z2 rfl) ?_
 refine yg rfl rfl rfl (fun hg => Z0 Z1p (.inl rfl)) ?_
 refine yg rfl rfl rfl (fun hg => Z1 Z1S (qR rfl) rfl) ?_
 refine yg rfl rfl rfl (fun hg => Zo Z2b (qR rfl)) ?_
 refine yg rfl rfl rfl (fun hg => Z0 Z1p (.inl rfl)) ?_
 refine yg rfl rfl rfl (fun hg => Z1 Z1S (qR rfl) rfl) ?_
 refine yg rfl rfl rfl (fun hg => Zo Z2b (qR rfl)) ?_
 refine yg rfl rfl rfl (fun hg => Z25 (qR rfl) (qR rfl)) ?_
 refine yz (Z11 rfl rfl rfl id) ?_
 apply yn
 refine FinS.nil0 ?_
 refine vS [2, 3, 91] ?_
 refine yC rfl (fun ht91 => ?_) (fun ht91 => ?_)
 try simp only [yd, yf] at ht91
 refine vQ ?_
 refine Ja rfl ?_
 refine vS [4] ?_
 refine vR ?_
 exact JX.ret1is rfl rfl ((bv_f (Z4i fun e => by subst e; exact absurd ht91 (by simp [seq, nc, ncz, nn, nnz, nr, nrz, ni, niz, nf, nfz, no, noz]))))
 try simp only [yd, yf] at ht91
 apply yK
 repeat first|apply yX|apply yB
 have hh := ht91
 simp only [Bool.or_eq_false_iff, bne_eq_false_iff_eq, Bool.not_eq_false', Z67] at hh
 obtain ⟨⟨⟨⟨⟨⟨⟨⟨⟨⟨k1, k2⟩, k3⟩, k4⟩, k5⟩, k6⟩, k7⟩, k8⟩, k9⟩, k10⟩, k11⟩ := hh
 have kc : S0.cols.length = S1.cols.length := by omega
 have kn : S0.names.length = S1.names.length := by omega
 have kr : S0.rows.length = S1.rows.length := by omega
 have ki : S0.items.length = S1.items.length := by omega
 have kf : S0.from_.length = S1.from_.length := by omega
 have ko : S0.order.length = S1.order.length := by omega
 repeat apply yQ
 refine J.reg0 hmx qK qK ?_
 refine yz (ZI (cs := [_, _, _, _, _, _, _, _, _, _, _, _, _, _]) Zc rfl rfl rfl) ?_
 refine yz (ZI (cs := [_, _, _, _, _, _, _, _, _, _, _, _, _, _]) Zc rfl rfl rfl) ?_
 refine yz (ZL rfl (Zc2 N N2 S0 S1 hsm kc kn kr ki kf ko) (.sub rfl (Sub.st rfl fun X w hf w' hk => ⟨hf _ qI w' hk, hf _ qI w' hk, hf _ qI w' hk, hf _ qI w' hk, hf _ qI w' hk, hf _ qI w' hk, hf _ qI w' hk, hf _ qI w' hk, hf _ qI w' hk⟩) (.sub rfl (Sub.st rfl fun X w hf w' hk => ⟨hf _ qI w' hk, hf _ qI w' hk, hf _ qI w' hk, hf _ qI w' hk, hf _ qI w' hk, hf _ qI w' hk, hf _ qI w' hk, hf _ qI w' hk, hf _ qI w' hk⟩) .nil))) ?_
 refine yz (Z2 rfl) ?_
 refine yg rfl rfl rfl (fun hg => Z0 Z29 (.inl rfl)) ?_
 refine yg rfl rfl rfl (fun hg => Z1 Zh (qR rfl) rfl) ?_
 refine yg rfl rfl rfl (fun hg => Zo Zl (qR rfl)) ?_
 refine yg rfl rfl rfl (fun hg => Z0 Z29 (.inl rfl)) ?_
 refine yg rfl rfl rfl (fun hg => Z1 Zh (qR rfl) rfl) ?_
 refine yg rfl rfl rfl (fun hg => Zo Zl (qR rfl)) ?_
 refine yg rfl rfl rfl (fun hg => ZM (qR rfl) (qR rfl)) ?_
 refine yz (ZV rfl rfl rfl id) ?_
 refine yz (Z2 rfl) ?_
 refine yg rfl rfl rfl (fun hg => Z0 Z3q (.inl rfl)) ?_
 refine yg rfl rfl rfl (fun hg => Z1 Zh (qR rfl) rfl) ?_
 refine yg rfl rfl rfl (fun hg => Zo Zl (qR rfl)) ?_
 refine yg rfl rfl rfl (fun hg => Z0 Z3q (.inl rfl)) ?_
 refine yg rfl rfl rfl (fun hg => Z1 Zh (qR rfl) rfl) ?_
 refine yg rfl rfl rfl (fun hg => Zo Zl (qR rfl)) ?_
 refine yg rfl rfl rfl (fun hg => ZM (qR rfl) (qR rfl)) ?_
 refine yz (ZV rfl rfl rfl id) ?_
 refine yz (Z2 rfl) ?_
 refine yg rfl rfl rfl (fun hg => ZI (cs := [_, _, _, _, _, _, _, _, _, _, _, _, _, _]) Zc (.inl rfl) rfl rfl) ?_
 refine yg rfl rfl rfl (fun hg => ZL (.inl rfl) (ZaA N S0 hsm) (.sub (qR rfl) (Sub.st rfl fun X w hf w' hk => ⟨hf _ qI w' hk, hf _ qI w' hk, hf _ qI w' hk, hf _ qI w' hk, hf _ qI w' hk, hf _ qI w' hk, hf _ qI w' hk, hf _ qI w' hk, hf _ qI w' hk⟩) .nil)) ?_
 refine yg rfl rfl rfl (fun hg => ZI (cs := [_, _, _, _, _, _, _, _, _, _, _, _, _, _]) Zc (.inl rfl) rfl rfl) ?_
 refine yg rfl rfl rfl (fun hg => ZL (.inl rfl) (ZaA N2 S1 hsm1) (.sub (qR rfl) (Sub.st rfl fun X w hf w' hk => ⟨hf _ qI w' hk, hf _ qI w' hk, hf _ qI w' hk, hf _ qI w' hk, hf _ qI w' hk, hf _ qI w' hk, hf _ qI w' hk, hf _ qI w' hk, hf _ qI w' hk⟩) .nil)) ?_
 refine yg rfl rfl rfl (fun hg => ZL (.inl rfl) (Z6n (exsOf S0) (exsOf S1) (Zhz hsm) (fun x hx y => Z6H 4096 x (hec x hx) (hec x hx) y)) (.one (qR rfl) (.one (qR rfl) .nil))) ?_
 refine yz (ZV rfl rfl rfl id) ?_
 refine yz (Z1s rfl) ?_
 apply yn
 refine FinS.nil0 ?_
 refine vS [4] ?_
 refine vR ?_
 exact JX.ret1is rfl rfl ((by subst nw nwz ng ngz; rw [← ZhX k1 k2 k3 k4 (by simpa using k5)]))
theorem ZkD {a b : List UInt8} (h : bl a = bl b) : a = b := by
 have := congrArg (fun x => x.data.toList) h
 simpa [bl] using this
theorem ZfF {a b : Pz.St} (ha : WfS nmOk a) (hb : WfS nmOk b) : (eqD a b == seq (bl (txS a)) (bl (txS b))) = true := by
 by_cases e : a = b
 · subst e; rw [Z7E rfl, Z67.2 rfl]; rfl
 · rw [Z4i e]
   cases hs : seq (bl (txS a)) (bl (txS b)) with
   | false => rfl
   | true => exact absurd (Zh1 ha hb (ZkD (Z67.1 hs))) e
set_option maxHeartbeats 1000000 in
theorem Z9N (s t : ByteArray) : CallF Tryz.prog Z9P [NH 0, GF, AF, TF] [.is (.string s), .is (.string t)] (.is (.bool true)) :=
CallF.of (fn := Tryz.f10) Tryz.func10 (n := 36) rfl rfl rfl (fun _ _ => by kernel_rfl) fun E W => by
 have hs1 := Zd8 s.data.toList
 have hs2 := Zd8 t.data.toList
 have hP1 := c_PF 0 s
 have hP2 := c_PF 0 t
 have hgd := Z9Z (l := s.data.toList)
 have hgd2 := Z9Z (l := t.data.toList)
 have hwf := Zaq (l := s.data.toList)
 have hwf2 := Zaq (l := t.data.toList)
 obtain ⟨p1, hp1⟩ : ∃ q, q = prS s.data.toList := ⟨_, rfl⟩
 obtain ⟨p2, hp2⟩ : ∃ q, q = prS t.data.toList := ⟨_, rfl⟩
 rw [← hp1] at hs1 hP1 hgd hwf
 rw [← hp2] at hs2 hP2 hgd2 hwf2
 refine vQ ?_
 refine Ja rfl ?_
 refine vP [0, 1] ?_
 refine Jq (ZG rfl (ZcR) qF .nil) ?_
 refine Jq (Z6p rfl) ?_
 refine vS [0, 1, 10] ?_
 refine yC rfl (fun ht10 => ?_) (fun ht10 => ?_)
 try simp only [yd, yf] at ht10
 refine vQ ?_
 refine Ja rfl ?_
 refine vS [4] ?_
 refine vR ?_
 exact JX.ret1is rfl rfl (by exact absurd ht10 qD)
 try simp only [yd, yf] at ht10
 apply yK
 refine vN ?_
 apply yN
 refine Jm rfl (Jq (ZG rfl (hP1) qF qA) ?_)
 refine Jm rfl (Jq (Z3x rfl) ?_)
 refine Jq (Z3v rfl) ?_
 refine JO.alloc Z1o rfl fun b5 => ?_
 refine JO.m (Z3 rfl rfl qU (by exact Z1e rfl rfl) (by exact Z3C) Zu) (by rfl) ?_
 refine Ja rfl ?_
 refine vP [1, 5, 6] ?_
 refine Jm rfl (Jq (ZG rfl (hP2) qF qA) ?_)
 refine Jm rfl (Jq (Z3x rfl) ?_)
 refine Jq (Z3v rfl) ?_
 refine JO.alloc Z1o rfl fun b7 => ?_
 refine JO.m (Z3 rfl rfl qU (by exact Z1e rfl rfl) (by exact Z3C) Zu) (by rfl) ?_
 refine Ja rfl ?_
 refine vS [5, 6, 7, 8] ?_
 refine J.reg0 hmx qK qK ?_
 refine yz (Z2 rfl) ?_
 refine yz (Z25 rfl rfl) ?_
 refine yz (Z2 rfl) ?_
 refine yg rfl rfl rfl (fun hg => Z2 (.inl rfl)) ?_
 refine yg rfl rfl rfl (fun hg => Z25 (qR rfl) (.inl rfl)) ?_
 refine yz (Z11 rfl rfl rfl id) ?_
 apply yn
 refine FinS.nil0 ?_
 refine vS [5, 7, 26] ?_
 refine yC rfl (fun ht26 => ?_) (fun ht26 => ?_)
 try simp only [yd, yf] at ht26
 refine vQ ?_
 refine Ja rfl ?_
 refine vS [4] ?_
 refine vR ?_
 exact JX.ret1is rfl rfl (rfl)
 try simp only [yd, yf] at ht26
 apply yK
 repeat first|apply yX|apply yB
 have hq0 : p1.2 = 0 := by simp at ht26; exact ht26.1
 have hq2 : p2.2 = 0 := by simp at ht26; exact ht26.2
 obtain ⟨hgS, hk9⟩ := hgd hq0
 obtain ⟨hgS2, hk92⟩ := hgd2 hq2
 refine J.front b5 (by repeat (first|exact .here|apply Front.there)) ?_
 refine J.openOwnSt fun vc vn vr vi vf vw vg vo vs h1c => ?_
 refine J.front b7 (by repeat (first|exact .here|apply Front.there)) ?_
 refine J.openOwnSt fun vcz vnz vrz viz vfz vwz vgz voz vsz h1cz => ?_
 repeat apply yQ
 refine J.reg0 hmx qK qK ?_
 refine yz (ZI (cs := [_, _, _, _, _, _, _, _, _, _, _, _, _, _]) Zc rfl rfl rfl) ?_
 refine yz (ZI (cs := [_, _, _, _, _, _, _, _, _, _, _, _, _, _]) Zc rfl rfl rfl) ?_
 refine yz (ZL rfl (ZcK 0 0 p1.1 p2.1 hs1.1 hs2.1 hs1.2) (.sub rfl (Sub.st rfl fun X w hf w' hk => ⟨hf _ qI w' hk, hf _ qI w' hk, hf _ qI w' hk, hf _ qI w' hk, hf _ qI w' hk, hf _ qI w' hk, hf _ qI w' hk, hf _ qI w' hk, hf _ qI w' hk⟩) (.sub rfl (Sub.st rfl fun X w hf w' hk => ⟨hf _ qI w' hk, hf _ qI w' hk, hf _ qI w' hk, hf _ qI w' hk, hf _ qI w' hk, hf _ qI w' hk, hf _ qI w' hk, hf _ qI w' hk, hf _ qI w' hk⟩) .nil))) ?_
 refine yz (ZI (cs := [_, _, _, _, _, _, _, _, _, _, _, _, _, _]) Zc rfl rfl rfl) ?_
 refine yz (ZG rfl (Z6G 0 p1.1 hgS hk9) qF (.sub rfl (Sub.st rfl fun X w hf w' hk => ⟨hf _ qI w' hk, hf _ qI w' hk, hf _ qI w' hk, hf _ qI w' hk, hf _ qI w' hk, hf _ qI w' hk, hf _ qI w' hk, hf _ qI w' hk, hf _ qI w' hk⟩) .nil)) ?_
 refine yz (ZI (cs := [_, _, _, _, _, _, _, _, _, _, _, _, _, _]) Zc rfl rfl rfl) ?_
 refine yz (ZG rfl (Z6G 0 p2.1 hgS2 hk92) qF (.sub rfl (Sub.st rfl fun X w hf w' hk => ⟨hf _ qI w' hk, hf _ qI w' hk, hf _ qI w' hk, hf _ qI w' hk, hf _ qI w' hk, hf _ qI w' hk, hf _ qI w' hk, hf _ qI w' hk, hf _ qI w' hk⟩) .nil)) ?_
 refine yz (Z38 rfl rfl) ?_
 refine yz (ZjL Zal rfl rfl) ?_
 refine yz (Z1s rfl) ?_
 apply yn
 refine FinS.nil0 ?_
 refine vS [4] ?_
 refine vR ?_
 exact JX.ret1is rfl rfl ((bv_t (ZfF (hwf hq0).1 (hwf2 hq2).1)).symm)
end Go.Proofs.YtbedigkncjbggaaGreatDoor
set_option maxRecDepth 100000
namespace Go.Proofs.YtbedigkncjbggaaGreatDoor
open Go Go.Vc Go.Shelf Go.ChangeShapes Go.WideShapes Go.ChangeAt Go.RowKit
theorem own : ownKnob Tryz.prog.godebug = none := by kernel_rfl
theorem laidOut : laidOutB Tryz.prog = true := by kernel_rfl
def litCells : DataW Unit → Array Value
 | .agg l => (l.map fun | .lit (.int k z) => Value.int k z | _ => undef).toArray
 | _ => #[]
def accCells : Array Value := ((List.range 16).flatMap fun i => [Value.int .u8 (Lib.accLo i), Value.int .u8 (Lib.accHi i)]).toArray
def wsCells : Array Value := ([9, 13, 1, 32, 133, 101, 160, 5760, 5600, 8192, 8202, 1, 8232, 8233, 1, 8239, 8287, 48, 12288, 12288, 1].map fun z => Value.int .u16 z).toArray
noncomputable def laidWorld (os : Os) : World :=
 let N := (World.settled Tryz.prog os).heap.size
 let w0 := World.holding Tryz.prog os ⟨#[.cells Lib.caseCells5 (Z4Y.t 208), .cells #[.slice (some ⟨N + 2, 0, none⟩) 7 7, .slice none 0 0, .int .i64 2] 217, .cells wsCells 220], #[], []⟩
 let put (h : Array Obj) (g : Nat) (cs : Array Value) : Array Obj := h.modify g fun
  | .cells _ t frozen => .cells cs t frozen
  | o => o
 let h0 := put w0.heap 0 (litCells Rows.laid_strings_asciiSpace)
 let h3 := put h0 3 #[.slice (some ⟨N, 0, none⟩) 336 336]
 let h4 := put h3 4 #[.pointer (some ⟨N + 1, 0, none⟩)]
 let h5 := put h4 5 (Lib.firstTab.map fun z => Value.int .u8 z).toArray
 let h6 := put h5 6 accCells
 let h2 := put h6 2 (litCells Rows.laid_internal_strconv_uint64pow10)
 let h7 := put h2 7 (litCells Rows.laid_math_bits_deBruijn32tab)
 let h8 := put h7 8 (litCells Rows.laid_math_bits_deBruijn64tab)
 { w0 with heap := h8 }
noncomputable abbrev N0 : Nat := (World.settled Tryz.prog default).heap.size
noncomputable abbrev LW (os : Os) (args : Array Value) : World := ((laidWorld os).forCall (fun _ _ => 0) ⟨#[], args, []⟩).memory
theorem Zgf (os : Os) (args : Array Value) : LaidIn Tryz.prog (LW os args) [("unicode/utf8.acceptRanges", Rows.laid_unicode_utf8_acceptRanges)] [6] :=
 LaidIn.of_run [6] 8 qK qK qK qK
theorem Zet (os : Os) (args : Array Value) : LaidIn Tryz.prog (LW os args) [("unicode/utf8.first", Rows.laid_unicode_utf8_first)] [5] :=
 LaidIn.of_run [5] 8 qK qK qK qK
theorem Zex {P : Program} {ρ : Ren} (L : Lays.n274 P ρ) (t206 : P.underlying (ρ.t 206) = some (.array 3 (ρ.t 21))) (X : CaseExtra P ρ) {w : World} (R : Nat) (t : TypeId) (hgR : ρ.g 13 ≠ R)
   (hvar : w.heap[ρ.g 13]? = some (.cells #[.slice (some ⟨R, 0, none⟩) Lib.caseA.size Lib.caseA.size] (ρ.t 162) (0, 0)))
   (hblk : w.heap[R]? = some (.cells Lib.caseCells5 t (0, 0))) : LaidIn P w [("unicode.CaseRanges", Lib.caseData)] [ρ.g 13, R] := by
 have hT := caseTab_of_block hblk
 have hread := case_slice_reads L t206 X hT caseA_wf (by rw [Lib.caseA_size]; unfold maxLen; omega) 0
 rw [case_rows_data] at hread
 have hv : w.var? P "unicode.CaseRanges" = some #[.slice (some ⟨R, 0, none⟩) Lib.caseA.size Lib.caseA.size] := by simp [World.var?, X.n13, hvar]
 refine LaidIn.one (cs := #[.slice (some ⟨R, 0, none⟩) Lib.caseA.size Lib.caseA.size]) [ρ.g 13, R] X.n13 X.y13 hv hread ?_ ?_ ?_
 · refine List.nodup_append.2 ⟨row_nodup _ _, row_nodup _ _, ?_⟩
   intro a ha b hb e
   obtain ⟨i, _, rfl⟩ := MemPlace.mem_row.1 ha
   obtain ⟨j, _, rfl⟩ := MemPlace.mem_row.1 hb
   simp at e
   exact hgR e.1
 · intro b off hp
   rcases List.mem_append.1 hp with hp | hp
   · obtain ⟨i, hi, e⟩ := MemPlace.mem_row.1 hp
     cases e
     refine ⟨⟨_, _, hvar⟩, fun u v hc => ?_⟩
     obtain rfl : i = 0 := by simp at hi; omega
     rw [Lib.cell_of_heap hvar] at hc
     simp at hc
   · obtain ⟨i, hi, e⟩ := MemPlace.mem_row.1 hp
     cases e
     refine ⟨⟨_, _, hblk⟩, fun u v hc => ?_⟩
     obtain ⟨c0, c1, c2, c3, c4⟩ := hT (i / 5) qM
     have hi5 : 0 + i = 0 + i / 5 * 5 + i % 5 := by omega
     simp only at hc
     rw [hi5] at hc
     have hm : i % 5 < 5 := Nat.mod_lt _ qM
     match hk : i % 5, hm with
     | 0, _ => rw [hk, Nat.add_zero, c0] at hc; cases hc
     | 1, _ => rw [hk, c1] at hc; cases hc
     | 2, _ => rw [hk, c2] at hc; cases hc
     | 3, _ => rw [hk, c3] at hc; cases hc
     | 4, _ => rw [hk, c4] at hc; cases hc
 · intro x hx
   rcases List.mem_append.1 hx with hx | hx
   · obtain ⟨i, _, rfl⟩ := MemPlace.mem_row.1 hx
     exact List.mem_cons_self
   · obtain ⟨i, _, rfl⟩ := MemPlace.mem_row.1 hx
     exact List.mem_cons_of_mem _ List.mem_cons_self
theorem caseX : CaseExtra Tryz.prog Z4Y := ⟨by kernel_rfl, by kernel_rfl, by kernel_rfl, by kernel_rfl, by kernel_rfl, by kernel_rfl⟩
theorem ZfX (os : Os) (args : Array Value) : LaidIn Tryz.prog (LW os args) [("unicode.CaseRanges", Rows.laid_unicode_CaseRanges)] [3, N0] := by
 show LaidIn Tryz.prog (LW os args) [("unicode.CaseRanges", Go.Pinned.caseRanges)] [3, N0]
 rw [Pinned.caseRanges_eq]
 exact Zex { lays158 with } lays158.t206 caseX N0 (Z4Y.t 208) (of_decide_eq_true qK) qK qK
theorem Zi9 (os : Os) (args : Array Value) : LaidIn Tryz.prog (LW os args) [("unicode.White_Space", Rows.laid_unicode_White_Space)] [4, N0 + 1, N0 + 2] :=
 LaidIn.of_run [4, N0 + 1, N0 + 2] 8 qK qK qK qK
theorem Zhi (os : Os) (args : Array Value) : LaidIn Tryz.prog (LW os args) [("strings.asciiSpace", Rows.laid_strings_asciiSpace)] [0] :=
 LaidIn.of_run [0] 8 qK qK qK qK
theorem ZfY (os : Os) (args : Array Value) : LaidIn Tryz.prog (LW os args) [("math/bits.deBruijn32tab", Rows.laid_math_bits_deBruijn32tab), ("math/bits.deBruijn64tab", Rows.laid_math_bits_deBruijn64tab), ("internal/strconv.uint64pow10", Rows.laid_internal_strconv_uint64pow10)] [7, 8, 2] :=
 LaidIn.of_run [7, 8, 2] 8 qK qK qK qK
end Go.Proofs.YtbedigkncjbggaaGreatDoor
set_option maxRecDepth 100000
namespace Go.Proofs.YtbedigkncjbggaaGreatDoor
open Go Go.Vc Go.ChangeShapes Go.WideShapes Go.ChangeAt Go.RowKit
theorem ZgI {W : World} (h : W.ShapedOpen Tryz.prog) : GF W :=
 cell_of_shapedOpen_int (zero := #[.int .i64 0]) (t := 3) h (of_decide_eq_true qK) qK rfl qK qK Tryz.underlying3
theorem Zg6 {W : World} {a : Addr} {v : Value} (h : W.cell? a = some v) : ∀ w', Keeps noX W w' → w'.cell? a = some v := fun w' hk => by
 unfold World.cell? at h ⊢
 cases hb : W.heap[a.block]? with
 | none => rw [hb] at h; simp at h
 | some o =>
   rw [hk.get hb (fun h => h)]
   rw [hb] at h
   exact h
theorem Zjj {W : World} (h : GF W) : Pers noX W GF := fun w' hk => by
 obtain ⟨m, hm⟩ := h
 exact ⟨m, Zg6 hm w' hk⟩
theorem ZcA : Tryz.prog.readableRec Zx = true ∧ Zx < Tryz.prog.types.size := ⟨by kernel_rfl, of_decide_eq_true qK⟩
theorem ZjH {W : World} (h : AF W) : Pers noX W AF := fun w' hk =>
 Joins.tab_stays (by kernel_rfl : Tryz.prog.globalNamed "strings.asciiSpace" = some 0) h hk.below (Nat.le_refl _)
end Go.Proofs.YtbedigkncjbggaaGreatDoor
set_option maxRecDepth 100000
namespace Go.Proofs.YtbedigkncjbggaaGreatDoor
open Go Go.Vc Go.ChangeShapes Go.WideShapes Go.ChangeAt Go.RowKit
theorem Zgy (os : Os) (args : Array Value) : laidMet Tryz.prog Rows.printBackRow.laid (LW os args) :=
 ((((((ZfY os args).append (Zgf os args) qK).append (Zi9 os args) qK).append (Zhi os args) qK).append (ZfX os args) qK).append (Zet os args) qK).met
theorem ZhL {W : World} (h : laidMetH Tryz.prog Rows.printBackRow.laid W) : AF W := by
 have h1 : laidMet Tryz.prog Rows.printBackRow.laid W := h
 exact Lib.tabIs_of_head (t := 187) (e := 5) (n := 256) (by kernel_rfl : Tryz.prog.globalNamed "strings.asciiSpace" = some 0) qK qK qK qK qK (laidMet.tail (laidMet.tail (laidMet.tail (laidMet.tail (laidMet.tail h1)))))
theorem ZhF {W : World} (h : laidMetH Tryz.prog Rows.printBackRow.laid W) : TF W := by
 have h1 : laidMet Tryz.prog Rows.printBackRow.laid W := h
 exact Lib.tabIs_of_head (t := 193) (e := 136) (n := 20) (by kernel_rfl : Tryz.prog.globalNamed "internal/strconv.uint64pow10" = some 2) qK qK qK qK qK (laidMet.tail (laidMet.tail h1))
theorem Zjz {W : World} (h : TF W) : Pers noX W TF := fun w' hk =>
 Joins.tab_stays (by kernel_rfl : Tryz.prog.globalNamed "internal/strconv.uint64pow10" = some 2) h hk.below (Nat.le_refl _)
end Go.Proofs.YtbedigkncjbggaaGreatDoor
set_option maxRecDepth 100000
namespace Go.Proofs.YtbedigkncjbggaaGreatDoor
open Go Go.Vc Go.ChangeShapes Go.WideShapes Go.ChangeAt Go.RowKit
open Go.ChangeMaps (open_string)
theorem Zbb (os : Os) (args : Array Value) : laidMet Tryz.prog Rows.printApartRow.laid (LW os args) := Zgy os args
theorem Z9S (os : Os) {H : Type} (enc : TypeId × Value → H) :
  (OpenSpec.ofChange Rows.printApartSpec).preRow enc Tryz.prog Tryz.f10 Rows.printApartRow.domain false Rows.printApartRow.laid (LW os #[.string ⟨#[]⟩, .string ⟨#[]⟩]) #[.string ⟨#[]⟩, .string ⟨#[]⟩] := by
 have hw : (DataW.whole enc Tryz.prog (LW os #[.string ⟨#[]⟩, .string ⟨#[]⟩]) Tryz.f10.params.toList Rows.printApartSpec.vars false (#[.string ⟨#[]⟩, .string ⟨#[]⟩] : Array Value).toList 8).map (fun x => (x.1, x.2.1)) = some ([.lit (.string []), .lit (.string [])], []) := by kernel_rfl
 obtain ⟨⟨x1, x2, x3⟩, hx, hx1⟩ := Option.map_eq_some_iff.1 hw
 simp only [Prod.mk.injEq] at hx1
 obtain ⟨rfl, rfl⟩ := hx1
 exact OpenSpec.preRow_of_cond 8 hx qK (fun k hk => by cases hk) qK (Zbb os _)
set_option maxHeartbeats 2000000 in
theorem Zaw (os : Os) (started : os.Started) (H : Type) (enc : TypeId × Value → H) (F : Stop.Interp) :
   ReturnsInHanded {} Tryz.checked os 10 .any ((OpenSpec.ofChange Rows.printApartSpec).preRow enc Tryz.prog Tryz.f10 Rows.printApartRow.domain false Rows.printApartRow.laid) (((OpenSpec.ofChange Rows.printApartSpec).at F).post enc Tryz.prog Tryz.f10 false true false false) := by
 refine returnsInHanded_of_row (C := Tryz.checked) (s := OpenSpec.ofChange Rows.printApartSpec) own started qK Tryz.func10
   (witness_row_atRef (enc := enc) (C := Tryz.checked) false (laidWorld os) #[.string ⟨#[]⟩, .string ⟨#[]⟩] rfl qK qK qK (Z9S os enc)) ?_
 intro W base args ds gs before hval0 hW _ _ hsz0 hL hsh _
 have hW' := hW
 obtain ⟨p, q, hA0, hV, rfl, hfz, hnd⟩ := hW
 have hA : DataW.TrodAll enc Tryz.prog W 0 (fun _ => true) true [Zx, Zx] args.toList ds p := hA0
 have hgf := Zjj (ZgI hsh)
 have haf := ZjH (ZhL hL)
 have htf := Zjz (ZhF hL)
 obtain ⟨v0, v1, d0, d1, p0, p1, rfl, rfl, rfl, h0, h1⟩ := trodAll_two hA
 obtain ⟨rfl, rfl⟩ := trodVars_none hV
 obtain ⟨s, rfl, rfl, rfl, _⟩ := open_string Zv (hval0 0 Zx v0 rfl rfl) h0
 obtain ⟨t, rfl, rfl, rfl, _⟩ := open_string Zv (hval0 1 Zx v1 rfl rfl) h1
 refine ((Z9N s t).calls noX W [.string s, .string t] (fun _ h => h.elim) (fun F hF => by rcases yc.1 hF with rfl | hF; exact fun w' _ => Nat.zero_le _; rcases yc.1 hF with rfl | hF; exact hgf; rcases yc.1 hF with rfl | hF; exact haf; rcases yc.1 hF with rfl | hF; exact htf; cases hF) ⟨rfl, rfl, trivial⟩).mono fun e W' ⟨v, he, hk, hR⟩ => ?_
 subst he
 have hR' : v = .bool true := hR
 subst hR'
 exact ⟨_, rfl, Zg5 (f := Tryz.f10) (s := Rows.printApartSpec) (tB := ZeS) laidOut (mem2 ZcA ZcA) qK qK rfl rfl rfl rfl hW' hk⟩
theorem ZbD : Rows.PrintApartSaid :=
 OpenClaim.holds_of_cond 10 Tryz.f10 rfl rfl rfl rfl rfl rfl rfl ⟨rfl, rfl, rfl, rfl, rfl⟩ rfl rfl rfl rfl rfl qK Tryz.func10 qK
  (of_decide_eq_true qK) (by unfold Func.isWrapper; first|(rw [if_pos (by decide +kernel)]; kernel_rfl)|(rw [if_neg (by decide +kernel)]; exact ⟨rfl, rfl⟩))
  (fun os started H enc _ F => by rw [OpenClaim.pre_eq_preRow]; exact Zaw os started H enc F)
theorem ZaZ (f : FuncId) (fn : Func) (hf : Tryz.pinned.checked.prog.funcNamed "cadastre/cadastrelaw11.PrintApart" = some f) (hfn : Tryz.pinned.checked.prog.funcs[f]? = some fn) :
  true = Tryz.pinned.checked.prog.looks [] ∧ ∀ (j : Nat) t, fn.params[j]? = some t → Tryz.pinned.checked.prog.wantsStandIn t = false := by
 obtain rfl : f = 10 := Option.some.inj ((show Tryz.prog.funcNamed "cadastre/cadastrelaw11.PrintApart" = some 10 by kernel_rfl).symm.trans hf) |>.symm
 obtain rfl : fn = Tryz.f10 := (Option.some.inj (Tryz.func10.symm.trans hfn)).symm
 refine ⟨by kernel_rfl, fun j t ht => ?_⟩
 have hp : Tryz.f10.params = #[Zx, Zx] := by kernel_rfl
 rw [hp] at ht
 obtain rfl : t = Zx := by simpa using Array.mem_of_getElem? ht
 exact (show Tryz.prog.wantsStandIn Zx = false by kernel_rfl)
theorem printApart_card : Rows.PrintApartCardSaid :=
 Claim7.holds_tied_plain_at .later [] _ _ _ _ ZbD (fun _ h => by cases h) qK (fun _ h => by cases h) printApart_row_tie rfl ⟨rfl, rfl⟩ qK rfl ZaZ qK
#print axioms printApart_card
end Go.Proofs.YtbedigkncjbggaaGreatDoor
