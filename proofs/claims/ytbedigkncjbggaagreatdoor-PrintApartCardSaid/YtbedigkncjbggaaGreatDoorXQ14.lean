/- print.Print. No condition. -/
import Derived.Test.YtbedigkncjbggaaGreatDoorXQ13
import Derived.Test.YtbedigkncjbggaaGreatDoorXQ4
import Derived.Test.YtbedigkncjbggaaGreatDoorXG7
import Derived.Test.YtbedigkncjbggaaGreatDoorXQ5
import Derived.Test.YtbedigkncjbggaaGreatDoorXQ1
import Derived.Test.YtbedigkncjbggaaGreatDoorXG8
set_option maxRecDepth 20000
namespace Go.Proofs.YtbedigkncjbggaaGreatDoor
open Go Go.Vc
open Go.Pz
theorem c_SJ (xs : List ByteArray) (hn : xs.length ≤ 64) (hl : ∀ x ∈ xs, nmOk x) : CallTy Tryz.prog Z6c [.rep (SlE stE noS xs), .is (.string ⟨#[44, 32]⟩)] (.is (.string (bl (joinC (xs.map tx))))) := by
 rw [← Z4L]
 refine Z2y xs ⟨#[44, 32]⟩ qM ?_
 rw [show (⟨#[44, 32]⟩ : ByteArray).data.toList = [44, 32] from rfl, Z4L]
 have := jl (p := tx) hn fun x hx => Z1G (hl x hx)
 show (joinC (xs.map tx)).length ≤ _
 omega
theorem ZjO {ps : List (Cel srE)} {p : Cel srE} {w : World} {a b v : Value} (hp : p ∈ ps) (h : CelF srE ps w) (hc : p.cs = [a, b, v]) : ExsR p.x.on v w := by
 obtain ⟨u, hu, hR⟩ := h p hp
 rw [hc] at hu
 injection hu with _ hu
 injection hu with _ hu
 injection hu with hu _
 rw [hu]; exact hR
abbrev qT (s : Pz.St) (i : Nat) : List UInt8 := kSE ++ 32 :: (joinC (s.items.map txItm) ++ 32 :: (kFR ++ 32 :: frI s.from_ i))
theorem Zac {s : Pz.St} {i : Nat} {x : Pz.Src} (h : s.from_[i]? = some x) : qT s (i + 1) = qT s i ++ ((if 0 < i then 32 :: (kJO ++ [32]) else []) ++ (txSrc x ++ txCl kON x.on)) := by
 unfold qT
 rw [ZeM h]; simp
theorem qT_0 (s : Pz.St) : qT s 0 = kSE ++ 32 :: (joinC (s.items.map txItm) ++ 32 :: (kFR ++ [32])) := by
 show kSE ++ 32 :: (joinC (s.items.map txItm) ++ 32 :: (kFR ++ 32 :: txFr (s.from_.take 0))) = _
 rw [List.take_zero]; rfl
theorem Zbi {s : Pz.St} {i : Nat} (h : i = s.from_.length) : qT s i = kSE ++ 32 :: (joinC (s.items.map txItm) ++ 32 :: (kFR ++ 32 :: txFr s.from_)) := by
 subst h
 show kSE ++ 32 :: (joinC (s.items.map txItm) ++ 32 :: (kFR ++ 32 :: txFr (s.from_.take _))) = _
 rw [List.take_length]
theorem ZkB {s : Pz.St} (h : GoodS s) {i : Nat} (hi : i ≤ 64) : (qT s i).length ≤ 200000000000 := by
 have h1 := ZkT h.from_ hi
 have h2 := jl (p := txItm) h.nitems fun x hx => Z6u (h.items x hx)
 unfold qT
 simp only [List.length_append, List.length_cons, List.length_nil]
 omega
theorem setIs {s : Pz.St} {i : Nat} (h1 : i < s.names.length) (h2 : i < s.sets.length) : (s.names.zip s.sets)[i]? = some (s.names[i], s.sets.getD i ex0) := by
 rw [List.getElem?_zip_eq_some]
 exact ⟨List.getElem?_eq_getElem h1, Z2Y h2⟩
set_option maxHeartbeats 1000000 in
theorem ZbT (N : Nat) (s : Pz.St) (hg : GoodS s) : CallF Tryz.prog ZbI [GF, TF] [.rep (StR N s)] (.is (.string (bl (txI s)))) :=
CallF.of (fn := Tryz.f45) Tryz.func45 (n := 24) rfl rfl rfl (fun _ _ => by kernel_rfl) fun E W => by
 have htb := hg.tb
 have htb2 : (tx s.tb).length ≤ 2048 := htb
 have hnm := hg.nm
 have hnm2 : (tx s.nm).length ≤ 2048 := hnm
 have hjn := jl (p := tx) hg.nnames fun x hx => Z1G (hg.names x hx)
 have hjc := jl (p := txC) hg.ncols fun x hx => Zam (hg.cols x hx)
 have hjr := jl (p := txR) hg.nrows fun x hx => Z8y (hg.rows x hx)
 have hji := jl (p := txItm) hg.nitems fun x hx => Z6u (hg.items x hx)
 have hjk := jl (p := txKy) hg.norder fun x hx => Z93 (hg.order x hx)
 have hcw := Z4A (w := kWH) qD hg.nwhere hg.where_
 have hcg := Z4A (w := kGB) qD hg.ngroup hg.group
 refine J.openSt (s := 0) rfl (fun vc vn vr vi vf vw vg vo vs => ?_)
 refine vQ ?_
 refine JO.box rfl rfl fun b1 => ?_
 refine Ja rfl ?_
 refine vP [1] ?_
 refine Jq (Z0 Z27 rfl) ?_
 refine Jq (Z1 Z9 rfl rfl) ?_
 refine Jq (Zd rfl rfl (sz2 qZ qZ) (Zy [73, 78, 83, 69, 82, 84, 32, 73, 78, 84, 79, 32] (tx s.tb))) ?_
 refine Ja rfl ?_
 refine vS [1, 3] ?_
 refine J.shapeE (xs := s.names) (v := vn) qI (fun pn an ln cn bn on_ hpn hvn hln han => ?_)
 subst hvn
 have nn : ln = s.names.length := by rw [← hln, ← hpn, List.length_map]
 refine vQ ?_
 refine Jq (Z0 Z1u rfl) ?_
 refine Jq (Z1 Z2m rfl rfl) ?_
 refine Jq (Zo ZX rfl) ?_
 refine Jq (Z2i rfl rfl) ?_
 refine vS [1, 3, 10] ?_
 refine yC rfl (fun ht10 => ?_) (fun ht10 => ?_)
 try simp only [yd, yf] at ht10
 refine vQ ?_
 refine Jm rfl (Jq (Z0 Z1u rfl) ?_)
 refine Jq (Z1 Z2m rfl rfl) ?_
 refine Jq (ZL rfl (c_SJ s.names hg.nnames hg.names) (.sub rfl (Sub.noS (G := FN N) qI) qA)) ?_
 refine Jq (Zd rfl rfl (sz2 qZ qZ) (Zy [32, 40] _)) ?_
 refine Jq (Zd rfl rfl (sz2 qZ qZ) (Zy _ [41])) ?_
 refine Jq (Zd rfl rfl (sz2 qZ qZ) (Zy _ _)) ?_
 refine Ja rfl ?_
 refine vP [1, 3] ?_
 refine Jm rfl (Jq (Zd rfl rfl (sz2 qZ qZ) (Zy _ [32, 86, 65, 76, 85, 69, 83, 32])) ?_)
 refine Jq (Z0 Z1v rfl) ?_
 refine Jq (Z1 Z1m rfl rfl) ?_
 refine Jq (ZG rfl (Z4p rwE rfl (fun _ => rfl) s.rows txR Z5d (fun r hr => CallF.arg (Z7f r (hg.rows r hr).1 (hg.rows r hr).2) ZiE) hg.nrows (fun x hx => Nat.le_trans (Z8y (hg.rows x hx)) qD)) qF (.sub rfl (Sub.noS (G := noS) qI) (.one rfl .nil))) ?_
 refine Jq (Zd rfl rfl (sz2 qZ qZ) (Zy _ _)) ?_
 refine Ja rfl ?_
 refine vS [2] ?_
 refine vR ?_
 exact JX.ret1is rfl rfl (by unfold txI txNs; rw [if_neg (fun h9 => by rw [List.isEmpty_iff.1 h9] at nn; simp at nn ht10; omega)]; simp)
 try simp only [yd, yf] at ht10
 apply yK
 refine vN ?_
 apply yN
 refine Jm rfl (Jq (Zd rfl rfl (sz2 qZ qZ) (Zy _ [32, 86, 65, 76, 85, 69, 83, 32])) ?_)
 refine Jq (Z0 Z1v rfl) ?_
 refine Jq (Z1 Z1m rfl rfl) ?_
 refine Jq (ZG rfl (Z4p rwE rfl (fun _ => rfl) s.rows txR Z5d (fun r hr => CallF.arg (Z7f r (hg.rows r hr).1 (hg.rows r hr).2) ZiE) hg.nrows (fun x hx => Nat.le_trans (Z8y (hg.rows x hx)) qD)) qF (.sub rfl (Sub.noS (G := noS) qI) (.one rfl .nil))) ?_
 refine Jq (Zd rfl rfl (sz2 qZ qZ) (Zy _ _)) ?_
 refine Ja rfl ?_
 refine vS [2] ?_
 refine vR ?_
 exact JX.ret1is rfl rfl (by unfold txI txNs; rw [if_pos (List.isEmpty_iff.2 (List.length_eq_zero_iff.1 (by simp at ht10; omega)))]; simp)
set_option maxHeartbeats 2000000 in
theorem ZcN (N : Nat) (s : Pz.St) (hg : GoodS s) : CallF Tryz.prog ZcU [GF, TF] [.rep (StR N s)] (.is (.string (bl (txQ s)))) :=
CallF.of (fn := Tryz.f46) Tryz.func46 (n := 72) rfl rfl rfl (fun _ _ => by kernel_rfl) fun E W => by
 have htb := hg.tb
 have htb2 : (tx s.tb).length ≤ 2048 := htb
 have hnm := hg.nm
 have hnm2 : (tx s.nm).length ≤ 2048 := hnm
 have hjn := jl (p := tx) hg.nnames fun x hx => Z1G (hg.names x hx)
 have hjc := jl (p := txC) hg.ncols fun x hx => Zam (hg.cols x hx)
 have hjr := jl (p := txR) hg.nrows fun x hx => Z8y (hg.rows x hx)
 have hji := jl (p := txItm) hg.nitems fun x hx => Z6u (hg.items x hx)
 have hjk := jl (p := txKy) hg.norder fun x hx => Z93 (hg.order x hx)
 have hcw := Z4A (w := kWH) qD hg.nwhere hg.where_
 have hcg := Z4A (w := kGB) qD hg.ngroup hg.group
 have hlm := hg.lim
 have hit : 0 ≤ s.limit → (Lib.itoa s.limit).length ≤ 19 := fun h => Zef h hlm.2
 have hqT := fun i hi => ZkB hg (i := i) hi
 refine J.openSt (s := 0) rfl (fun vc vn vr vi vf vw vg vo vs => ?_)
 refine vQ ?_
 refine JO.box rfl rfl fun b1 => ?_
 refine Ja rfl ?_
 refine vP [1] ?_
 refine Jq (Z0 Z1T rfl) ?_
 refine Jq (Z1 Z1Y rfl rfl) ?_
 refine Jq (ZG rfl (Z8d itE rfl (fun _ => rfl) s.items txItm Z9L (fun i hi => Zdt i (hg.items i hi)) hg.nitems (fun x hx => Nat.le_trans (Z6u (hg.items x hx)) qD)) qF (.sub rfl (Sub.noS (G := noS) qI) (.one rfl .nil))) ?_
 refine Jq (Zd rfl rfl (sz2 qZ qZ) (Zy [83, 69, 76, 69, 67, 84, 32] _)) ?_
 refine Jq (Zd (u := bl (qT s 0)) rfl rfl (sz2 qZ qZ) (by rw [qT_0]; exact (Zy _ [32, 70, 82, 79, 77, 32]).trans (congrArg bl (by simp)))) ?_
 refine Ja rfl ?_
 refine vS [1, 3] ?_
 refine J.shapeE (xs := s.from_) (v := vf) qI (fun pf af lf cf bf of_ hpf hvf hlf haf => ?_)
 subst hvf
 refine J.pureF (F := CelF srE pf) qI (fun puf => ?_)
 refine J.shapeE (xs := s.order) (v := vo) qI (fun po ao lo co bo oo_ hpo hvo hlo hao => ?_)
 subst hvo
 have nf : lf = s.from_.length := by rw [← hlf, ← hpf, List.length_map]
 have no : lo = s.order.length := by rw [← hlo, ← hpo, List.length_map]
 have nf64 := hg.nfrom
 refine vQ ?_
 refine Jq (Z0 Z10 rfl) ?_
 refine Jq (Z1 ZR rfl rfl) ?_
 refine Jq (Zo Z1Q rfl) ?_
 refine Jm rfl ?_
 refine vS [1, 3, 12, 13, 14] ?_
 apply yk
 repeat apply yQ
 refine J.loopG (α := Nat) (fun i => [(1, .is (.pointer (some ⟨b1, 0, none⟩))), (3, .is (.string (bl (qT s i)))), (12, .is (.slice af lf cf)), (13, .is (.int .i64 (lf : Nat))), (14, .is (.int .i64 (i : Nat)))]) (fun i => [⟨b1, ZD, .is (stV s vc vn vr vi (.slice af lf cf) vw vg (.slice ao lo co) vs)⟩]) (fun i => fun _ => True) (fun i => i ≤ lf) (fun i => lf - i) 0 [1, 3, 12, 13, 14] (.cons rfl (.cons rfl (.cons rfl (.cons rfl (.cons rfl .nil))))) rfl (fun _ => trivial) (Nat.zero_le _) fun i hi => ?_
 try dsimp only
 try dsimp only at hi
 refine vQ ?_
 refine Jq (ZW rfl rfl) ?_
 refine vS [1, 3, 12, 13, 14, 15] ?_
 refine yC rfl (fun ht15 => ?_) (fun ht15 => ?_)
 try simp only [yd, yf] at ht15
 apply yK
 refine vN ?_
 apply yk
 obtain ⟨a9, c9, hs9⟩ := ZbQ (i := i) puf hpf qM qM
 have hxi : s.from_[i]? = some (s.from_[i]'qM) := List.getElem?_eq_getElem _
 have hm9 := hg.from_ _ (List.mem_of_getElem? hxi)
 have hq9 := hqT i qM
 have ht9 := Z1G hm9.1.1
 have ht9' : (s.from_[i]'qM).tb.data.toList.length ≤ 2048 := ht9
 have hn9 := Z1G hm9.1.2
 have hn9' : (s.from_[i]'qM).nm.data.toList.length ≤ 2048 := hn9
 have hc9 := Z4A (w := kON) qD hm9.2.1 hm9.2.2
 have hpx : (pf[i]'qM).x = s.from_[i]'qM := by have h0 := congrArg (fun l => l[i]?) hpf; simp only [List.getElem?_map] at h0; rw [List.getElem?_eq_getElem qM, List.getElem?_eq_getElem qM] at h0; simpa using h0
 refine J.fact (ExsR (s.from_[i]'qM).on (.slice a9 (s.from_[i]'qM).on.length c9)) (fun X w hF _ w' hk => by rw [← hpx]; exact ZjO (List.getElem_mem _) (hF (CelF srE pf) qI w' hk) (by rw [hs9, hpx])) ?_
 refine vQ ?_
 refine Jm rfl (Jq (Z7 Z1I rfl (haf qM) rfl qM qM) ?_)
 refine Jq (Z2W (enc := Cel.cs) (sz := 3) (i := i) (y := pf[i]'qM) (cs := [.string (s.from_[i]'qM).tb, .string (s.from_[i]'qM).nm, .slice a9 (s.from_[i]'qM).on.length c9]) Z2V rfl qI (haf qM) (List.getElem?_eq_getElem _) qM hs9) ?_
 refine JO.alloc Z45 rfl fun b5 => ?_
 refine Ja rfl ?_
 refine JO.m (Z3 rfl rfl qU qC qO Z3j) (by rfl) ?_
 refine vP [1, 3, 4, 5, 12, 13, 14] ?_
 refine Jm rfl (Jq (Z2i rfl rfl) ?_)
 refine vS [1, 3, 5, 12, 13, 14, 20] ?_
 refine yC rfl (fun ht20 => ?_) (fun ht20 => ?_)
 try simp only [yd, yf] at ht20
 refine vQ ?_
 refine Jm rfl (Jq (Zd rfl rfl (sz2 qZ qZ) (Zy _ [32, 74, 79, 73, 78, 32])) ?_)
 refine Ja rfl ?_
 refine vP [1, 3, 5, 12, 13, 14] ?_
 refine Jm rfl (Jq (Z0 Z2R rfl) ?_)
 refine Jq (Z1 Z9 rfl rfl) ?_
 refine Jq (Zd rfl rfl (sz2 qZ qZ) (Zy _ (tx (s.from_[i]'qM).tb))) ?_
 refine Ja rfl ?_
 refine vP [1, 3, 5, 12, 13, 14] ?_
 refine Jq (Z0 Z2q rfl) ?_
 refine Jq (Z1 Z9 rfl rfl) ?_
 refine Jq (Z0 Z2R rfl) ?_
 refine Jq (Z1 Z9 rfl rfl) ?_
 refine Jq (Z3m rfl rfl) ?_
 refine vS [1, 3, 5, 12, 13, 14, 31] ?_
 refine yC rfl (fun ht31 => ?_) (fun ht31 => ?_)
 try simp only [yd, yf] at ht31
 refine vQ ?_
 refine Jm rfl (Jq (Z0 Z2q rfl) ?_)
 refine Jq (Z1 Z9 rfl rfl) ?_
 refine Jq (Zd rfl rfl (sz2 qZ qZ) (Zy [32, 65, 83, 32] (tx (s.from_[i]'qM).nm))) ?_
 refine Jq (Zd rfl rfl (sz2 qZ qZ) (Zy _ _)) ?_
 refine Ja rfl ?_
 refine vP [1, 3, 5, 12, 13, 14] ?_
 refine Jm rfl (Jq (Z0 Z1O rfl) ?_)
 refine Jq (Z1 Zh rfl rfl) ?_
 refine Jq (ZG rfl (Z2g kON qD _ hm9.2.1 hm9.2.2) qF (.one rfl (.sub rfl (Sub.exsV qI) .nil))) ?_
 refine Jq (Zd (u := bl (qT s (i + 1))) rfl rfl (sz2 qZ qZ) (by rw [Zy, Zac hxi]; refine congrArg bl ?_; unfold txSrc; (first | rw [if_pos (show 0 < i by omega)] | rw [if_neg (show ¬ 0 < i by omega)]); (first | rw [if_pos (by rw [← Z2L]; simpa using ht31)] | rw [if_neg (by rw [← Z2L]; simpa using ht31)]); simp)) ?_
 refine Ja rfl ?_
 refine vP [1, 3, 12, 13, 14] ?_
 refine Jq (ZE (cc := ((i + 1 : Nat) : Int)) rfl rfl qM qM qM) ?_
 refine Jm rfl ?_
 apply yI
 repeat refine JX.normal_block ?_
 refine JX.roundG (x := i) (i + 1) ?_ ?_ [1, 3, 12, 13, 14] ?_ ?_ ?_ ?_
 · exact qM
 · exact qM
 · exact qS
 · exact qH
 · exact qG
 · exact fun _ _ _ => fun _ _ => trivial
 try simp only [yd, yf] at ht31
 apply yK
 refine vN ?_
 apply yN
 refine Jm rfl (Jq (Z0 Z1O rfl) ?_)
 refine Jq (Z1 Zh rfl rfl) ?_
 refine Jq (ZG rfl (Z2g kON qD _ hm9.2.1 hm9.2.2) qF (.one rfl (.sub rfl (Sub.exsV qI) .nil))) ?_
 refine Jq (Zd (u := bl (qT s (i + 1))) rfl rfl (sz2 qZ qZ) (by rw [Zy, Zac hxi]; refine congrArg bl ?_; unfold txSrc; (first | rw [if_pos (show 0 < i by omega)] | rw [if_neg (show ¬ 0 < i by omega)]); (first | rw [if_pos (by rw [← Z2L]; simpa using ht31)] | rw [if_neg (by rw [← Z2L]; simpa using ht31)]); simp)) ?_
 refine Ja rfl ?_
 refine vP [1, 3, 12, 13, 14] ?_
 refine Jq (ZE (cc := ((i + 1 : Nat) : Int)) rfl rfl qM qM qM) ?_
 refine Jm rfl ?_
 apply yI
 repeat refine JX.normal_block ?_
 refine JX.roundG (x := i) (i + 1) ?_ ?_ [1, 3, 12, 13, 14] ?_ ?_ ?_ ?_
 · exact qM
 · exact qM
 · exact qS
 · exact qH
 · exact qG
 · exact fun _ _ _ => fun _ _ => trivial
 try simp only [yd, yf] at ht20
 apply yK
 refine vN ?_
 apply yN
 refine Jm rfl (Jq (Z0 Z2R rfl) ?_)
 refine Jq (Z1 Z9 rfl rfl) ?_
 refine Jq (Zd rfl rfl (sz2 qZ qZ) (Zy _ (tx (s.from_[i]'qM).tb))) ?_
 refine Ja rfl ?_
 refine vP [1, 3, 5, 12, 13, 14] ?_
 refine Jq (Z0 Z2q rfl) ?_
 refine Jq (Z1 Z9 rfl rfl) ?_
 refine Jq (Z0 Z2R rfl) ?_
 refine Jq (Z1 Z9 rfl rfl) ?_
 refine Jq (Z3m rfl rfl) ?_
 refine vS [1, 3, 5, 12, 13, 14, 31] ?_
 refine yC rfl (fun ht31 => ?_) (fun ht31 => ?_)
 try simp only [yd, yf] at ht31
 refine vQ ?_
 refine Jm rfl (Jq (Z0 Z2q rfl) ?_)
 refine Jq (Z1 Z9 rfl rfl) ?_
 refine Jq (Zd rfl rfl (sz2 qZ qZ) (Zy [32, 65, 83, 32] (tx (s.from_[i]'qM).nm))) ?_
 refine Jq (Zd rfl rfl (sz2 qZ qZ) (Zy _ _)) ?_
 refine Ja rfl ?_
 refine vP [1, 3, 5, 12, 13, 14] ?_
 refine Jm rfl (Jq (Z0 Z1O rfl) ?_)
 refine Jq (Z1 Zh rfl rfl) ?_
 refine Jq (ZG rfl (Z2g kON qD _ hm9.2.1 hm9.2.2) qF (.one rfl (.sub rfl (Sub.exsV qI) .nil))) ?_
 refine Jq (Zd (u := bl (qT s (i + 1))) rfl rfl (sz2 qZ qZ) (by rw [Zy, Zac hxi]; refine congrArg bl ?_; unfold txSrc; (first | rw [if_pos (show 0 < i by omega)] | rw [if_neg (show ¬ 0 < i by omega)]); (first | rw [if_pos (by rw [← Z2L]; simpa using ht31)] | rw [if_neg (by rw [← Z2L]; simpa using ht31)]); simp)) ?_
 refine Ja rfl ?_
 refine vP [1, 3, 12, 13, 14] ?_
 refine Jq (ZE (cc := ((i + 1 : Nat) : Int)) rfl rfl qM qM qM) ?_
 refine Jm rfl ?_
 apply yI
 repeat refine JX.normal_block ?_
 refine JX.roundG (x := i) (i + 1) ?_ ?_ [1, 3, 12, 13, 14] ?_ ?_ ?_ ?_
 · exact qM
 · exact qM
 · exact qS
 · exact qH
 · exact qG
 · exact fun _ _ _ => fun _ _ => trivial
 try simp only [yd, yf] at ht31
 apply yK
 refine vN ?_
 apply yN
 refine Jm rfl (Jq (Z0 Z1O rfl) ?_)
 refine Jq (Z1 Zh rfl rfl) ?_
 refine Jq (ZG rfl (Z2g kON qD _ hm9.2.1 hm9.2.2) qF (.one rfl (.sub rfl (Sub.exsV qI) .nil))) ?_
 refine Jq (Zd (u := bl (qT s (i + 1))) rfl rfl (sz2 qZ qZ) (by rw [Zy, Zac hxi]; refine congrArg bl ?_; unfold txSrc; (first | rw [if_pos (show 0 < i by omega)] | rw [if_neg (show ¬ 0 < i by omega)]); (first | rw [if_pos (by rw [← Z2L]; simpa using ht31)] | rw [if_neg (by rw [← Z2L]; simpa using ht31)]); simp)) ?_
 refine Ja rfl ?_
 refine vP [1, 3, 12, 13, 14] ?_
 refine Jq (ZE (cc := ((i + 1 : Nat) : Int)) rfl rfl qM qM qM) ?_
 refine Jm rfl ?_
 apply yI
 repeat refine JX.normal_block ?_
 refine JX.roundG (x := i) (i + 1) ?_ ?_ [1, 3, 12, 13, 14] ?_ ?_ ?_ ?_
 · exact qM
 · exact qM
 · exact qS
 · exact qH
 · exact qG
 · exact fun _ _ _ => fun _ _ => trivial
 try simp only [yd, yf] at ht15
 repeat apply yQ
 refine J.exit ?_
 repeat first|refine yH ?_|refine yM rfl ?_|refine yE ?_
 repeat first|apply yX|apply yB
 have hif : i = s.from_.length := by omega
 have hq9 := hqT i qM
 repeat apply yQ
 refine J.reg0 hmx qK qK ?_
 refine yz (Z2 rfl) ?_
 refine yz (Z0 Z29 rfl) ?_
 refine yz (Z1 Zh rfl rfl) ?_
 refine yz (ZG rfl (Z2g kWH qD _ hg.nwhere hg.where_) qF (.one rfl (.sub rfl (Sub.exsG (xs := s.where_) (G := FX N) qI) .nil))) ?_
 refine yz (Z0 Z3q rfl) ?_
 refine yz (Z1 Zh rfl rfl) ?_
 refine yz (ZG rfl (Z2g kGB qD _ hg.ngroup hg.group) qF (.one rfl (.sub rfl (Sub.exsV (xs := s.group) qI) .nil))) ?_
 refine yz (Zd rfl rfl (sz2 qZ qZ) (Zy _ _)) ?_
 refine yz (Zd rfl rfl (sz2 qZ qZ) (Zy _ _)) ?_
 refine yz (Z1s rfl) ?_
 apply yn
 refine FinS.nil0 ?_
 refine vP [1, 3] ?_
 refine Jq (Z0 Z1p rfl) ?_
 refine Jq (Z1 Z1S rfl rfl) ?_
 refine Jq (Zo Z2b rfl) ?_
 refine Jq (Z2i rfl rfl) ?_
 refine vS [1, 3, 55] ?_
 refine yC rfl (fun ht55 => ?_) (fun ht55 => ?_)
 try simp only [yd, yf] at ht55
 refine vQ ?_
 refine Jm rfl (Jq (Z0 Z1p rfl) ?_)
 refine Jq (Z1 Z1S rfl rfl) ?_
 refine Jq (ZG rfl (Z94 kyE rfl (fun _ => rfl) s.order txKy ZaI (fun k hk => ZeF k (hg.order k hk)) hg.norder (fun x hx => Nat.le_trans (Z93 (hg.order x hx)) qD)) qF (.sub rfl (Sub.noS (G := noS) qI) (.one rfl .nil))) ?_
 refine Jq (Zd rfl rfl (sz2 qZ qZ) (Zy [32, 79, 82, 68, 69, 82, 32, 66, 89, 32] _)) ?_
 refine Jq (Zd rfl rfl (sz2 qZ qZ) (Zy _ _)) ?_
 refine Ja rfl ?_
 refine vP [1, 3] ?_
 refine Jq (Z0 Z1M rfl) ?_
 refine Jq (Z1 Zt rfl rfl) ?_
 refine Jq (Z8E rfl rfl) ?_
 refine vS [1, 3, 64] ?_
 refine yC rfl (fun ht64 => ?_) (fun ht64 => ?_)
 try simp only [yd, yf] at ht64
 refine vQ ?_
 refine Jm rfl (Jq (Z0 Z1M rfl) ?_)
 refine Jq (Z1 Zt rfl rfl) ?_
 refine Jq (ZG rfl (Z8f s.limit qM hlm.2) qF qA) ?_
 refine Jq (Zd rfl rfl (sz2 qZ qZ) (Zy [32, 76, 73, 77, 73, 84, 32] (Lib.itoa s.limit))) ?_
 refine Jq (Zd rfl rfl (sz2 qZ qZ) (Zy _ _)) ?_
 refine Ja rfl ?_
 refine vP [3] ?_
 refine Jm rfl (Ja rfl ?_)
 refine vS [2] ?_
 refine vR ?_
 exact JX.ret1is rfl rfl (by unfold txQ txOr txLim; rw [Zbi hif, if_neg (fun h9 => by rw [List.isEmpty_iff.1 h9] at no; simp at no ht55; omega), if_pos (by simpa using ht64)]; simp)
 try simp only [yd, yf] at ht64
 apply yK
 refine vN ?_
 apply yN
 refine Jm rfl (Ja rfl ?_)
 refine vS [2] ?_
 refine vR ?_
 exact JX.ret1is rfl rfl (by unfold txQ txOr txLim; rw [Zbi hif, if_neg (fun h9 => by rw [List.isEmpty_iff.1 h9] at no; simp at no ht55; omega), if_neg (by simpa using ht64)]; simp)
 try simp only [yd, yf] at ht55
 apply yK
 refine vN ?_
 apply yN
 refine Jq (Z0 Z1M rfl) ?_
 refine Jq (Z1 Zt rfl rfl) ?_
 refine Jq (Z8E rfl rfl) ?_
 refine vS [1, 3, 64] ?_
 refine yC rfl (fun ht64 => ?_) (fun ht64 => ?_)
 try simp only [yd, yf] at ht64
 refine vQ ?_
 refine Jm rfl (Jq (Z0 Z1M rfl) ?_)
 refine Jq (Z1 Zt rfl rfl) ?_
 refine Jq (ZG rfl (Z8f s.limit qM hlm.2) qF qA) ?_
 refine Jq (Zd rfl rfl (sz2 qZ qZ) (Zy [32, 76, 73, 77, 73, 84, 32] (Lib.itoa s.limit))) ?_
 refine Jq (Zd rfl rfl (sz2 qZ qZ) (Zy _ _)) ?_
 refine Ja rfl ?_
 refine vP [3] ?_
 refine Jm rfl (Ja rfl ?_)
 refine vS [2] ?_
 refine vR ?_
 exact JX.ret1is rfl rfl (by unfold txQ txOr txLim; rw [Zbi hif, if_pos (List.isEmpty_iff.2 (List.length_eq_zero_iff.1 (by simp at ht55; omega))), if_pos (by simpa using ht64)]; simp)
 try simp only [yd, yf] at ht64
 apply yK
 refine vN ?_
 apply yN
 refine Jm rfl (Ja rfl ?_)
 refine vS [2] ?_
 refine vR ?_
 exact JX.ret1is rfl rfl (by unfold txQ txOr txLim; rw [Zbi hif, if_pos (List.isEmpty_iff.2 (List.length_eq_zero_iff.1 (by simp at ht55; omega))), if_neg (by simpa using ht64)]; simp)
theorem ZlE {α : Type} (p : α → List UInt8) (xs : List α) (n : Nat) (h : n = xs.length) (hn : xs.length ≤ 64) (hl : ∀ x ∈ xs, (p x).length ≤ 400000000000) : CallTy Tryz.prog Z6c [.rep (SlE stE noS (jT p xs n)), .is (.string ⟨#[44, 32]⟩)] (.is (.string (bl (joinC (xs.map p))))) := by
 have := Z2y (jT p xs n) ⟨#[44, 32]⟩ (by subst h; simp; omega) (Zab h hn hl)
 rw [Z79 h, show (⟨#[44, 32]⟩ : ByteArray).data.toList = [44, 32] from rfl, Z4L] at this
 exact this
set_option maxHeartbeats 2000000 in
theorem Z6G (N : Nat) (s : Pz.St) (hg : GoodS s) (hk9 : 1 ≤ s.kind ∧ s.kind ≤ 9) : CallF Tryz.prog ZcV [GF, TF] [.rep (StR N s)] (.is (.string (bl (txS s)))) :=
CallF.of (fn := Tryz.f20) Tryz.func20 (n := 100) rfl rfl rfl (fun _ _ => by kernel_rfl) fun E W => by
 have htb := hg.tb
 have htb2 : (tx s.tb).length ≤ 2048 := htb
 have hnm := hg.nm
 have hnm2 : (tx s.nm).length ≤ 2048 := hnm
 have hjn := jl (p := tx) hg.nnames fun x hx => Z1G (hg.names x hx)
 have hjc := jl (p := txC) hg.ncols fun x hx => Zam (hg.cols x hx)
 have hjr := jl (p := txR) hg.nrows fun x hx => Z8y (hg.rows x hx)
 have hji := jl (p := txItm) hg.nitems fun x hx => Z6u (hg.items x hx)
 have hjk := jl (p := txKy) hg.norder fun x hx => Z93 (hg.order x hx)
 have hcw := Z4A (w := kWH) qD hg.nwhere hg.where_
 have hcg := Z4A (w := kGB) qD hg.ngroup hg.group
 have hjs : (joinC ((s.names.zip s.sets).map txSet)).length ≤ 64 * (20510000 + 2) := jl (p := txSet) (by rw [List.length_zip]; have := hg.nnames; omega) fun x hx => Zcu (hg.names _ (List.of_mem_zip hx).1) (hg.sets _ (List.of_mem_zip hx).2)
 refine J.openSt (s := 0) rfl (fun vc vn vr vi vf vw vg vo vs => ?_)
 refine vQ ?_
 refine JO.box rfl rfl fun b1 => ?_
 refine Ja rfl ?_
 refine vP [1] ?_
 refine Jq (Z0 Z52 rfl) ?_
 refine Jq (Z1 Zt rfl rfl) ?_
 refine vS [1, 8] ?_
 apply yk
 refine vQ ?_
 refine Jq (ZM rfl rfl) ?_
 refine Ja rfl ?_
 refine vS [1, 8, 9] ?_
 refine yC rfl (fun ht9 => ?_) (fun ht9 => ?_)
 try simp only [yd, yf] at ht9
 repeat apply yQ
 refine J.reg0 hmx qK qK ?_
 refine yz (Z0 Z27 rfl) ?_
 refine yz (Z1 Z9 rfl rfl) ?_
 refine yz (Zd rfl rfl (sz2 qZ qZ) (Zy [67, 82, 69, 65, 84, 69, 32, 84, 65, 66, 76, 69, 32] (tx s.tb))) ?_
 refine yz (Zd rfl rfl (sz2 qZ qZ) (Zy _ [32, 40])) ?_
 refine yz (Z0 Z2Z rfl) ?_
 refine yz (Z1 Z2A rfl rfl) ?_
 refine yz (ZG rfl (Z7l coE rfl (fun _ => rfl) s.cols txC Z8B (fun c hc => ZbY c (hg.cols c hc)) hg.ncols (fun x hx => Nat.le_trans (Zam (hg.cols x hx)) qD)) qF (.sub rfl (Sub.noS (G := FC N) qI) (.one rfl .nil))) ?_
 refine yz (Zd rfl rfl (sz2 qZ qZ) (Zy _ _)) ?_
 refine yz (Zd rfl rfl (sz2 qZ qZ) (Zy _ [41])) ?_
 refine yz (Z1s rfl) ?_
 apply yn
 refine FinS.nil0 ?_
 refine vS [2] ?_
 refine vR ?_
 exact JX.ret1is rfl rfl (by unfold txS; rw [if_pos ht9]; simp)
 try simp only [yd, yf] at ht9
 refine vQ ?_
 refine Jq (ZM rfl rfl) ?_
 refine Ja rfl ?_
 refine vS [1, 8, 20] ?_
 refine yC rfl (fun ht20 => ?_) (fun ht20 => ?_)
 try simp only [yd, yf] at ht20
 repeat apply yQ
 refine J.reg0 hmx qK qK ?_
 refine yz (Z0 Z51 rfl) ?_
 refine yz (Z1 Z9 rfl rfl) ?_
 refine yz (Zd rfl rfl (sz2 qZ qZ) (Zy [67, 82, 69, 65, 84, 69, 32, 73, 78, 68, 69, 88, 32] (tx s.nm))) ?_
 refine yz (Zd rfl rfl (sz2 qZ qZ) (Zy _ [32, 79, 78, 32])) ?_
 refine yz (Z0 Z27 rfl) ?_
 refine yz (Z1 Z9 rfl rfl) ?_
 refine yz (Zd rfl rfl (sz2 qZ qZ) (Zy _ (tx s.tb))) ?_
 refine yz (Zd rfl rfl (sz2 qZ qZ) (Zy _ [32, 40])) ?_
 refine yz (Z0 Z1u rfl) ?_
 refine yz (Z1 Z2m rfl rfl) ?_
 refine yz (ZL rfl (c_SJ s.names hg.nnames hg.names) (.sub rfl (Sub.noS (G := FN N) qI) qA)) ?_
 refine yz (Zd rfl rfl (sz2 qZ qZ) (Zy _ _)) ?_
 refine yz (Zd rfl rfl (sz2 qZ qZ) (Zy _ [41])) ?_
 refine yz (Z1s rfl) ?_
 apply yn
 refine FinS.nil0 ?_
 refine vP [1, 3] ?_
 refine Jq (Z0 Z4J rfl) ?_
 refine Jq (Z1 Z3r rfl rfl) ?_
 refine vS [3, 36] ?_
 refine yC rfl (fun ht36 => ?_) (fun ht36 => ?_)
 try simp only [yd, yf] at ht36
 refine vQ ?_
 refine Jm rfl (Jq (Zd rfl rfl (sz2 qZ qZ) (Zy _ [32, 85, 83, 73, 78, 71, 32, 72, 65, 83, 72])) ?_)
 refine Ja rfl ?_
 refine vP [3] ?_
 refine Jm rfl (Ja rfl ?_)
 refine vS [2] ?_
 refine vR ?_
 exact JX.ret1is rfl rfl (by unfold txS; rw [if_neg (by rw [ht9]; simp), if_pos ht20, if_pos ht36]; simp)
 try simp only [yd, yf] at ht36
 apply yK
 refine vN ?_
 apply yN
 refine Jm rfl (Ja rfl ?_)
 refine vS [2] ?_
 refine vR ?_
 exact JX.ret1is rfl rfl (by unfold txS; rw [if_neg (by rw [ht9]; simp), if_pos ht20, if_neg (by rw [ht36]; simp)]; simp)
 try simp only [yd, yf] at ht20
 refine vQ ?_
 refine Jq (ZM rfl rfl) ?_
 refine Ja rfl ?_
 refine vS [1, 8, 40] ?_
 refine yC rfl (fun ht40 => ?_) (fun ht40 => ?_)
 try simp only [yd, yf] at ht40
 refine vQ ?_
 refine Jq (ZI (cs := [_, _, _, _, _, _, _, _, _, _, _, _, _, _]) Zc rfl rfl rfl) ?_
 refine Jq (ZG rfl (ZbT N s hg) qF (.sub rfl (Sub.st rfl fun X w hf w' hk => ⟨hf _ qI w' hk, hf _ qI w' hk, hf _ qI w' hk, hf _ qI w' hk, hf _ qI w' hk, hf _ qI w' hk, hf _ qI w' hk, hf _ qI w' hk, hf _ qI w' hk⟩) .nil)) ?_
 refine Ja rfl ?_
 refine vS [2] ?_
 refine vR ?_
 exact JX.ret1is rfl rfl (by unfold txS; rw [if_neg (by rw [ht9]; simp), if_neg (by rw [ht20]; simp), if_pos ht40])
 try simp only [yd, yf] at ht40
 refine vQ ?_
 refine Jq (ZM rfl rfl) ?_
 refine Ja rfl ?_
 refine vS [1, 8, 44] ?_
 refine yC rfl (fun ht44 => ?_) (fun ht44 => ?_)
 try simp only [yd, yf] at ht44
 refine vQ ?_
 refine Jq (ZI (cs := [_, _, _, _, _, _, _, _, _, _, _, _, _, _]) Zc rfl rfl rfl) ?_
 refine Jq (ZG rfl (ZcN N s hg) qF (.sub rfl (Sub.st rfl fun X w hf w' hk => ⟨hf _ qI w' hk, hf _ qI w' hk, hf _ qI w' hk, hf _ qI w' hk, hf _ qI w' hk, hf _ qI w' hk, hf _ qI w' hk, hf _ qI w' hk, hf _ qI w' hk⟩) .nil)) ?_
 refine Ja rfl ?_
 refine vS [2] ?_
 refine vR ?_
 exact JX.ret1is rfl rfl (by unfold txS; rw [if_neg (by rw [ht9]; simp), if_neg (by rw [ht20]; simp), if_neg (by rw [ht40]; simp), if_pos ht44])
 try simp only [yd, yf] at ht44
 refine vQ ?_
 refine Jq (ZM rfl rfl) ?_
 refine Ja rfl ?_
 refine vS [1, 8, 48] ?_
 refine yC rfl (fun ht48 => ?_) (fun ht48 => ?_)
 try simp only [yd, yf] at ht48
 have h5 : s.kind = 5 := by simpa using ht48
 have hns : s.sets.length = s.names.length := hg.nsets.resolve_right (fun h => h h5)
 have hnn64 := hg.nnames
 refine vQ ?_
 refine Ja rfl ?_
 refine vS [1, 4] ?_
 refine J.shapeE (xs := s.names) (v := vn) qI (fun pn an ln cn bn on_ hpn hvn hln han => ?_)
 subst hvn
 refine J.pureF (F := CelF stE pn) qI (fun pun => ?_)
 refine J.shapeK (xs := s.sets) (v := vs) qI (fun ax lx cx bx ox_ hvx hlx hax => ?_)
 subst hvx
 have nn : ln = s.names.length := by rw [← hln, ← hpn, List.length_map]
 have nx : lx = s.sets.length := hlx.symm
 refine vQ ?_
 refine Jq (Z0 Z1u rfl) ?_
 refine Jq (Z1 Z2m rfl rfl) ?_
 refine Jq (Zo ZX rfl) ?_
 refine Jm rfl ?_
 refine vS [1, 4, 51, 52, 53] ?_
 apply yk
 repeat apply yQ
 refine J.loopG (α := Nat × Option (Nat × List Value) × Nat) (fun z => [(1, .is (.pointer (some ⟨b1, 0, none⟩))), (4, .is (sliceO z.2.1 (jT txSet (s.names.zip s.sets) z.1).length z.2.2)), (51, .is (.slice an ln cn)), (52, .is (.int .i64 (ln : Nat))), (53, .is (.int .i64 (z.1 : Nat)))]) (fun z => ownO z.2.1 Zx [⟨b1, ZD, .is (stV s vc (.slice an ln cn) vr vi vf vw vg vo (.slice ax lx cx))⟩]) (fun z => fun _ => True) (fun z => z.1 ≤ ln ∧ Grows strC 1 (jT txSet (s.names.zip s.sets) z.1) z.2.1 z.2.2) (fun z => ln - z.1) (0, none, 0) [1, 4, 51, 52, 53] (.cons rfl (.cons rfl (.cons rfl (.cons rfl (.cons rfl .nil))))) rfl (fun _ => trivial) ⟨by omega, rfl⟩ fun ⟨i, st, cp⟩ ⟨hi, hG⟩ => ?_
 try dsimp only
 try dsimp only at st
 try dsimp only at cp
 try dsimp only at hi
 try dsimp only at hG
 refine vQ ?_
 refine Jq (ZW rfl rfl) ?_
 refine vS [1, 4, 51, 52, 53, 54] ?_
 refine yC rfl (fun ht54 => ?_) (fun ht54 => ?_)
 try simp only [yd, yf] at ht54
 apply yK
 refine vN ?_
 apply yk
 refine vQ ?_
 refine Jm rfl (Jq (Z7 Z1B rfl (han qM) rfl qM qM) ?_)
 refine Jq (ZJ (enc := Cel.cs) (sz := 1) (i := i) (j := 0) (y := pn[i]'qM) (u := .string (s.names[i]'qM)) Z9 rfl qI (han qM) (List.getElem?_eq_getElem _) qM (by rw [ZbP pun hpn qM qM]; rfl)) ?_
 refine Ja rfl (Ja rfl ?_)
 refine vP [1, 4, 5, 6, 51, 52, 53] ?_
 refine Jm rfl (Jq (Z0 Z36 rfl) ?_)
 refine Jq (Z1 Zh rfl rfl) ?_
 refine Jq (Zo Zl rfl) ?_
 refine Jq (ZW rfl rfl) ?_
 refine vS [1, 4, 5, 6, 51, 52, 53, 62] ?_
 refine yC rfl (fun ht62 => ?_) (fun ht62 => ?_)
 try simp only [yd, yf] at ht62
 have hzi := setIs (s := s) (i := i) qM qM
 have h9n := Z1G (hg.names _ (List.getElem_mem (by omega : i < s.names.length)))
 have h9n' : (s.names[i]'qM).data.toList.length ≤ 2048 := h9n
 have h9s := (hg.sets _ (Z2X (xs := s.sets) (i := i) qM)).len
 refine vQ ?_
 refine Jm rfl (Jm rfl (Jq (Zd rfl rfl (sz2 qZ qZ) (Zy (tx (s.names[i]'qM)) [32, 61, 32])) ?_))
 refine Jq (Z0 Z36 rfl) ?_
 refine Jq (Z1 Zh rfl rfl) ?_
 refine Jm rfl (Jq (Z7 Z1X rfl (hax qM) rfl qM qM) ?_)
 refine Jq (Z3s (kid := s.sets.getD i ex0) Za rfl qI (hax qM) (Z2Y qM) qM) ?_
 refine Jq (ZG rfl (c_PE (hg.sets _ (Z2X qM)).1 (hg.sets _ (Z2X qM)).2) qF (.one rfl .nil)) ?_
 refine Jq (Zd (u := bl (txSet (s.names[i]'qM, s.sets.getD i ex0))) rfl rfl (sz2 qZ qZ) (by rw [Zy]; exact congrArg bl (by simp [txSet]))) ?_
 refine Jq (ZF (cs := [_]) Z1c qM qM (.cons rfl .nil) rfl rfl rfl) ?_
 have hkl : (jT txSet (s.names.zip s.sets) i).length = i := by simp; omega
 refine JO.apO (ys := [bl (txSet (s.names[i]'qM, s.sets.getD i ex0))]) Z2r Z2c yV hG rfl rfl (fun L => Z3o ZX rfl rfl) (by simp) (by rw [hkl]; show (i + 1) * 16 ≤ _; omega) (by rw [hkl]; show i + 1 ≤ _; omega) rfl (fun st2 cp2 hG2 => ?_)
 try dsimp only
 rw [← Z3i (setIs qM qM)]
 refine Ja rfl ?_
 refine vP [1, 4, 51, 52, 53] ?_
 refine Jq (ZE (cc := ((i + 1 : Nat) : Int)) rfl rfl qM qM qM) ?_
 refine Jm rfl ?_
 apply yI
 repeat refine JX.normal_block ?_
 refine JX.roundG (x := (i, st, cp)) (i + 1, st2, cp2) ?_ ?_ [1, 4, 51, 52, 53] ?_ ?_ ?_ ?_
 · exact ⟨by show i + 1 ≤ _; omega, by show Grows strC 1 (jT txSet (s.names.zip s.sets) (i + 1)) _ _; rw [Z3i (setIs qM qM)]; exact hG2⟩
 · exact (by show ln - (i + 1) < ln - i; omega)
 · exact qS
 · exact qH
 · exact qG
 · exact fun _ _ _ => fun _ _ => trivial
 try simp only [yd, yf] at ht62
 exfalso
 omega
 try simp only [yd, yf] at ht54
 repeat apply yQ
 refine J.exit ?_
 repeat first|refine yH ?_|refine yM rfl ?_|refine yE ?_
 repeat first|apply yX|apply yB
 have hix : i = (s.names.zip s.sets).length := by rw [List.length_zip]; omega
 have hz64 : (s.names.zip s.sets).length ≤ 64 := by rw [List.length_zip]; omega
 have hzl : ∀ x ∈ s.names.zip s.sets, (txSet x).length ≤ 400000000000 := fun x hx => Nat.le_trans (Zcu (hg.names _ (List.of_mem_zip hx).1) (hg.sets _ (List.of_mem_zip hx).2)) qD
 refine J.freezeO Z2c hG (e := Zx) yV (fun _ h => h) rfl rfl ?_
 rw [hG.sl.1]
 repeat apply yQ
 refine J.reg0 hmx qK qK ?_
 refine yz (Z0 Z27 rfl) ?_
 refine yz (Z1 Z9 rfl rfl) ?_
 refine yz (Zd rfl rfl (sz2 qZ qZ) (Zy [85, 80, 68, 65, 84, 69, 32] (tx s.tb))) ?_
 refine yz (Zd rfl rfl (sz2 qZ qZ) (Zy _ [32, 83, 69, 84, 32])) ?_
 refine yz (Z2 rfl) ?_
 refine yz (ZL rfl (ZlE txSet (s.names.zip s.sets) i hix hz64 hzl) (.sub rfl (Sub.strs qI hG.sl.2) qA)) ?_
 refine yz (Zd rfl rfl (sz2 qZ qZ) (Zy _ _)) ?_
 refine yz (Z0 Z29 rfl) ?_
 refine yz (Z1 Zh rfl rfl) ?_
 refine yz (ZG rfl (Z2g kWH qD _ hg.nwhere hg.where_) qF (.one rfl (.sub rfl (Sub.exsG (xs := s.where_) (G := FX N) qI) .nil))) ?_
 refine yz (Zd rfl rfl (sz2 qZ qZ) (Zy _ _)) ?_
 refine yz (Z1s rfl) ?_
 apply yn
 refine FinS.nil0 ?_
 refine vS [2] ?_
 refine vR ?_
 exact JX.ret1is rfl rfl (by unfold txS; rw [if_neg (by rw [ht9]; simp), if_neg (by rw [ht20]; simp), if_neg (by rw [ht40]; simp), if_neg (by rw [ht44]; simp), if_pos ht48]; simp)
 try simp only [yd, yf] at ht48
 refine vQ ?_
 refine Jq (ZM rfl rfl) ?_
 refine Ja rfl ?_
 refine vS [1, 8, 87] ?_
 refine yC rfl (fun ht87 => ?_) (fun ht87 => ?_)
 try simp only [yd, yf] at ht87
 repeat apply yQ
 refine J.reg0 hmx qK qK ?_
 refine yz (Z0 Z27 rfl) ?_
 refine yz (Z1 Z9 rfl rfl) ?_
 refine yz (Zd rfl rfl (sz2 qZ qZ) (Zy [68, 69, 76, 69, 84, 69, 32, 70, 82, 79, 77, 32] (tx s.tb))) ?_
 refine yz (Z0 Z29 rfl) ?_
 refine yz (Z1 Zh rfl rfl) ?_
 refine yz (ZG rfl (Z2g kWH qD _ hg.nwhere hg.where_) qF (.one rfl (.sub rfl (Sub.exsG (xs := s.where_) (G := FX N) qI) .nil))) ?_
 refine yz (Zd rfl rfl (sz2 qZ qZ) (Zy _ _)) ?_
 refine yz (Z1s rfl) ?_
 apply yn
 refine FinS.nil0 ?_
 refine vS [2] ?_
 refine vR ?_
 exact JX.ret1is rfl rfl (by unfold txS; rw [if_neg (by rw [ht9]; simp), if_neg (by rw [ht20]; simp), if_neg (by rw [ht40]; simp), if_neg (by rw [ht44]; simp), if_neg (by rw [ht48]; simp), if_pos ht87]; simp)
 try simp only [yd, yf] at ht87
 refine vQ ?_
 refine Jq (ZM rfl rfl) ?_
 refine Ja rfl ?_
 refine vS [8, 96] ?_
 refine yC rfl (fun ht96 => ?_) (fun ht96 => ?_)
 try simp only [yd, yf] at ht96
 refine vQ ?_
 refine Ja rfl ?_
 refine vS [2] ?_
 refine vR ?_
 exact JX.ret1is rfl rfl (by unfold txS; rw [if_neg (by rw [ht9]; simp), if_neg (by rw [ht20]; simp), if_neg (by rw [ht40]; simp), if_neg (by rw [ht44]; simp), if_neg (by rw [ht48]; simp), if_neg (by rw [ht87]; simp), if_pos ht96])
 try simp only [yd, yf] at ht96
 refine vQ ?_
 refine Jq (ZM rfl rfl) ?_
 refine Ja rfl ?_
 refine vS [98] ?_
 refine yC rfl (fun ht98 => ?_) (fun ht98 => ?_)
 try simp only [yd, yf] at ht98
 refine vQ ?_
 refine Ja rfl ?_
 refine vS [2] ?_
 refine vR ?_
 exact JX.ret1is rfl rfl (by unfold txS; rw [if_neg (by rw [ht9]; simp), if_neg (by rw [ht20]; simp), if_neg (by rw [ht40]; simp), if_neg (by rw [ht44]; simp), if_neg (by rw [ht48]; simp), if_neg (by rw [ht87]; simp), if_neg (by rw [ht96]; simp), if_pos ht98])
 try simp only [yd, yf] at ht98
 apply yK
 refine vN ?_
 apply yN
 refine Ja rfl ?_
 refine vS [2] ?_
 refine vR ?_
 exact JX.ret1is rfl rfl (by unfold txS; rw [if_neg (by rw [ht9]; simp), if_neg (by rw [ht20]; simp), if_neg (by rw [ht40]; simp), if_neg (by rw [ht44]; simp), if_neg (by rw [ht48]; simp), if_neg (by rw [ht87]; simp), if_neg (by rw [ht96]; simp), if_neg (by rw [ht98]; simp)])
abbrev zSt : Ty := .is (stV st0 nilv nilv nilv nilv nilv nilv nilv nilv nilv)
theorem SrZero {N : Nat} {L : List Own} {Φ : List (World → Prop)} : Sub L Φ zSt (.rep (StR N st0)) := Sub.st rfl fun X w hf w' hk => ⟨Zf (FrS.nil _), Zf (FrS.nil _), Zf trivial, Zf trivial, Zf trivial, Zf (FrS.nil _), Z1b, Zf trivial, Z1b⟩
theorem ZfL (w : World) : (zeroValue 59).run Tryz.prog w = .ok (.agg #[]) w := by
 have hz := Z62
 unfold zeroOf at hz
 cases hq : Tryz.prog.info? 59 with
 | none => rw [hq] at hz; cases hz
 | some i =>
   rw [hq] at hz
   simp only [Option.bind_some] at hz
   simp [zeroValue, typeInfo, hq, hz]
def RecS (b2 b3 : Nat) (T2 : Ty) (e3 : Int) (u u' : FrameMode) (T2' : Ty) (e3' : Int) : Prop := CallRec Tryz.prog Z2N [⟨b2, ZD, T2⟩, ⟨b3, Z1R, .is (.int .i64 e3)⟩] ([.pointer (some ⟨b2, 0, none⟩), .pointer (some ⟨b3, 0, none⟩)].map Ty.is) u u' [⟨b2, ZD, T2'⟩, ⟨b3, Z1R, .is (.int .i64 e3')⟩]
theorem Zh5 (b2 b3 : Nat) (T2 : Ty) (h2 : T2.out = true) (e3 : Int) : RecS b2 b3 T2 e3 .returning .returning T2 e3 :=
 CallRec.of (fn := Tryz.f25) .none Tryz.func25 rfl (n := 11) rfl rfl rfl (fun _ _ => by kernel_rfl) fun E W hb0 => by
 refine Jq (ZeE (d := .struct #[]) qK rfl ZfL rfl) ?_
 refine Jm rfl (Jq (Z3x rfl) ?_)
 refine Jq (Z3v rfl) ?_
 refine JO.alloc Z62 rfl fun b4 => ?_
 refine JO.m (Z3 rfl rfl qU qC qO Z81) (by rfl) ?_
 refine Ja rfl ?_
 refine vP [0, 1, 3] ?_
 refine Jm rfl ?_
 refine vS [0, 1, 9] ?_
 refine yC rfl (fun ht9 => ?_) (fun ht9 => ?_)
 · cases ht9
 · apply yK
   refine JX.normal_ret ?_
   exact JX.retL0 (Lr := [_]) (L1 := fun _ : Unit => [⟨b2, ZD, T2⟩, ⟨b3, Z1R, .is (.int .i64 e3)⟩]) rfl () trivial (List.perm_append_comm (l₁ := [_]) (l₂ := [_, _])) (by simp [h2, Ty.out]) hb0 rfl
theorem Zc1 (b2 b3 : Nat) (T2 : Ty) (h2 : Cnt T2 14) (e3 : Int) : RecS b2 b3 T2 e3 (.panicking flt) (.panicking [{ v := .iface Z8n (.agg #[]), recovered := true }]) zSt 30 :=
 CallRec.of (fn := Tryz.f25) .some Tryz.func25 rfl (n := 11) rfl rfl rfl (fun _ _ => by kernel_rfl) fun E W hb0 => by
 refine Jq (Zes (d := .struct #[]) qK rfl rfl) ?_
 refine Jm rfl (Jq (Z3x rfl) ?_)
 refine Jq (Z3v rfl) ?_
 refine JO.alloc Z62 rfl fun b4 => ?_
 refine JO.m (Z3 rfl rfl qU qC qO Z81) (by rfl) ?_
 refine Ja rfl ?_
 refine vP [0, 1, 3] ?_
 refine Jm rfl ?_
 refine vS [0, 1, 9] ?_
 refine yC rfl (fun ht9 => ?_) (fun ht9 => ?_)
 · repeat apply yQ
   apply yN
   refine Jq (ZB (cs := [_, _, _, _, _, _, _, _, _, _, _, _, _, _]) Z2D .nil rfl rfl) ?_
   refine JO.m (Z3 rfl rfl qU h2 (by exact Z1e rfl rfl) Zu) (by rfl) ?_
   refine JO.m (Z3 rfl rfl qU (by exact Z1e rfl rfl) (by exact Z1e rfl rfl) Z4v) (by rfl) ?_
   apply yI
   refine JX.normal_ret ?_
   exact JX.retL0 (Lr := [_]) (L1 := fun _ : Unit => [⟨b2, ZD, zSt⟩, ⟨b3, Z1R, .is (.int .i64 30)⟩]) rfl () trivial (List.perm_append_comm (l₁ := [_]) (l₂ := [_, _])) rfl hb0 rfl
 · cases ht9
theorem ZbH (b : Nat) (a : Option Addr) (cap : Nat) : CallP Tryz.prog Z47 [⟨b, Z2M, .is (.agg #[.slice a 0 cap])⟩] [] [.is (.pointer (some ⟨b, 0, none⟩))] True flt (fun _ : Unit => False) (fun _ => []) (fun _ => .is (.tuple #[])) :=
 CallP.of (fn := Tryz.f26) Tryz.func26 (n := 43) rfl rfl rfl (fun _ _ => by kernel_rfl) fun E W hb0 => by
 refine vQ ?_
 refine JO.alloc Z1o rfl fun b2 => ?_
 refine vS [0, 2] ?_
 refine J.regS 17 hmx qK qK ?_
 refine yz (Z2 rfl) ?_
 refine yz (Z2 rfl) ?_
 refine yz (Z5 rfl) ?_
 refine yz (Z0 Zk rfl) ?_
 refine yz (Z1 ZA rfl rfl) ?_
 refine yz (Zo Z16 rfl) ?_
 refine yz (Z2i rfl rfl) ?_
 refine yz (Z2 rfl) ?_
 refine yg rfl rfl rfl (fun hg => Z2 (.inl rfl)) ?_
 refine yg rfl rfl rfl (fun hg => Z5 (qR rfl)) ?_
 refine yg rfl rfl rfl (fun hg => Z0 Zk (qR rfl)) ?_
 refine yg rfl rfl rfl (fun hg => Z1 ZA (qR rfl) rfl) ?_
 refine RT.g (T := .is (.bool true)) rfl rfl rfl (fun hg => absurd hg qD) ?_
 refine RT.g (T := .is (.bool true)) rfl rfl rfl (fun hg => absurd hg qD) ?_
 refine RT.g (T := .is (.bool true)) rfl rfl rfl (fun hg => absurd hg qD) ?_
 refine RT.g (T := .is (.bool true)) rfl rfl rfl (fun hg => absurd hg qD) ?_
 refine yz (ZV rfl rfl rfl id) ?_
 apply yn
 refine FinS.tail0 ?_
 refine JO.callPK (Lr := _) (Zb (.pointer (some ⟨b, 0, none⟩)) _) rfl (Z1k _) Z19 qA (fun hbad => ?_) ?_
 · exact JX.pnI trivial
 intro z hz
 exact absurd hz qD
theorem Zkh (ts : List T3) (bb oo cap : Nat) : Value.slice (some ⟨bb, oo, none⟩) ts.length cap = Tk.sl ⟨ts, bb, oo, cap⟩ ts := by
 have hk : Tk.k ⟨ts, bb, oo, cap⟩ ts = 0 := Nat.sub_self _
 have hj : Tk.j ⟨ts, bb, oo, cap⟩ ts = 0 := by unfold Tk.j; rw [hk]; split <;> rfl
 show _ = Value.slice (some ⟨bb, oo + 3 * Tk.j ⟨ts, bb, oo, cap⟩ ts, none⟩) ts.length (cap - Tk.k ⟨ts, bb, oo, cap⟩ ts)
 rw [hk, hj]; rfl
theorem ZkF {l : List T3 × Int} (h : ¬ l.2 = 0) : readS l = (st0, l.2) := by unfold readS; rw [if_neg (by simpa using h)]
theorem ZfI {l : List T3 × Int} (h : l.2 = 0) (hn : wholeP l.1 = none) : readS l = (st0, 30) := by unfold readS; rw [if_pos (by simpa using h)]; unfold readT; rw [hn]
theorem Zlq {l : List T3 × Int} {s : Pz.St} (h : l.2 = 0) (hn : wholeP l.1 = some s) (hd : deepS s = true) : readS l = (st0, 31) := by unfold readS; rw [if_pos (by simpa using h)]; unfold readT; rw [hn]; simp only; rw [if_pos hd]
theorem Zku {l : List T3 × Int} {s : Pz.St} (h : l.2 = 0) (hn : wholeP l.1 = some s) (hd : deepS s = false) : readS l = (s, 0) := by unfold readS; rw [if_pos (by simpa using h)]; unfold readT; rw [hn]; simp only; rw [if_neg (by rw [hd]; decide)]
theorem ZhN {ts : List T3} (h : stmtP (exprP (ts.length + 1)) ts = none) : wholeP ts = none := by unfold wholeP; rw [h]; rfl
theorem Zgz {ts : List T3} {z : Pz.St × List T3} (h : stmtP (exprP (ts.length + 1)) ts = some z) (hs : ¬ (skT 5 Z8r z.2).length = 0) : wholeP ts = none := by
 unfold wholeP; rw [h, Option.bind_some]; split
 · rename_i h2; rw [h2] at hs; exact absurd rfl hs
 · rfl
theorem Zg4 {ts : List T3} {z : Pz.St × List T3} (h : stmtP (exprP (ts.length + 1)) ts = some z) (hs : (skT 5 Z8r z.2).length = 0) : wholeP ts = some z.1 := by
 unfold wholeP; rw [h, Option.bind_some]; rw [List.length_eq_zero_iff.1 hs]
section
variable {P : Program} {c : Ctx} {K : List (Nat × Ty)} {L : List Own} {Φ : List (World → Prop)} {Q : Exit → Act → World → Prop}
theorem Z6d {α : Type} {En : Enc α} {G : GoS} {xs : List α} {v : Value} {w : World} (h : SlE En G xs v w) : v.oneCell' = true := by obtain ⟨ps, a, len, cap, _, rfl, _⟩ := h; rfl
theorem Zdx {xs : List Ex} {v : Value} {w : World} (h : ExsR xs v w) : v.oneCell' = true := by obtain ⟨a, len, cap, rfl, _⟩ := h; rfl
theorem J.openOwnSt {N b : Nat} {e : TypeId} {st : Pz.St} {y : Code} (hj : ∀ vc vn vr vi vf vw vg vo vs : Value, (∀ u ∈ [vc, vn, vr, vi, vf, vw, vg, vo, vs], u.oneCell' = true) → J P c K (⟨b, e, .is (stV st vc vn vr vi vf vw vg vo vs)⟩ :: L) (SlE coE (FC N) st.cols vc :: SlE stE (FN N) st.names vn :: SlE rwE noS st.rows vr :: SlE itE noS st.items vi :: SlE srE noS st.from_ vf :: SlE exE (FX N) st.where_ vw :: ExsR st.group vg :: SlE kyE noS st.order vo :: ExsR st.sets vs :: Φ) y Q) : J P c K (⟨b, e, .rep (StR N st)⟩ :: L) Φ y Q := by
 refine ⟨fun X a w hs => ?_⟩
 obtain ⟨hb, v, hv, hp⟩ := hs.l _ List.mem_cons_self
 obtain ⟨vc, vn, vr, vi, vf, vw, vg, vo, vs, rfl, h1, h2, h3, h4, h5, h6, h7, h8, h9⟩ := ZgX (show Pers X w (StR N st v) from hp)
 refine (hj vc vn vr vi vf vw vg vo vs ?_).out X a w ⟨hs.n, hs.d, hs.wf, hs.k, ?_, hs.ld, ?_, hs.x, hs.xs, hs.keeps, ?_⟩
 · intro u hu
   simp only [List.mem_cons, List.mem_nil_iff, or_false] at hu
   rcases hu with rfl|rfl|rfl|rfl|rfl|rfl|rfl|rfl|rfl
   · exact Z6d h1.now
   · exact Z6d h2.now
   · exact Z6d h3.now
   · exact Z6d h4.now
   · exact Z6d h5.now
   · exact Z6d h6.now
   · exact Zdx h7.now
   · exact Z6d h8.now
   · exact Zdx h9.now
 · intro o ho
   rcases List.mem_cons.1 ho with rfl | ho
   · exact ⟨hb, _, hv, rfl⟩
   · exact hs.l o (List.mem_cons_of_mem _ ho)
 · intro F hF
   simp only [List.mem_cons] at hF
   rcases hF with rfl|rfl|rfl|rfl|rfl|rfl|rfl|rfl|rfl | hF <;> first | assumption|exact hs.f F hF
 · intro o ho
   rcases List.mem_cons.1 ho with rfl | ho
   · exact hs.may ⟨b, e, .rep (StR N st)⟩ List.mem_cons_self
   · exact hs.may o (List.mem_cons_of_mem _ ho)
end
theorem ZbJ {st : Pz.St} {vc vn vr vi vf vw vg vo vs : Value} (h : ∀ u ∈ [vc, vn, vr, vi, vf, vw, vg, vo, vs], u.oneCell' = true) : Cnt (.is (stV st vc vn vr vi vf vw vg vo vs)) 14 := Z1e rfl (by
 simp only [List.mem_cons, List.mem_nil_iff, or_false, forall_eq_or_imp, forall_eq] at h
 simp [Value.cells, h]
 all_goals exact ⟨rfl, rfl, rfl, rfl, rfl⟩)
abbrev lx (s : ByteArray) : List T3 × Int := lexL s.data.toList
theorem ZcI (N : Nat) (s : ByteArray) : CallL Tryz.prog Z50 (Z := Unit) [] [NH N, GF, AF] [.is (.string s)] (fun _ => True) (fun _ => []) (fun _ => .tup2 (.rep (StR N (readS (lx s)).1)) (.is (.int .i64 (readS (lx s)).2))) :=
CallL.ofD (N := N) List.mem_cons_self (fn := Tryz.f13) Tryz.func13 (n := 34) rfl rfl rfl (fun _ _ => by kernel_rfl) fun E W hNW hb0 => by
 refine vQ ?_
 refine JO.alloc Z1o rfl fun b2 => ?_
 refine JO.alloc ZdN rfl fun b3 => ?_
 refine vP [0, 2, 3] ?_
 refine Jm rfl (Jq (ZG rfl (Zhy _) (by simp) (.one rfl .nil)) ?_)
 refine Jm rfl (Jq (Z3x rfl) ?_)
 refine Jq (Z3v rfl) ?_
 refine Ja rfl ?_
 refine JO.m (Z3 rfl rfl qU qC qO Z4v) (by rfl) ?_
 refine vP [2, 3, 4] ?_
 refine Jq (Z1 Z2H rfl rfl) ?_
 refine Jq (Z25 rfl rfl) ?_
 refine vS [2, 3, 4, 12] ?_
 refine yC rfl (fun ht12 => ?_) (fun ht12 => ?_)
 repeat apply yQ
 refine J.regSm 2 3 ([⟨b3, Z1R, .is (.int .i64 (lx s).2)⟩, ⟨b2, ZD, zSt⟩]) ([⟨b3, Z1R, .is (.int .i64 (lx s).2)⟩]) rfl rfl rfl rfl hmx qK rfl rfl qK (fun E w h m hm => h m (by rw [List.mem_singleton.1 hm]; exact List.mem_cons_self)) (fun E w h m hm => h m (by rw [List.mem_singleton.1 hm]; exact List.mem_cons_self)) ?_
 refine yz (ZB (cs := [_, _, _, _, _, _, _, _, _, _, _, _, _, _]) Z2D .nil rfl rfl) ?_
 refine yz (Z1 Z2H rfl rfl) ?_
 refine RT.store (BigOb.store rfl (Z3 rfl rfl qU (by exact Z1e rfl rfl) (by exact Z1e rfl rfl) Zu)) ?_
 apply yn
 refine JO.m (Z3 rfl rfl qU qC qO Z4v) (by rfl) ?_
 refine vS [2, 3] ?_
 refine vR ?_
 refine JX.ret0D ?_
 exact JX.retLCC (Lr := _) (L1 := fun _ : Unit => []) (A := .rep (StR N st0)) (B := .int .i64 (lx s).2) (R := fun _ => .tup2 (.rep (StR N (readS (lx s)).1)) (.is (.int .i64 (readS (lx s)).2))) rfl () trivial (.refl _) rfl hb0 rfl rfl Zc Z2H qI qI (Z1i rfl) rfl rfl SrZero (by show Ty.tup2 (.rep (StR N (readS (lx s)).1)) (.is (.int .i64 (readS (lx s)).2)) = _; rw [ZkF (l := lx s) (by simpa using ht12)])
 apply yK
 repeat first|apply yX|apply yB
 have hq : (lx s).2 = 0 := by first|exact ht12 | simpa using ht12
 refine vQ ?_
 refine Jq (Z3w .nil (.cons rfl (.cons rfl .nil))) ?_
 refine JO.defer rfl ?_
 refine vS [2, 3, 4] ?_
 refine J.openSlC (s := 4) rfl (fun a len cap bb oo hl ha hlc => ?_)
 have h9 : (lx s).1.length ≤ 2049 := Zea _
 by_cases hn : (lx s).1 = []
 · have hz0 : (lx s).1 = [] := hn
   refine vQ ?_
   refine Jm rfl (Jq (ZB (cs := [_]) Z7z (.cons rfl .nil) rfl rfl) ?_)
   refine JO.box rfl rfl fun b18 => ?_
   refine Ja rfl ?_
   refine vP [2, 3, 5] ?_
   refine Jm rfl ?_
   refine JO.callPK (Lr := [_, _]) (ZbH b18 a cap) rfl (by rw [show len = 0 by rw [← hl, hn]; rfl]; exact .refl _) Z19 qA (fun _ => ?_) (fun _ h => h.elim)
   (repeat (first|refine JX.pan_pass ?_|refine JX.pan_block ?_))
   refine JX.panD (f := Z2N) (cap := [.pointer (some ⟨b2, 0, none⟩), .pointer (some ⟨b3, 0, none⟩)]) (L0 := [⟨b2, ZD, zSt⟩, ⟨b3, Z1R, .is (.int .i64 (lx s).2)⟩]) (Lr := []) (Zc1 b2 b3 _ (by exact Z1e rfl rfl) _) rfl (.swap _ _ _) ?_
   exact JX.retLCC (Lr := _) (L1 := fun _ : Unit => []) (A := .rep (StR N st0)) (B := .int .i64 30) (R := fun _ => .tup2 (.rep (StR N (readS (lx s)).1)) (.is (.int .i64 (readS (lx s)).2))) rfl () trivial (.refl _) rfl hb0 rfl rfl Zc Z2H qI qI (Z1i rfl) rfl rfl SrZero (by show Ty.tup2 (.rep (StR N (readS (lx s)).1)) (.is (.int .i64 (readS (lx s)).2)) = _; rw [ZfI hq (by rw [hz0]; rfl)])
 have ha2 := ha (by rw [← hl]; exact fun h => hn (List.length_eq_zero_iff.1 h))
 subst ha2 hl
 rw [Zkh]
 refine vQ ?_
 refine Jm rfl (Jq (ZB (cs := [_]) Z7z (.cons rfl .nil) rfl rfl) ?_)
 refine JO.box rfl rfl fun b18 => ?_
 refine Ja rfl ?_
 refine vP [2, 3, 5] ?_
 refine Jm rfl ?_
 refine JO.callPK (Lr := [_, _]) (Z6B N ⟨(lx s).1, bb, oo, cap⟩ hlc h9 b18 (lx s).1 (List.suffix_refl _) ((lx s).1.length + 1) (Nat.lt_succ_self _)) rfl (.refl _) qF qA (fun hbad => ?_) ?_
 · (repeat (first|refine JX.pan_pass ?_|refine JX.pan_block ?_))
   refine JX.panD (f := Z2N) (cap := [.pointer (some ⟨b2, 0, none⟩), .pointer (some ⟨b3, 0, none⟩)]) (L0 := [⟨b2, ZD, zSt⟩, ⟨b3, Z1R, .is (.int .i64 (lx s).2)⟩]) (Lr := []) (Zc1 b2 b3 _ (by exact Z1e rfl rfl) _) rfl (.swap _ _ _) ?_
   exact JX.retLCC (Lr := _) (L1 := fun _ : Unit => []) (A := .rep (StR N st0)) (B := .int .i64 30) (R := fun _ => .tup2 (.rep (StR N (readS (lx s)).1)) (.is (.int .i64 (readS (lx s)).2))) rfl () trivial (.refl _) rfl hb0 rfl rfl Zc Z2H qI qI (Z1i rfl) rfl rfl SrZero (by show Ty.tup2 (.rep (StR N (readS (lx s)).1)) (.is (.int .i64 (readS (lx s)).2)) = _; rw [ZfI hq (ZhN hbad)])
 intro z hz
 have hzs : z.2 <:+ (lx s).1 := ZhW (Z2l _) hz
 refine vD ?_
 refine JO.m (Z3 rfl rfl qU (by exact Z1e rfl rfl) (by exact Z3C) Zu) (by rfl) ?_
 refine vP [2, 3, 5] ?_
 refine Jm rfl ?_
 refine JO.callK (Lr := [_, _]) (Ze ⟨(lx s).1, bb, oo, cap⟩ hlc b18 z.2 hzs Z8r) rfl (.refl _) qF qA ?_
 intro _ _
 refine vD ?_
 refine vP [2, 3, 5] ?_
 refine Jm rfl (Jm rfl (Jq (Z5 rfl) ?_))
 refine Jq (Z0 Zk rfl) ?_
 refine Jq (Z1 ZA rfl rfl) ?_
 refine Jq (Zo Z16 rfl) ?_
 refine Jq (ZM rfl rfl) ?_
 refine JO.callPK (Lr := _) (Zb (.pointer (some ⟨b18, 0, none⟩)) _) rfl (Z1k _) qF qA (fun hbad => ?_) ?_
 · (repeat (first|refine JX.pan_pass ?_|refine JX.pan_block ?_))
   refine JX.panD (f := Z2N) (cap := [.pointer (some ⟨b2, 0, none⟩), .pointer (some ⟨b3, 0, none⟩)]) (L0 := [⟨b2, ZD, .rep (StR N z.1)⟩, ⟨b3, Z1R, .is (.int .i64 (lx s).2)⟩]) (Lr := [_]) (Zc1 b2 b3 _ Z3C _) rfl (List.reverse_perm _).symm ?_
   exact JX.retLCC (Lr := _) (L1 := fun _ : Unit => []) (A := .rep (StR N st0)) (B := .int .i64 30) (R := fun _ => .tup2 (.rep (StR N (readS (lx s)).1)) (.is (.int .i64 (readS (lx s)).2))) rfl () trivial (.refl _) rfl hb0 rfl rfl Zc Z2H qI qI (Z1i rfl) rfl rfl SrZero (by show Ty.tup2 (.rep (StR N (readS (lx s)).1)) (.is (.int .i64 (readS (lx s)).2)) = _; rw [ZfI hq (Zgz hz (by simpa using hbad))])
 intro _ hw0
 refine vD ?_
 refine vS [2, 3] ?_
 refine J.front b2 (by repeat (first|exact .here|apply Front.there)) ?_
 refine J.openOwnSt fun vc vn vr vi vf vw vg vo vs h1c => ?_
 have hwp : wholeP (lx s).1 = some z.1 := Zg4 hz (by simpa using hw0)
 refine vQ ?_
 refine JO.callK (Lr := [_, _]) (Zdw N b2 z.1 vc vn vr vi vf vw vg vo vs (Zeb hz) (fun x hx => Nat.le_trans (Zf9 (Z2l _) (ZbO _) (Nat.le_refl _) hz x hx) qM)) rfl (.refl _) qF qA ?_
 intro _ _
 refine vD ?_
 refine vS [2, 3, 31] ?_
 refine yC rfl (fun ht31 => ?_) (fun ht31 => ?_)
 refine vQ ?_
 refine Jq (ZB (cs := [_, _, _, _, _, _, _, _, _, _, _, _, _, _]) Z2D .nil rfl rfl) ?_
 refine JO.m (Z3 rfl rfl qU (by exact ZbJ h1c) (by exact Z1e rfl rfl) Zu) (by rfl) ?_
 refine JO.m (Z3 rfl rfl qU qC qO Z4v) (by rfl) ?_
 refine vS [2, 3] ?_
 refine vR ?_
 refine JX.retD (f := Z2N) (cap := [.pointer (some ⟨b2, 0, none⟩), .pointer (some ⟨b3, 0, none⟩)]) (L0 := [⟨b2, ZD, zSt⟩, ⟨b3, Z1R, .is (.int .i64 31)⟩]) (Lr := [_]) (Zh5 b2 b3 _ rfl _) (.cons _ (.swap _ _ _)) ?_
 exact JX.retLCC (Lr := _) (L1 := fun _ : Unit => []) (A := .rep (StR N st0)) (B := .int .i64 31) (R := fun _ => .tup2 (.rep (StR N (readS (lx s)).1)) (.is (.int .i64 (readS (lx s)).2))) rfl () trivial (.refl _) rfl hb0 rfl rfl Zc Z2H qI qI (Z1i rfl) rfl rfl SrZero (by show Ty.tup2 (.rep (StR N (readS (lx s)).1)) (.is (.int .i64 (readS (lx s)).2)) = _; rw [Zlq hq hwp ht31])
 apply yK
 refine vN ?_
 apply yN
 refine Jq (ZI (cs := [_, _, _, _, _, _, _, _, _, _, _, _, _, _]) Zc rfl rfl rfl) ?_
 refine JO.m (Z3 rfl rfl qU (by exact ZbJ h1c) (by exact ZbJ h1c) Zu) (by rfl) ?_
 refine JO.m (Z3 rfl rfl qU qC qO Z4v) (by rfl) ?_
 refine vS [2, 3] ?_
 refine vR ?_
 refine JX.retD (f := Z2N) (cap := [.pointer (some ⟨b2, 0, none⟩), .pointer (some ⟨b3, 0, none⟩)]) (L0 := [⟨b2, ZD, .is (stV z.1 vc vn vr vi vf vw vg vo vs)⟩, ⟨b3, Z1R, .is (.int .i64 0)⟩]) (Lr := [_]) (Zh5 b2 b3 _ rfl _) (.cons _ (.swap _ _ _)) ?_
 exact JX.retLCC (Lr := _) (L1 := fun _ : Unit => []) (A := .rep (StR N z.1)) (B := .int .i64 0) (R := fun _ => .tup2 (.rep (StR N (readS (lx s)).1)) (.is (.int .i64 (readS (lx s)).2))) rfl () trivial (.refl _) rfl hb0 rfl rfl Zc Z2H qI qI (Z1i rfl) rfl rfl (Sub.st rfl fun X w hf w' hk => ⟨hf _ qI w' hk, hf _ qI w' hk, hf _ qI w' hk, hf _ qI w' hk, hf _ qI w' hk, hf _ qI w' hk, hf _ qI w' hk, hf _ qI w' hk, hf _ qI w' hk⟩) (by show Ty.tup2 (.rep (StR N (readS (lx s)).1)) (.is (.int .i64 (readS (lx s)).2)) = _; rw [Zku hq hwp ht31])
theorem c_PF (N : Nat) (s : ByteArray) : CallF Tryz.prog Z50 [NH N, GF, AF] [.is (.string s)] (.tup2 (.rep (StR N (prS s.data.toList).1)) (.is (.int .i64 (prS s.data.toList).2))) := CallL.toF (ZcI N s) rfl
theorem Zh4 {ts : List T3} (h : (readT ts).2 ≠ 0) : (readT ts).1 = st0 := by
 unfold readT at h ⊢
 split
 · rfl
 · rename_i s hs
   rw [hs] at h
   dsimp only at h ⊢
   split
   · rfl
   · rename_i hd; rw [if_neg hd] at h; exact absurd rfl h
theorem Zjn {l : List UInt8} (h : (prS l).2 ≠ 0) : (prS l).1 = st0 := by
 by_cases he : (lexL l).2 = 0
 · rw [ZdI he] at h ⊢; exact Zh4 h
 · rw [Zft he]
theorem Zd8 (l : List UInt8) : SmS (prS l).1 ∧ ∀ x ∈ exsOf (prS l).1, ect x ≤ 4096 := by
 by_cases h : (prS l).2 = 0
 · have he := Zh8 h
   rw [ZdI he] at h ⊢
   obtain ⟨s, r, h1, _, _, h4⟩ := Zdf h
   rw [h4]
   refine ⟨Zeb h1, fun x hx => ?_⟩
   have := Zf9 (Z2l _) (ZbO _) (Nat.le_refl _) h1 x hx
   have := Zea l
   omega
 · rw [Zjn h]
   refine ⟨⟨Nat.zero_le _, (fun x hx => by cases hx), Nat.zero_le _, Nat.zero_le _, (fun x hx => by cases hx), Nat.zero_le _, Nat.zero_le _, Nat.zero_le _, Nat.zero_le _, Nat.zero_le _, Nat.zero_le _⟩, fun x hx => by simp [exsOf, st0] at hx⟩
theorem c_PL (N : Nat) (l : List UInt8) : CallF Tryz.prog Z50 [NH N, GF, AF] [.is (.string (bl l))] (.tup2 (.rep (StR N (prS l).1)) (.is (.int .i64 (prS l).2))) := c_PF N (bl l)
theorem ZjP {nk : ByteArray → Prop} {s : Pz.St} (h : WfS nk s) : 1 ≤ s.kind ∧ s.kind ≤ 9 := by
 cases h with
 | @tab => exact ⟨by show (1 : Int) ≤ 1; decide, by show (1 : Int) ≤ 9; decide⟩
 | @idx => exact ⟨by show (1 : Int) ≤ 2; decide, by show (2 : Int) ≤ 9; decide⟩
 | @ins => exact ⟨by show (1 : Int) ≤ 3; decide, by show (3 : Int) ≤ 9; decide⟩
 | @sel => exact ⟨by show (1 : Int) ≤ 4; decide, by show (4 : Int) ≤ 9; decide⟩
 | @upd => exact ⟨by show (1 : Int) ≤ 5; decide, by show (5 : Int) ≤ 9; decide⟩
 | @del => exact ⟨by show (1 : Int) ≤ 6; decide, by show (6 : Int) ≤ 9; decide⟩
 | @pl k h => rcases h with rfl|rfl|rfl <;> exact ⟨by show (1 : Int) ≤ _; decide, by show (_ : Int) ≤ 9; decide⟩
theorem Z9Z {l : List UInt8} (h : (prS l).2 = 0) : GoodS (prS l).1 ∧ (1 ≤ (prS l).1.kind ∧ (prS l).1.kind ≤ 9) := ⟨ZkI (Zaq h).1 (Zd8 l).2, ZjP (Zaq h).1⟩
abbrev pw1 : List UInt8 := [115, 101, 108, 101, 99, 116, 32, 97, 43, 98, 42, 50, 44, 99, 111, 117, 110, 116, 40, 42, 41, 32, 102, 114, 111, 109, 32, 116, 32, 120, 32, 119, 104, 101, 114, 101, 32, 110, 111, 116, 32, 97, 61, 49, 32, 111, 114, 100, 101, 114, 32, 98, 121, 32, 97, 32, 100, 101, 115, 99]
abbrev pw2 : List UInt8 := [83, 69, 76, 69, 67, 84, 32, 97, 32, 43, 32, 40, 98, 32, 42, 32, 50, 41, 44, 32, 67, 79, 85, 78, 84, 40, 42, 41, 32, 70, 82, 79, 77, 32, 116, 32, 65, 83, 32, 120, 32, 87, 72, 69, 82, 69, 32, 78, 79, 84, 32, 40, 97, 32, 61, 32, 49, 41, 32, 79, 82, 68, 69, 82, 32, 66, 89, 32, 97, 32, 68, 69, 83, 67]
theorem Zlj : ((prS pw1).2 == 0 && (txS (prS pw1).1 == pw2)) = true := by decide +kernel
theorem Zic : ∃ S0 : Pz.St, GoodS S0 ∧ (1 ≤ S0.kind ∧ S0.kind ≤ 9) ∧ txS S0 = pw2 ∧ CallF Tryz.prog Z50 [NH 0, GF, AF] [.is (.string (bl pw1))] (.tup2 (.rep (StR 0 S0)) (.is (.int .i64 0))) := by
 have h := Zlj
 simp only [Bool.and_eq_true, beq_iff_eq] at h
 have hg := Z9Z h.1
 have hc := c_PL 0 pw1
 rw [h.1] at hc
 exact ⟨_, hg.1, hg.2, h.2, hc⟩
theorem ZcR  : CallF Tryz.prog ZcO [NH 0, GF, AF, TF] [] (.is (.bool true)) :=
CallF.of (fn := Tryz.f19) Tryz.func19 (n := 14) rfl rfl rfl (fun _ _ => by kernel_rfl) fun E W => by
 obtain ⟨S0, hgS, hk9, htx, hP⟩ := Zic
 refine vQ ?_
 refine Ja rfl ?_
 apply yI
 repeat first|apply yX|apply yB
 refine yL [] .nil ?_
 refine vQ ?_
 refine Jq (ZG rfl (hP) qF qA) ?_
 refine Jm rfl (Jq (Z3x rfl) ?_)
 refine Jq (Z3v rfl) ?_
 refine JO.alloc Z1o rfl fun b1 => ?_
 refine JO.m (Z3 rfl rfl qU (by exact Z1e rfl rfl) (by exact Z3C) Zu) (by rfl) ?_
 refine Ja rfl ?_
 refine vS [1, 2] ?_
 refine J.front b1 (by repeat (first|exact .here|apply Front.there)) ?_
 refine J.openOwnSt fun vc vn vr vi vf vw vg vo vs h1c => ?_
 repeat apply yQ
 refine J.reg0 hmx qK qK ?_
 refine yz (Z2 rfl) ?_
 refine yz (ZM rfl rfl) ?_
 refine yz (Z2 rfl) ?_
 refine yg rfl rfl rfl (fun hg => ZI (cs := [_, _, _, _, _, _, _, _, _, _, _, _, _, _]) Zc (.inl rfl) rfl rfl) ?_
 refine yg rfl rfl rfl (fun hg => ZG (.inl rfl) (Z6G 0 S0 hgS hk9) qF (.sub (qR rfl) (Sub.st rfl fun X w hf w' hk => ⟨hf _ qI w' hk, hf _ qI w' hk, hf _ qI w' hk, hf _ qI w' hk, hf _ qI w' hk, hf _ qI w' hk, hf _ qI w' hk, hf _ qI w' hk, hf _ qI w' hk⟩) .nil)) ?_
 refine yg rfl rfl rfl (fun hg => Z38 (qR rfl) (.inl rfl)) ?_
 refine yz (ZV rfl rfl rfl id) ?_
 refine yz (Z1s rfl) ?_
 apply yn
 refine FinS.nil0 ?_
 refine vS [0] ?_
 refine vR ?_
 exact JX.ret1is rfl rfl (by rw [htx]; exact congrArg Value.bool (by decide +kernel))
end Go.Proofs.YtbedigkncjbggaaGreatDoor
