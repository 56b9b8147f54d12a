/- Is a statement too deep. No condition. -/
import Derived.Test.YtbedigkncjbggaaGreatDoorXQ11
import Derived.Test.YtbedigkncjbggaaGreatDoorXQ12
import Derived.Test.YtbedigkncjbggaaGreatDoorXQ1
set_option maxRecDepth 20000
namespace Go.Proofs.YtbedigkncjbggaaGreatDoor
open Go Go.Vc
open Go.Pz
theorem Z3M {α : Type} {xs : List α} {i : Nat} (h : i < xs.length) : xs.take (i + 1) = xs.take i ++ [xs[i]] := by simp
theorem Zbk {a b c d : Value} {k : Nat} (h : k < 4) : (dvs a b c d)[k]? = some ((dvs a b c d).getD k undef) := by
 rw [List.getD_eq_getElem?_getD, List.getElem?_eq_getElem (by exact h)]; rfl
theorem ZcB (N b : Nat) (S0 : Pz.St) (vc vn vr vi vf vw vg vo vs : Value) (hsm : SmS S0) (hec : ∀ x ∈ exsOf S0, ect x ≤ 4096) : CallL Tryz.prog Zdo [⟨b, ZB, .is (stV S0 vc vn vr vi vf vw vg vo vs)⟩] [SlE rwE noS S0.rows vr, SlE itE noS S0.items vi, SlE srE noS S0.from_ vf, SlE exE (FX N) S0.where_ vw, ExsR S0.group vg, SlE kyE noS S0.order vo, ExsR S0.sets vs] [.is (.pointer (some ⟨b, 0, none⟩))] (fun _ : Unit => True) (fun _ => [⟨b, ZB, .is (stV S0 vc vn vr vi vf vw vg vo vs)⟩]) (fun _ => .is (.bool (deepS S0))) :=
CallL.of (fn := Tryz.f29) Tryz.func29 (n := 103) rfl rfl rfl (fun _ _ => by kernel_rfl) fun E W hb0 => by
 have hsm0 := hsm
 obtain ⟨hb1, hb2, hb3, hb4, hb5, hb6, hb7, hb8, hb9, hb10, hb11⟩ := hsm
 refine J.shapeE (xs := S0.rows) (v := vr) qI (fun pr ar lr cr br or_ hpr hvr hlr har => ?_)
 refine J.shapeE (xs := S0.items) (v := vi) qI (fun pi ai li ci bi oi hpi hvi hli hai => ?_)
 refine J.shapeE (xs := S0.from_) (v := vf) qI (fun pf af lf cf bf of_ hpf hvf hlf haf => ?_)
 refine J.shapeE (xs := S0.order) (v := vo) qI (fun po ao lo co bo oo hpo hvo hlo hao => ?_)
 refine J.fact (ExsR S0.where_ vw) (fun X w hF _ w' hk => SlE.exs (hF (SlE exE (FX N) S0.where_ vw) qI w' hk)) ?_
 refine J.shapeK (xs := S0.where_) (v := vw) qI (fun aw lw cw bw ow hvw hlw haw => ?_)
 refine J.shapeK (xs := S0.group) (v := vg) qI (fun ag lg cg bg og hvg hlg hag => ?_)
 refine J.shapeK (xs := S0.sets) (v := vs) qI (fun ax lx cx bx ox hvx hlx hax => ?_)
 subst hvr hvi hvf hvo hvw hvg hvx
 have nr : pr.length = S0.rows.length := by rw [← hpr, List.length_map]
 have ni : pi.length = S0.items.length := by rw [← hpi, List.length_map]
 have nf : pf.length = S0.from_.length := by rw [← hpf, List.length_map]
 have no : po.length = S0.order.length := by rw [← hpo, List.length_map]
 refine vQ ?_
 refine Ja rfl ?_
 refine vP [0] ?_
 refine Ja rfl ?_
 refine vP [0, 3] ?_
 refine Jm rfl (Jq (Z5 rfl) ?_)
 refine Jq (Z0 Z1w rfl) ?_
 refine Jq (Z1 Z1p rfl rfl) ?_
 refine Jq (Zn Z1t rfl) ?_
 refine Jm rfl ?_
 refine vS [0, 3, 19, 20, 21] ?_
 apply yk
 repeat apply yQ
 refine J.loopH (α := List (Cel exE) × Option (Nat × List Value) × Nat × Nat) (fun z => [(0, .is (.pointer (some ⟨b, 0, none⟩))), (3, .is (sliceO z.2.1 z.1.length z.2.2.1)), (19, .is (.slice ar lr cr)), (20, .is (.int .i64 (lr : Nat))), (21, .is (.int .i64 (z.2.2.2 : Nat)))]) (fun z => ownO z.2.1 Z6 [⟨b, ZB, .is (stV S0 vc vn (.slice ar lr cr) (.slice ai li ci) (.slice af lf cf) (.slice aw lw cw) (.slice ag lg cg) (.slice ao lo co) (.slice ax lx cx))⟩]) (fun z => CelF exE z.1) (fun z => z.2.2.2 ≤ pr.length ∧ Grows Cel.cs 8 z.1 z.2.1 z.2.2.1 ∧ z.1.map Cel.x = ((pr.take z.2.2.2).map Cel.x).flatten ∧ z.1.length ≤ 16 * z.2.2.2) (fun z => pr.length - z.2.2.2) ([], none, 0, 0) [0, 3, 19, 20, 21] (.cons rfl (.cons rfl (.cons rfl (.cons rfl (.cons rfl .nil))))) rfl (fun X w hF => fun w' hk => CelF.nil w') ⟨Nat.zero_le _, rfl, rfl, Nat.zero_le _⟩ fun ⟨qpr, stpr, cappr, i⟩ ⟨hi, hGpr, hmpr, hlpr⟩ => ?_
 try dsimp only
 try dsimp only at stpr
 try dsimp only at cappr
 try dsimp only at i
 try dsimp only at hi
 try dsimp only at hGpr
 try dsimp only at hmpr
 try dsimp only at hlpr
 refine vQ ?_
 refine Jq (ZU rfl rfl) ?_
 refine vS [0, 3, 19, 20, 21, 22] ?_
 refine yC rfl (fun ht22 => ?_) (fun ht22 => ?_)
 try simp only [yd, yf] at ht22
 apply yK
 refine vN ?_
 apply yk
 refine J.fact (ExsR pr[i].x (hdv pr[i].cs)) (fun X w hF _ w' hk => Zeh (List.getElem_mem _) (hF (CelF rwE pr) qI w' hk)) ?_
 refine J.shapeX (xs := pr[i].x) (v := hdv pr[i].cs) qI (fun ps a2 l2 cap0 b2 o2 hps hv2 hl2 ha2 => ?_)
 have hln : ps.length ≤ 16 := by rw [← List.length_map (f := Cel.x), hps]; exact hb2 _ (by rw [← hpr]; exact List.mem_map_of_mem (List.getElem_mem _))
 refine vQ ?_
 refine Jq (Z7 Z2n rfl (har qM) rfl qM qM) ?_
 refine Jq (ZH (sz := 1) (j := 0) (enc := Cel.cs) (u := hdv pr[i].cs) Zh rfl qI (har qM) (List.getElem?_eq_getElem (by omega : i < pr.length)) qM (by rw [ZhL]; rfl)) ?_
 refine Ja rfl ?_
 refine vS [0, 3, 5, 19, 20, 21] ?_
 rw [hv2]
 refine vQ ?_
 refine Jm rfl (Jm rfl ?_)
 refine JO.apA (ps) Z1n Cel.hlen .here hGpr rfl rfl (fun L => Z5y (a := a2) (len := l2) (cap := cap0) Cel.hlen qD (fun p => p.o) Zj qI) (by have := hlpr; (try dsimp only at this); omega) (by have := hlpr; (try dsimp only at this); omega) rfl (fun st2 cap2 hG2 => ?_)
 refine Ja rfl ?_
 refine vP [0, 3, 19, 20, 21] ?_
 refine Jq (ZD (cc := ((i + 1 : Nat) : Int)) rfl rfl qM qM qM) ?_
 refine Jm rfl ?_
 apply yI
 repeat refine JX.normal_block ?_
 refine JX.roundG (x := (qpr, stpr, cappr, i)) (qpr ++ ps, st2, cap2, i + 1) ?_ ?_ [0, 3, 19, 20, 21] ?_ ?_ ?_ ?_
 · exact ⟨(by show i + 1 ≤ _; omega), hG2, (by show (qpr ++ ps).map Cel.x = _; rw [List.map_append, hmpr, Z3M qM]; simp only [List.map_append, List.map_cons, List.map_nil, List.flatten_append, List.flatten_cons, List.flatten_nil, List.append_nil, List.append_assoc, hps]), (by show (qpr ++ ps).length ≤ _; rw [List.length_append]; have := hlpr; have := hln; (try dsimp only at *); omega)⟩
 · exact (by show pr.length - (i + 1) < pr.length - i; omega)
 · exact qS
 · exact qH
 · exact qG
 · exact fun X w hF => fun w' hk p hp => (List.mem_append.1 hp).elim (fun hp => hF (CelF exE qpr) qI w' hk p hp) (fun hp => hF (CelF exE ps) qI w' hk p hp)
 try simp only [yd, yf] at ht22
 repeat apply yQ
 refine J.exit ?_
 repeat first|refine yH ?_|refine yM rfl ?_|refine yE ?_
 repeat first|apply yX|apply yB
 have hi2 : i = pr.length := by omega
 subst hi2
 rw [List.take_length] at hmpr
 rw [hpr] at hmpr
 refine vQ ?_
 refine Jm rfl (Jq (Z5 rfl) ?_)
 refine Jq (Z0 Z1T rfl) ?_
 refine Jq (Z1 Z1Y rfl rfl) ?_
 refine Jq (Zn Z2e rfl) ?_
 refine Jm rfl ?_
 refine vS [0, 3, 32, 33, 34] ?_
 apply yk
 repeat apply yQ
 refine J.loopH (α := List (Cel exE) × Option (Nat × List Value) × Nat × Nat) (fun z => [(0, .is (.pointer (some ⟨b, 0, none⟩))), (3, .is (sliceO z.2.1 z.1.length z.2.2.1)), (32, .is (.slice ai li ci)), (33, .is (.int .i64 (li : Nat))), (34, .is (.int .i64 (z.2.2.2 : Nat)))]) (fun z => ownO z.2.1 Z6 [⟨b, ZB, .is (stV S0 vc vn (.slice ar lr cr) (.slice ai li ci) (.slice af lf cf) (.slice aw lw cw) (.slice ag lg cg) (.slice ao lo co) (.slice ax lx cx))⟩]) (fun z => CelF exE z.1) (fun z => z.2.2.2 ≤ pi.length ∧ Grows Cel.cs 8 z.1 z.2.1 z.2.2.1 ∧ z.1.map Cel.x = S0.rows.flatten ++ (pi.take z.2.2.2).map (·.x.ex) ∧ z.1.length ≤ 512 + z.2.2.2) (fun z => pi.length - z.2.2.2) (qpr, stpr, cappr, 0) [0, 3, 32, 33, 34] (.cons rfl (.cons rfl (.cons rfl (.cons rfl (.cons rfl .nil))))) rfl (fun X w hF => hF _ qI) ⟨Nat.zero_le _, hGpr, (by rw [hmpr]; simp), (by show qpr.length ≤ 512 + 0; have := hlpr; (try dsimp only at this); omega)⟩ fun ⟨qpi, stpi, cappi, i⟩ ⟨hi, hGpi, hmpi, hlpi⟩ => ?_
 try dsimp only
 try dsimp only at stpi
 try dsimp only at cappi
 try dsimp only at i
 try dsimp only at hi
 try dsimp only at hGpi
 try dsimp only at hmpi
 try dsimp only at hlpi
 refine vQ ?_
 refine Jq (ZU rfl rfl) ?_
 refine vS [0, 3, 32, 33, 34, 35] ?_
 refine yC rfl (fun ht35 => ?_) (fun ht35 => ?_)
 try simp only [yd, yf] at ht35
 apply yK
 refine vN ?_
 apply yk
 obtain ⟨u1, q1, hq1, hq2, hq3⟩ := Zfw pi[i]
 obtain ⟨c1, c2, c3, c4, c5, c6, c7, c8, hcs⟩ := cs8 q1
 rw [hcs] at hq1
 refine J.fact (CelR q1) (fun X w hF _ w' hk => hq3 pi w' (List.getElem_mem _) (hF (CelF itE pi) qI w' hk)) ?_
 refine vQ ?_
 refine Jq (Z7 Z3J rfl (hai qM) rfl qM qM) ?_
 refine Jq (Z2Q (sz := 9) (enc := Cel.cs) (cs := [u1, c1, c2, c3, c4, c5, c6, c7, c8]) Z4z rfl qI (hai qM) (List.getElem?_eq_getElem (by omega : i < pi.length)) qM hq1) ?_
 refine JO.alloc Z7x rfl fun b7 => ?_
 refine JO.m (Z3 rfl rfl qU (by exact Z1b rfl rfl) (by exact Z1b rfl (List.all_eq_true.2 (by have := pi[i].o; rw [hq1] at this; exact this))) Z5V) (by rfl) ?_
 refine vP [0, 3, 7, 32, 33, 34] ?_
 refine Jm rfl (Jq (Z0 Z6b rfl) ?_)
 refine Jq (ZF (cs := [_, _, _, _, _, _, _, _]) Z9 rfl rfl rfl) ?_
 refine Jq (Z2D (p := q1) Z4K ZR rfl qD (by rw [show exE.v q1.cs = .agg #[c1, c2, c3, c4, c5, c6, c7, c8] by rw [hcs]; rfl]; exact rfl)) ?_
 refine JO.apA ([q1]) Z1n Cel.hlen (.there .here) hGpi rfl rfl (srcE q1 Zj) (by have := hlpi; (try dsimp only at this); (try simp only [List.length_singleton]); omega) (by have := hlpi; (try dsimp only at this); (try simp only [List.length_singleton]); omega) rfl (fun st2 cap2 hG2 => ?_)
 refine Ja rfl ?_
 refine vP [0, 3, 32, 33, 34] ?_
 refine Jq (ZD (cc := ((i + 1 : Nat) : Int)) rfl rfl qM qM qM) ?_
 refine Jm rfl ?_
 apply yI
 repeat refine JX.normal_block ?_
 refine JX.roundG (x := (qpi, stpi, cappi, i)) (qpi ++ [q1], st2, cap2, i + 1) ?_ ?_ [0, 3, 32, 33, 34] ?_ ?_ ?_ ?_
 · exact ⟨(by show i + 1 ≤ _; omega), hG2, (by show (qpi ++ [q1]).map Cel.x = _; rw [List.map_append, hmpi, Z3M qM]; simp only [List.map_append, List.map_cons, List.map_nil, List.append_assoc, hq2]), (by show (qpi ++ [q1]).length ≤ _; rw [List.length_append]; have := hlpi; have := (show [q1].length ≤ 1 from Nat.le_refl 1); (try dsimp only at *); omega)⟩
 · exact (by show pi.length - (i + 1) < pi.length - i; omega)
 · exact qS
 · exact qH
 · exact qG
 · exact fun X w hF => fun w' hk p hp => (List.mem_append.1 hp).elim (fun hp => hF (CelF exE qpi) qI w' hk p hp) (fun hp => by rw [List.mem_singleton.1 hp]; exact hF (CelR q1) qI w' hk)
 try simp only [yd, yf] at ht35
 repeat apply yQ
 refine J.exit ?_
 repeat first|refine yH ?_|refine yM rfl ?_|refine yE ?_
 repeat first|apply yX|apply yB
 have hi2 : i = pi.length := by omega
 subst hi2
 rw [List.take_length] at hmpi
 refine vQ ?_
 refine Jm rfl (Jq (Z5 rfl) ?_)
 refine Jq (Z0 ZY rfl) ?_
 refine Jq (Z1 ZQ rfl rfl) ?_
 refine Jq (Zn Z1Q rfl) ?_
 refine Jm rfl ?_
 refine vS [0, 3, 47, 48, 49] ?_
 apply yk
 repeat apply yQ
 refine J.loopH (α := List (Cel exE) × Option (Nat × List Value) × Nat × Nat) (fun z => [(0, .is (.pointer (some ⟨b, 0, none⟩))), (3, .is (sliceO z.2.1 z.1.length z.2.2.1)), (47, .is (.slice af lf cf)), (48, .is (.int .i64 (lf : Nat))), (49, .is (.int .i64 (z.2.2.2 : Nat)))]) (fun z => ownO z.2.1 Z6 [⟨b, ZB, .is (stV S0 vc vn (.slice ar lr cr) (.slice ai li ci) (.slice af lf cf) (.slice aw lw cw) (.slice ag lg cg) (.slice ao lo co) (.slice ax lx cx))⟩]) (fun z => CelF exE z.1) (fun z => z.2.2.2 ≤ pf.length ∧ Grows Cel.cs 8 z.1 z.2.1 z.2.2.1 ∧ z.1.map Cel.x = S0.rows.flatten ++ S0.items.map (·.ex) ++ ((pf.take z.2.2.2).map (·.x.on)).flatten ∧ z.1.length ≤ 528 + z.2.2.2) (fun z => pf.length - z.2.2.2) (qpi, stpi, cappi, 0) [0, 3, 47, 48, 49] (.cons rfl (.cons rfl (.cons rfl (.cons rfl (.cons rfl .nil))))) rfl (fun X w hF => hF _ qI) ⟨Nat.zero_le _, hGpi, (by rw [hmpi, ← hpi]; first|(simp; done)|(simp; rfl)), (by show qpi.length ≤ 528 + 0; have := hlpi; (try dsimp only at this); omega)⟩ fun ⟨qpf, stpf, cappf, i⟩ ⟨hi, hGpf, hmpf, hlpf⟩ => ?_
 try dsimp only
 try dsimp only at stpf
 try dsimp only at cappf
 try dsimp only at i
 try dsimp only at hi
 try dsimp only at hGpf
 try dsimp only at hmpf
 try dsimp only at hlpf
 refine vQ ?_
 refine Jq (ZU rfl rfl) ?_
 refine vS [0, 3, 47, 48, 49, 50] ?_
 refine yC rfl (fun ht50 => ?_) (fun ht50 => ?_)
 try simp only [yd, yf] at ht50
 apply yK
 refine vN ?_
 apply yk
 obtain ⟨u1, u2, u3, hq1, hq3⟩ := Zgu pf[i]
 refine J.fact (ExsR pf[i].x.on u3) (fun X w hF _ w' hk => hq3 pf w' (List.getElem_mem _) (hF (CelF srE pf) qI w' hk)) ?_
 refine J.shapeX (xs := pf[i].x.on) (v := u3) qI (fun ps a2 l2 cap0 b2 o2 hps hv2 hl2 ha2 => ?_)
 subst hv2
 have hln : ps.length ≤ 1 := by rw [← List.length_map (f := Cel.x), hps]; exact hb5 _ (by rw [← hpf]; exact List.mem_map_of_mem (List.getElem_mem _))
 refine vQ ?_
 refine Jq (Z7 Z1H rfl (haf qM) rfl qM qM) ?_
 refine Jq (Z2Q (sz := 3) (enc := Cel.cs) (cs := [u1, u2, .slice a2 l2 cap0]) Z2R rfl qI (haf qM) (List.getElem?_eq_getElem (by omega : i < pf.length)) qM hq1) ?_
 refine JO.alloc Z40 rfl fun b9 => ?_
 refine JO.m (Z3 rfl rfl qU (by exact Z1b rfl rfl) (by exact Z1b rfl (List.all_eq_true.2 (by have := pf[i].o; rw [hq1] at this; exact this))) Z3f) (by rfl) ?_
 refine vP [0, 3, 9, 47, 48, 49] ?_
 refine Jm rfl (Jq (Z0 Z1O rfl) ?_)
 refine Jq (Z1 Zh rfl rfl) ?_
 refine JO.apA (ps) Z1n Cel.hlen (.there .here) hGpf rfl rfl (fun L => Z5y (a := a2) (len := l2) (cap := cap0) Cel.hlen qD (fun p => p.o) Zj qI) (by have := hlpf; (try dsimp only at this); omega) (by have := hlpf; (try dsimp only at this); omega) rfl (fun st2 cap2 hG2 => ?_)
 refine Ja rfl ?_
 refine vP [0, 3, 47, 48, 49] ?_
 refine Jq (ZD (cc := ((i + 1 : Nat) : Int)) rfl rfl qM qM qM) ?_
 refine Jm rfl ?_
 apply yI
 repeat refine JX.normal_block ?_
 refine JX.roundG (x := (qpf, stpf, cappf, i)) (qpf ++ ps, st2, cap2, i + 1) ?_ ?_ [0, 3, 47, 48, 49] ?_ ?_ ?_ ?_
 · exact ⟨(by show i + 1 ≤ _; omega), hG2, (by show (qpf ++ ps).map Cel.x = _; rw [List.map_append, hmpf, Z3M qM]; simp only [List.map_append, List.map_cons, List.map_nil, List.flatten_append, List.flatten_cons, List.flatten_nil, List.append_nil, List.append_assoc, hps]), (by show (qpf ++ ps).length ≤ _; rw [List.length_append]; have := hlpf; have := hln; (try dsimp only at *); omega)⟩
 · exact (by show pf.length - (i + 1) < pf.length - i; omega)
 · exact qS
 · exact qH
 · exact qG
 · exact fun X w hF => fun w' hk p hp => (List.mem_append.1 hp).elim (fun hp => hF (CelF exE qpf) qI w' hk p hp) (fun hp => hF (CelF exE ps) qI w' hk p hp)
 try simp only [yd, yf] at ht50
 repeat apply yQ
 refine J.exit ?_
 repeat first|refine yH ?_|refine yM rfl ?_|refine yE ?_
 repeat first|apply yX|apply yB
 have hi2 : i = pf.length := by omega
 subst hi2
 rw [List.take_length] at hmpf
 refine vQ ?_
 refine Jm rfl (Jq (Z5 rfl) ?_)
 refine Jq (Z0 Z1q rfl) ?_
 refine Jq (Z1 Z1U rfl rfl) ?_
 refine Jq (Zn Z26 rfl) ?_
 refine Jm rfl ?_
 refine vS [0, 3, 61, 62, 63] ?_
 apply yk
 repeat apply yQ
 refine J.loopH (α := List (Cel exE) × Option (Nat × List Value) × Nat × Nat) (fun z => [(0, .is (.pointer (some ⟨b, 0, none⟩))), (3, .is (sliceO z.2.1 z.1.length z.2.2.1)), (61, .is (.slice ao lo co)), (62, .is (.int .i64 (lo : Nat))), (63, .is (.int .i64 (z.2.2.2 : Nat)))]) (fun z => ownO z.2.1 Z6 [⟨b, ZB, .is (stV S0 vc vn (.slice ar lr cr) (.slice ai li ci) (.slice af lf cf) (.slice aw lw cw) (.slice ag lg cg) (.slice ao lo co) (.slice ax lx cx))⟩]) (fun z => CelF exE z.1) (fun z => z.2.2.2 ≤ po.length ∧ Grows Cel.cs 8 z.1 z.2.1 z.2.2.1 ∧ z.1.map Cel.x = S0.rows.flatten ++ S0.items.map (·.ex) ++ (S0.from_.map (·.on)).flatten ++ (po.take z.2.2.2).map (·.x.ex) ∧ z.1.length ≤ 532 + z.2.2.2) (fun z => po.length - z.2.2.2) (qpf, stpf, cappf, 0) [0, 3, 61, 62, 63] (.cons rfl (.cons rfl (.cons rfl (.cons rfl (.cons rfl .nil))))) rfl (fun X w hF => hF _ qI) ⟨Nat.zero_le _, hGpf, (by rw [hmpf, ← hpf]; first|(simp; done)|(simp; rfl)), (by show qpf.length ≤ 532 + 0; have := hlpf; (try dsimp only at this); omega)⟩ fun ⟨qpo, stpo, cappo, i⟩ ⟨hi, hGpo, hmpo, hlpo⟩ => ?_
 try dsimp only
 try dsimp only at stpo
 try dsimp only at cappo
 try dsimp only at i
 try dsimp only at hi
 try dsimp only at hGpo
 try dsimp only at hmpo
 try dsimp only at hlpo
 refine vQ ?_
 refine Jq (ZU rfl rfl) ?_
 refine vS [0, 3, 61, 62, 63, 64] ?_
 refine yC rfl (fun ht64 => ?_) (fun ht64 => ?_)
 try simp only [yd, yf] at ht64
 apply yK
 refine vN ?_
 apply yk
 obtain ⟨u1, q1, hq1, hq2, hq3⟩ := Zfn po[i]
 obtain ⟨c1, c2, c3, c4, c5, c6, c7, c8, hcs⟩ := cs8 q1
 rw [hcs] at hq1
 refine J.fact (CelR q1) (fun X w hF _ w' hk => hq3 po w' (List.getElem_mem _) (hF (CelF kyE po) qI w' hk)) ?_
 refine vQ ?_
 refine Jq (Z7 Z3X rfl (hao qM) rfl qM qM) ?_
 refine Jq (Z2Q (sz := 9) (enc := Cel.cs) (cs := [c1, c2, c3, c4, c5, c6, c7, c8, u1]) Z3O rfl qI (hao qM) (List.getElem?_eq_getElem (by omega : i < po.length)) qM hq1) ?_
 refine JO.alloc Z6p rfl fun b11 => ?_
 refine JO.m (Z3 rfl rfl qU (by exact Z1b rfl rfl) (by exact Z1b rfl (List.all_eq_true.2 (by have := po[i].o; rw [hq1] at this; exact this))) Z5c) (by rfl) ?_
 refine vP [0, 3, 11, 61, 62, 63] ?_
 refine Jm rfl (Jq (Z0 Z5j rfl) ?_)
 refine Jq (ZF (cs := [_, _, _, _, _, _, _, _]) Z9 rfl rfl rfl) ?_
 refine Jq (Z2D (p := q1) Z4K ZR rfl qD (by rw [show exE.v q1.cs = .agg #[c1, c2, c3, c4, c5, c6, c7, c8] by rw [hcs]; rfl]; exact rfl)) ?_
 refine JO.apA ([q1]) Z1n Cel.hlen (.there .here) hGpo rfl rfl (srcE q1 Zj) (by have := hlpo; (try dsimp only at this); (try simp only [List.length_singleton]); omega) (by have := hlpo; (try dsimp only at this); (try simp only [List.length_singleton]); omega) rfl (fun st2 cap2 hG2 => ?_)
 refine Ja rfl ?_
 refine vP [0, 3, 61, 62, 63] ?_
 refine Jq (ZD (cc := ((i + 1 : Nat) : Int)) rfl rfl qM qM qM) ?_
 refine Jm rfl ?_
 apply yI
 repeat refine JX.normal_block ?_
 refine JX.roundG (x := (qpo, stpo, cappo, i)) (qpo ++ [q1], st2, cap2, i + 1) ?_ ?_ [0, 3, 61, 62, 63] ?_ ?_ ?_ ?_
 · exact ⟨(by show i + 1 ≤ _; omega), hG2, (by show (qpo ++ [q1]).map Cel.x = _; rw [List.map_append, hmpo, Z3M qM]; simp only [List.map_append, List.map_cons, List.map_nil, List.append_assoc, hq2]), (by show (qpo ++ [q1]).length ≤ _; rw [List.length_append]; have := hlpo; have := (show [q1].length ≤ 1 from Nat.le_refl 1); (try dsimp only at *); omega)⟩
 · exact (by show po.length - (i + 1) < po.length - i; omega)
 · exact qS
 · exact qH
 · exact qG
 · exact fun X w hF => fun w' hk p hp => (List.mem_append.1 hp).elim (fun hp => hF (CelF exE qpo) qI w' hk p hp) (fun hp => by rw [List.mem_singleton.1 hp]; exact hF (CelR q1) qI w' hk)
 try simp only [yd, yf] at ht64
 repeat apply yQ
 refine J.exit ?_
 repeat first|refine yH ?_|refine yM rfl ?_|refine yE ?_
 repeat first|apply yX|apply yB
 have hi2 : i = po.length := by omega
 subst hi2
 rw [List.take_length] at hmpo
 rw [hGpo.sl.1]
 refine J.freezeOMW (N := 0) (e := Z6) (sz := 8) (Nat.zero_le _) Cel.hlen hGpo .here (fun q hq => ⟨_, List.mem_cons_self, (List.mem_singleton.1 hq).symm⟩) rfl rfl ?_
 refine J.fact (ExsR (S0.rows.flatten ++ S0.items.map (·.ex) ++ (S0.from_.map (·.on)).flatten ++ S0.order.map (·.ex)) (.slice (adO stpo) qpo.length (capO stpo cappo))) (fun X w hF _ w' hk => ⟨_, _, _, rfl, by rw [show (S0.rows.flatten ++ S0.items.map (·.ex) ++ (S0.from_.map (·.on)).flatten ++ S0.order.map (·.ex)) = qpo.map Cel.x from by rw [hmpo, ← hpo]; first|(simp; done)|(simp; rfl)]; exact Cel.kids (hF (RowG Cel.cs 8 qpo (adO stpo) qpo.length) qI w' hk) (hF (CelF exE qpo) qI w' hk)⟩) ?_
 repeat apply yQ
 refine J.reg0 hmx qK qK ?_
 refine yz (Z2 rfl) ?_
 refine yz (Z2 rfl) ?_
 refine yz (Z5 rfl) ?_
 refine yz (Z0 Z1J rfl) ?_
 refine yz (Z1 Zh rfl rfl) ?_
 refine yz (Z2 rfl) ?_
 refine yz (Z5 rfl) ?_
 refine yz (Z0 Z3m rfl) ?_
 refine yz (Z1 Zh rfl rfl) ?_
 refine yz (Z2 rfl) ?_
 refine yz (Z5 rfl) ?_
 refine yz (Z0 Z34 rfl) ?_
 refine yz (Z1 Zh rfl rfl) ?_
 refine yz (ZE (cs := [_, _, _, _]) Z4y qM qM (.cons rfl (.cons rfl (.cons rfl (.cons rfl .nil)))) rfl rfl rfl) ?_
 refine yz (ZfU Z1t rfl) ?_
 refine yz (Z2 rfl) ?_
 apply yn
 refine FinS.nil0 ?_
 refine vS [86, 87, 88] ?_
 apply yk
 repeat apply yQ
 refine J.openNew (s := 86) rfl (fun b86 => ?_)
 refine J.loopF (α := Nat) (fun k => [(86, .is (.slice (some ⟨b86, 0, none⟩) 4 4)), (87, .is (.int .i64 ((4 : Nat) : Int))), (88, .is (.int .i64 (k : Nat)))]) (fun k => k ≤ 4 ∧ ∀ j, j < k → ∀ i, i < ((deepX S0).getD j []).length → ¬ 32 < hgt (((deepX S0).getD j []).getD i ex0)) (fun k => 4 - k) 0 [86, 87, 88] (.cons rfl (.cons rfl (.cons rfl .nil))) ⟨Nat.zero_le _, fun j hj => absurd hj (Nat.not_lt_zero _)⟩ fun k ⟨hk, hall⟩ => ?_
 refine vQ ?_
 refine Jq (ZU rfl rfl) ?_
 refine vS [86, 87, 88, 89] ?_
 refine yC rfl (fun ht89 => ?_) (fun ht89 => ?_)
 try simp only [yd, yf] at ht89
 apply yK
 refine vN ?_
 apply yk
 refine vQ ?_
 refine Jq (Z7 Z2n rfl rfl rfl qM qM) ?_
 refine Jq (Z7M (cs := (dvs (.slice (adO stpo) qpo.length (capO stpo cappo)) (.slice aw lw cw) (.slice ag lg cg) (.slice ax lx cx))) (u := (dvs (.slice (adO stpo) qpo.length (capO stpo cappo)) (.slice aw lw cw) (.slice ag lg cg) (.slice ax lx cx)).getD k undef) Zh rfl qI (by first|exact Zbk (k := k) qM|(rw [show (0 + 1 * k) = k by omega]; exact Zbk (k := k) qM)|(rw [Nat.mul_one, Int.toNat_natCast, Nat.zero_add]; exact Zbk (k := k) qM))) ?_
 refine Ja rfl ?_
 refine vS [13, 86, 87, 88] ?_
 refine J.shapeK (xs := ((deepX S0).getD k [])) (v := (dvs (.slice (adO stpo) qpo.length (capO stpo cappo)) (.slice aw lw cw) (.slice ag lg cg) (.slice ax lx cx)).getD k undef) (by
     match k, (show k < 4 by omega) with
     | 0, _ => exact qI
     | 1, _ => exact qI
     | 2, _ => exact qI
     | 3, _ => exact qI) (fun a l2 cap2 b2 o2 hv hlk ha => ?_)
 have hl3 := ZbN hsm0 k
 rw [hv]
 refine vQ ?_
 refine Jm rfl (Jq (Zn Zj rfl) ?_)
 refine Jm rfl ?_
 refine vS [86, 87, 88, 92, 93, 94] ?_
 apply yk
 repeat apply yQ
 refine J.loopF (α := Nat) (fun i => [(86, _), (87, _), (88, _), (92, _), (93, _), (94, .is (.int .i64 (i : Nat)))]) (fun i => i ≤ l2 ∧ ∀ j, j < i → ¬ 32 < hgt (((deepX S0).getD k []).getD j ex0)) (fun i => l2 - i) 0 [86, 87, 88, 92, 93, 94] (.cons rfl (.cons rfl (.cons rfl (.cons rfl (.cons rfl (.cons rfl .nil)))))) ⟨Nat.zero_le _, fun j hj => absurd hj (Nat.not_lt_zero _)⟩ fun i ⟨hi, hin⟩ => ?_
 refine vQ ?_
 refine Jq (ZU rfl rfl) ?_
 refine vS [86, 87, 88, 92, 93, 94, 95] ?_
 refine yC rfl (fun ht95 => ?_) (fun ht95 => ?_)
 try simp only [yd, yf] at ht95
 apply yK
 refine vN ?_
 apply yk
 refine vQ ?_
 refine Jq (Z7 Z1L rfl (ha qM) rfl qM qM) ?_
 refine Jq (Z2X (kid := ((deepX S0).getD k []).getD i ex0) Z9 rfl qI (ha qM) (Z3s qM) qM) ?_
 refine JO.alloc ZZ rfl fun b15 => ?_
 refine JO.m (Z3 rfl rfl qU qC qO Zo) (by rfl) ?_
 refine vP [15, 86, 87, 88, 92, 93, 94] ?_
 refine Jq (Z2M Z9 rfl) ?_
 refine Jq (ZI rfl (Z8d 4096 (((deepX S0).getD k []).getD i ex0) (hec _ (Z9s (Z2T qM))) (hec _ (Z9s (Z2T qM)))) (.one rfl .nil)) ?_
 refine Jq (Z25 rfl rfl) ?_
 refine vS [86, 87, 88, 92, 93, 94, 100] ?_
 refine yC rfl (fun ht100 => ?_) (fun ht100 => ?_)
 try simp only [yd, yf] at ht100
 refine vQ ?_
 refine Ja rfl ?_
 refine vS [2] ?_
 refine vR ?_
 exact JX.retL1 (Lr := [_]) (L1 := fun _ : Unit => [⟨b, ZB, .is (stV S0 vc vn (.slice ar lr cr) (.slice ai li ci) (.slice af lf cf) (.slice aw lw cw) (.slice ag lg cg) (.slice ao lo co) (.slice ax lx cx))⟩]) rfl () trivial (.swap _ _ _) rfl rfl hb0 rfl (Sub.isEq (by rw [ZfY (s := S0) (k := k) (i := i) qM qM]))
 try simp only [yd, yf] at ht100
 apply yK
 refine vN ?_
 apply yN
 refine Jq (ZD (cc := ((i + 1 : Nat) : Int)) rfl rfl qM qM qM) ?_
 refine Jm rfl ?_
 apply yI
 repeat refine JX.normal_block ?_
 refine JX.roundS (i + 1) ?_ ?_ [86, 87, 88, 92, 93, 94] ?_ ?_ ?_
 · exact ⟨by omega, fun j hj => if h : j = i then by subst h; omega else hin j qM⟩
 · exact qM
 · exact qS
 · exact qB
 · exact qB
 try simp only [yd, yf] at ht95
 repeat apply yQ
 refine J.exit ?_
 repeat first|refine yH ?_|refine yM rfl ?_|refine yE ?_
 refine vN ?_
 apply yN
 refine Jq (ZD (cc := ((k + 1 : Nat) : Int)) rfl rfl qM qM qM) ?_
 refine Jm rfl ?_
 apply yI
 repeat refine JX.normal_block ?_
 refine JX.roundS (k + 1) ?_ ?_ [86, 87, 88] ?_ ?_ ?_
 · exact ⟨by omega, fun j hj => if h : j = k then by subst h; intro i2 hi2; exact hin i2 qM else hall j qM⟩
 · exact qM
 · exact qS
 · exact qB
 · exact qB
 try simp only [yd, yf] at ht89
 repeat apply yQ
 refine J.exit ?_
 repeat first|refine yH ?_|refine yM rfl ?_|refine yE ?_
 refine vN ?_
 apply yN
 refine Ja rfl ?_
 refine vS [2] ?_
 refine vR ?_
 exact JX.retL1 (Lr := []) (L1 := fun _ : Unit => [⟨b, ZB, .is (stV S0 vc vn (.slice ar lr cr) (.slice ai li ci) (.slice af lf cf) (.slice aw lw cw) (.slice ag lg cg) (.slice ao lo co) (.slice ax lx cx))⟩]) rfl () trivial (.refl _) rfl rfl hb0 rfl (Sub.isEq (by rw [ZgT (s := S0) (fun j hj => hall j qM)]))
abbrev SameX (x : Ex) : Prop := CallTy Tryz.prog Z6D [.rep (ExR x), .rep (ExR x)] (.is (.bool true))
theorem Sub.exsK {L : List Own} {Φ : List (World → Prop)} {kids : List Ex} {a : Option Addr} {len cap : Nat} (h : KidsR kids a len ∈ Φ) : Sub L Φ (.is (.slice a len cap)) (.rep (ExsR kids)) := fun E v w hf e => by
 rw [show v = _ from e]
 exact fun w' hk => ⟨a, len, cap, rfl, hf.2 _ h w' hk⟩
theorem Zck : VEq Tryz.prog Zcx Z4C Zds Zw := ⟨by kernel_rfl, by kernel_rfl, by kernel_rfl, by kernel_rfl, by kernel_rfl, by kernel_rfl, by kernel_rfl⟩
theorem Z6g (xs : List Ex) (hl : xs.length ≤ 4096) (hk : ∀ x ∈ xs, SameX x) : CallTy Tryz.prog Z6h [.rep (ExsR xs), .rep (ExsR xs)] (.is (.bool true)) :=
 CallTy.of (fn := Tryz.f41) Tryz.func41 (n := 27) rfl rfl rfl (fun _ _ => by kernel_rfl) fun E W => by
 refine J.openExs (s := 0) rfl (fun a len cap b o hlen ha => ?_)
 refine J.openExs (s := 1) rfl (fun a2 len2 cap2 b2 o2 hlen2 ha2 => ?_)
 subst hlen hlen2
 refine vQ ?_
 refine Ja rfl ?_
 refine vP [0, 1] ?_
 refine Jm rfl (Jq (Zn Zj rfl) ?_)
 refine Jm rfl (Jq (Zn Zj rfl) ?_)
 refine Jq (Z24 rfl rfl) ?_
 refine vS [0, 1, 10] ?_
 refine yC rfl (fun ht10 => ?_) (fun ht10 => ?_)
 try simp only [yd, yf] at ht10
 refine vQ ?_
 refine Ja rfl ?_
 refine vS [4] ?_
 refine vR ?_
 exact JX.ret1is rfl rfl (by exact absurd ht10 (by simp))
 try simp only [yd, yf] at ht10
 apply yK
 refine vN ?_
 apply yN
 refine Ja rfl ?_
 refine vS [0, 1, 5] ?_
 apply yk
 repeat apply yQ
 refine J.loopF (α := Nat) (fun s => [(0, .is (.slice a xs.length cap)), (1, .is (.slice a2 xs.length cap2)), (5, .is (.int .i64 (s : Nat)))]) (fun s => s ≤ xs.length) (fun s => xs.length - s) 0 [0, 1, 5] (.cons rfl (.cons rfl (.cons rfl .nil))) (Nat.zero_le _) fun i hi => ?_
 refine vQ ?_
 refine Jm rfl (Jm rfl (Jq (Zn Zj rfl) ?_))
 refine Jq (ZU rfl rfl) ?_
 refine vS [0, 1, 5, 14] ?_
 refine yC rfl (fun ht14 => ?_) (fun ht14 => ?_)
 try simp only [yd, yf] at ht14
 apply yK
 refine vN ?_
 apply yk
 repeat apply yQ
 refine J.reg0 hmx qK qK ?_
 refine yz (Z2 rfl) ?_
 refine yz (Z2 rfl) ?_
 refine yz (Z7 Z1L rfl (ha qM) rfl qM qM) ?_
 refine yz (Z2X (i := i) (len := xs.length) (kid := xs.getD i ex0) Z9 rfl qI (ha qM) (Z3s qM) qM) ?_
 refine yz (Z2 rfl) ?_
 refine yz (Z2 rfl) ?_
 refine yz (Z7 Z1L rfl (ha2 qM) rfl qM qM) ?_
 refine yz (Z2X (i := i) (len := xs.length) (kid := xs.getD i ex0) Z9 rfl qI (ha2 qM) (Z3s qM) qM) ?_
 refine yz (ZI rfl (hk _ (Z2T qM)) (.one rfl (.one rfl .nil))) ?_
 refine yz (Z67 rfl) ?_
 apply yn
 refine FinS.nil0 ?_
 refine vS [0, 1, 5, 26] ?_
 refine yC rfl (fun ht26 => ?_) (fun ht26 => ?_)
 try simp only [yd, yf] at ht26
 refine vQ ?_
 refine Ja rfl ?_
 refine vS [4] ?_
 refine vR ?_
 exact JX.ret1is rfl rfl (by exact absurd ht26 qD)
 try simp only [yd, yf] at ht26
 apply yK
 refine vN ?_
 apply yN
 refine Jm rfl (Jq (ZD (cc := ((i + 1 : Nat) : Int)) rfl rfl qM qM qM) ?_)
 refine Ja rfl ?_
 apply yI
 repeat refine JX.normal_block ?_
 refine JX.roundS (i + 1) ?_ ?_ [0, 1, 5] ?_ ?_ ?_
 · exact qM
 · exact qM
 · exact qS
 · exact qB
 · exact qB
 try simp only [yd, yf] at ht14
 repeat apply yQ
 refine J.exit ?_
 repeat first|refine yH ?_|refine yM rfl ?_|refine yE ?_
 refine vN ?_
 apply yN
 refine Ja rfl ?_
 refine vS [4] ?_
 refine vR ?_
 exact JX.ret1is rfl rfl (rfl)
theorem Za1 (x : Ex) (hS : CallTy Tryz.prog Z6h [.rep (ExsR x.KS), .rep (ExsR x.KS)] (.is (.bool true))) : CallTy Tryz.prog Z6D [.rep (ExR x), .rep (ExR x)] (.is (.bool true)) :=
 CallTy.of (fn := Tryz.f17) Tryz.func17 (n := 43) rfl rfl rfl (fun _ _ => by kernel_rfl) fun E W => by
 refine J.openA (s := 0) rfl (fun a len cap b o hlen ha => ?_)
 refine J.openA (s := 1) rfl (fun a2 len2 cap2 b2 o2 hlen2 ha2 => ?_)
 refine vQ ?_
 refine JO.box rfl rfl fun b2 => ?_
 refine JO.box rfl rfl fun b3 => ?_
 refine Ja rfl ?_
 refine vS [2, 3] ?_
 refine J.reg0 hmx qK qK ?_
 refine yz (Z0 Z28 rfl) ?_
 refine yz (Z1 Zt rfl rfl) ?_
 refine yz (Z0 Z28 rfl) ?_
 refine yz (Z1 Zt rfl rfl) ?_
 refine yz (Z24 rfl rfl) ?_
 refine yz (Z2 rfl) ?_
 refine yg rfl rfl rfl (fun hg => Z0 Z6c (.inl rfl)) ?_
 refine yg rfl rfl rfl (fun hg => ZF (cs := [_, _, _]) Z4k (qR rfl) rfl rfl) ?_
 refine yg rfl rfl rfl (fun hg => Z0 Z6c (.inl rfl)) ?_
 refine yg rfl rfl rfl (fun hg => ZF (cs := [_, _, _]) Z4k (qR rfl) rfl rfl) ?_
 refine yg rfl rfl rfl (fun hg => Zil Zck (qR rfl) (qR rfl)) ?_
 refine yz (ZT rfl rfl rfl id) ?_
 refine yz (Z2 rfl) ?_
 refine yg rfl rfl rfl (fun hg => Z0 Z3Z (.inl rfl)) ?_
 refine yg rfl rfl rfl (fun hg => Z1 Z8 (qR rfl) rfl) ?_
 refine yg rfl rfl rfl (fun hg => Z0 Z3Z (.inl rfl)) ?_
 refine yg rfl rfl rfl (fun hg => Z1 Z8 (qR rfl) rfl) ?_
 refine yg rfl rfl rfl (fun hg => Z33 (qR rfl) (qR rfl)) ?_
 refine yz (ZT rfl rfl rfl id) ?_
 refine yz (Z2 rfl) ?_
 refine yg rfl rfl rfl (fun hg => Z0 Z3j (.inl rfl)) ?_
 refine yg rfl rfl rfl (fun hg => Z1 Z8 (qR rfl) rfl) ?_
 refine yg rfl rfl rfl (fun hg => Z0 Z3j (.inl rfl)) ?_
 refine yg rfl rfl rfl (fun hg => Z1 Z8 (qR rfl) rfl) ?_
 refine yg rfl rfl rfl (fun hg => Z33 (qR rfl) (qR rfl)) ?_
 refine yz (ZT rfl rfl rfl id) ?_
 refine yz (Z2 rfl) ?_
 refine yg rfl rfl rfl (fun hg => Z0 Z8W (.inl rfl)) ?_
 refine yg rfl rfl rfl (fun hg => Z1 Zt (qR rfl) rfl) ?_
 refine yg rfl rfl rfl (fun hg => Z0 Z8W (.inl rfl)) ?_
 refine yg rfl rfl rfl (fun hg => Z1 Zt (qR rfl) rfl) ?_
 refine yg rfl rfl rfl (fun hg => Z24 (qR rfl) (qR rfl)) ?_
 refine yz (ZT rfl rfl rfl id) ?_
 apply yn
 refine FinS.nil0 ?_
 refine vS [2, 3, 37] ?_
 refine yC rfl (fun ht37 => ?_) (fun ht37 => ?_)
 try simp only [yd, yf] at ht37
 refine vQ ?_
 refine Ja rfl ?_
 refine vS [4] ?_
 refine vR ?_
 exact JX.ret1is rfl rfl (by exact absurd ht37 (by simp [seq, veq]))
 try simp only [yd, yf] at ht37
 apply yK
 refine vN ?_
 apply yN
 refine Jq (Z0 Z2S rfl) ?_
 refine Jq (Z1 Zh rfl rfl) ?_
 refine Jq (Z0 Z2S rfl) ?_
 refine Jq (Z1 Zh rfl rfl) ?_
 refine Jq (ZI rfl (hS) (.sub rfl (Sub.exsK qI) (.sub rfl (Sub.exsK qI) .nil))) ?_
 refine Ja rfl ?_
 refine vS [4] ?_
 refine vR ?_
 exact JX.ret1is rfl rfl (rfl)
theorem Z6N : ∀ (n : Nat) (x : Ex), ect x ≤ n → ect x ≤ 4096 → SameX x
 | 0, x, h, _ => absurd h (by rw [Z2B]; omega)
 | n + 1, x, h, hx => Za1 x (Z6g x.KS (by have := ZaA x.KS; rw [Z2B] at hx; omega) fun y hy => Z6N n y (by have := Z3V hy; rw [Z2B] at h; omega) (by have := Z3V hy; rw [Z2B] at hx; omega))
end Go.Proofs.YtbedigkncjbggaaGreatDoor
