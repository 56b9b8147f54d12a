/- All expressions of a statement; a statement is the same as itself. No condition. -/
import Derived.Test.YtbedigkncjbggaaGreatDoorXQ13
import Derived.Test.YtbedigkncjbggaaGreatDoorXG7
import Derived.Test.YtbedigkncjbggaaGreatDoorXQ12
import Derived.Test.YtbedigkncjbggaaGreatDoorXQ1
set_option maxRecDepth 20000
namespace Go.Proofs.YtbedigkncjbggaaGreatDoor
open Go Go.Vc
open Go.Pz
theorem Zbq : CEq Tryz.prog ZX Zw Z4C Zez := ⟨by kernel_rfl, by kernel_rfl, by kernel_rfl, by kernel_rfl, by kernel_rfl, by kernel_rfl, by kernel_rfl⟩
theorem J.pureF {P : Program} {c : Ctx} {K : List (Nat × Ty)} {L : List Own} {Φ : List (World → Prop)} {Q : Exit → Act → World → Prop} {y : Code} {F : World → Prop} (h : F ∈ Φ) (hj : (∃ w, F w) → J P c K L Φ y Q) : J P c K L Φ y Q :=
 ⟨fun X a w hs => (hj ⟨w, (hs.f F h).now⟩).out X a w hs⟩
theorem ZeC {ps : List (Cel coE)} {l : List Col} (h : ∃ w, CelF coE ps w) (hm : ps.map Cel.x = l) {i : Nat} (hi : i < ps.length) (hi' : i < l.length) : ps[i].cs = [.string (l[i]).nm, .int .i64 (l[i]).ty, .bool (l[i]).nn, .bool (l[i]).un] := by
 obtain ⟨w, hw⟩ := h
 subst hm
 have : ps[i].cs = (ps[i].x).cells := hw _ (List.getElem_mem hi)
 rw [this]; simp [Col.cells]
theorem Zbu {ps : List (Cel stE)} {l : List ByteArray} (h : ∃ w, CelF stE ps w) (hm : ps.map Cel.x = l) {i : Nat} (hi : i < ps.length) (hi' : i < l.length) : ps[i].cs = [.string (l[i])] := by
 obtain ⟨w, hw⟩ := h
 subst hm
 have : ps[i].cs = [.string ps[i].x] := hw _ (List.getElem_mem hi)
 rw [this]; simp
theorem ZhI {xs : List Ex} {v : Value} {w : World} (h : ExsR xs v w) : ∃ a cap, v = .slice a xs.length cap := by
 obtain ⟨a, len, cap, rfl, hk⟩ := h
 exact ⟨a, cap, by rw [hk.1]⟩
theorem Ze0 {ps : List (Cel rwE)} {l : List (List Ex)} (h : ∃ w, CelF rwE ps w) (hm : ps.map Cel.x = l) {i : Nat} (hi : i < ps.length) (hi' : i < l.length) : ∃ a cap, ps[i].cs = [.slice a (l[i]).length cap] := by
 obtain ⟨w, hw⟩ := h
 subst hm
 obtain ⟨v, h1, h2⟩ := hw _ (List.getElem_mem hi)
 obtain ⟨a, cap, rfl⟩ := ZhI h2
 exact ⟨a, cap, by rw [h1]; simp⟩
theorem Zeq {ps : List (Cel itE)} {l : List Itm} (h : ∃ w, CelF itE ps w) (hm : ps.map Cel.x = l) {i : Nat} (hi : i < ps.length) (hi' : i < l.length) : (ps[i].cs)[0]? = some (.bool (l[i]).all) := by
 obtain ⟨w, hw⟩ := h
 subst hm
 obtain ⟨es, h1, h2⟩ := hw _ (List.getElem_mem hi)
 rw [h1]; simp
theorem ZbE {ps : List (Cel srE)} {l : List Pz.Src} (h : ∃ w, CelF srE ps w) (hm : ps.map Cel.x = l) {i : Nat} (hi : i < ps.length) (hi' : i < l.length) : ∃ a cap, ps[i].cs = [.string (l[i]).tb, .string (l[i]).nm, .slice a (l[i]).on.length cap] := by
 obtain ⟨w, hw⟩ := h
 subst hm
 obtain ⟨v, h1, h2⟩ := hw _ (List.getElem_mem hi)
 obtain ⟨a, cap, rfl⟩ := ZhI h2
 exact ⟨a, cap, by rw [h1]; simp⟩
theorem ZdZ {ps : List (Cel kyE)} {l : List Ky} (h : ∃ w, CelF kyE ps w) (hm : ps.map Cel.x = l) {i : Nat} (hi : i < ps.length) (hi' : i < l.length) : (ps[i].cs)[8]? = some (.bool (l[i]).desc) := by
 obtain ⟨w, hw⟩ := h
 subst hm
 obtain ⟨es, h1, h2⟩ := hw _ (List.getElem_mem hi)
 have h8 := Z6M h2
 rw [h1, List.getElem?_append_right qM, h8]; simp
theorem Zad (N : Nat) (S0 : Pz.St) (hsm : SmS S0) : CallTy Tryz.prog ZdC [.rep (StR N S0)] (.rep (ExsR (exsOf S0))) :=
 CallTy.of (fn := Tryz.f18) Tryz.func18 (n := 81) rfl rfl rfl (fun _ _ => by kernel_rfl) fun E W => by
 refine J.openSt (s := 0) rfl (fun vc vn vr vi vf vw vg vo vs => ?_)
 have hsm0 := hsm
 obtain ⟨hb1, hb2, hb3, hb4, hb5, hb6, hb7, hb8, hb9, hb10, hb11⟩ := hsm
 refine J.shapeE (xs := S0.rows) (v := vr) qI (fun pr ar lr cr br or_ hpr hvr hlr har => ?_)
 refine J.shapeE (xs := S0.items) (v := vi) qI (fun pi ai li ci bi oi hpi hvi hli hai => ?_)
 refine J.shapeE (xs := S0.from_) (v := vf) qI (fun pf af lf cf bf of_ hpf hvf hlf haf => ?_)
 refine J.shapeE (xs := S0.order) (v := vo) qI (fun po ao lo co bo oo hpo hvo hlo hao => ?_)
 refine J.fact (ExsR S0.where_ vw) (fun X w hF _ w' hk => SlE.exs (hF (SlE exE (FX N) S0.where_ vw) qI w' hk)) ?_
 refine J.shapeX (xs := S0.where_) (v := vw) qI (fun pw aw lw cw bw ow hpw hvw hlw haw => ?_)
 refine J.shapeX (xs := S0.group) (v := vg) qI (fun pg ag lg cg bg og hpg hvg hlg hag => ?_)
 refine J.shapeX (xs := S0.sets) (v := vs) qI (fun px ax lx cx bx ox hpx hvx hlx hax => ?_)
 subst hvr hvi hvf hvo hvw hvg hvx
 have nr : pr.length = S0.rows.length := by rw [← hpr, List.length_map]
 have ni : pi.length = S0.items.length := by rw [← hpi, List.length_map]
 have nf : pf.length = S0.from_.length := by rw [← hpf, List.length_map]
 have no : po.length = S0.order.length := by rw [← hpo, List.length_map]
 have nw : pw.length = S0.where_.length := by rw [← hpw, List.length_map]
 have ng : pg.length = S0.group.length := by rw [← hpg, List.length_map]
 have nx : px.length = S0.sets.length := by rw [← hpx, List.length_map]
 refine vQ ?_
 refine JO.box rfl rfl fun b1 => ?_
 refine Ja rfl ?_
 refine vP [1] ?_
 refine Ja rfl ?_
 refine vP [1, 3] ?_
 refine Ja rfl ?_
 refine vS [1, 3, 4] ?_
 apply yk
 repeat apply yQ
 refine J.loopH (α := List (Cel exE) × Option (Nat × List Value) × Nat × Nat) (fun z => [(1, .is (.pointer (some ⟨b1, 0, none⟩))), (3, .is (sliceO z.2.1 z.1.length z.2.2.1)), (4, .is (.int .i64 (z.2.2.2 : Nat)))]) (fun z => ownO z.2.1 Z6 [⟨b1, ZB, .is (stV S0 vc vn (.slice ar lr cr) (.slice ai li ci) (.slice af lf cf) (.slice aw lw cw) (.slice ag lg cg) (.slice ao lo co) (.slice ax lx cx))⟩]) (fun z => CelF exE z.1) (fun z => z.2.2.2 ≤ pr.length ∧ Grows Cel.cs 8 z.1 z.2.1 z.2.2.1 ∧ z.1.map Cel.x = ((pr.take z.2.2.2).map Cel.x).flatten ∧ z.1.length ≤ 16 * z.2.2.2) (fun z => pr.length - z.2.2.2) ([], none, 0, 0) [1, 3, 4] (.cons rfl (.cons rfl (.cons rfl .nil))) rfl (fun X w hF => fun w' hk => CelF.nil w') ⟨Nat.zero_le _, rfl, rfl, Nat.zero_le _⟩ fun ⟨qpr, stpr, cappr, i⟩ ⟨hi, hGpr, hmpr, hlpr⟩ => ?_
 try dsimp only
 try dsimp only at stpr
 try dsimp only at cappr
 try dsimp only at i
 try dsimp only at hi
 try dsimp only at hGpr
 try dsimp only at hmpr
 try dsimp only at hlpr
 refine vQ ?_
 refine Jm rfl (Jq (Z0 Z1w rfl) ?_)
 refine Jq (Z1 Z1p rfl rfl) ?_
 refine Jq (Zn Z1t rfl) ?_
 refine Jq (ZU rfl rfl) ?_
 refine vS [1, 3, 4, 12] ?_
 refine yC rfl (fun ht12 => ?_) (fun ht12 => ?_)
 try simp only [yd, yf] at ht12
 apply yK
 refine vN ?_
 apply yk
 refine J.fact (ExsR pr[i].x (hdv pr[i].cs)) (fun X w hF _ w' hk => Zeh (List.getElem_mem _) (hF (CelF rwE pr) qI w' hk)) ?_
 refine J.shapeX (xs := pr[i].x) (v := hdv pr[i].cs) qI (fun ps a2 l2 cap0 b2 o2 hps hv2 hl2 ha2 => ?_)
 have hln : ps.length ≤ 16 := by rw [← List.length_map (f := Cel.x), hps]; exact hb2 _ (by rw [← hpr]; exact List.mem_map_of_mem (List.getElem_mem _))
 refine vQ ?_
 refine Jm rfl (Jq (Z0 Z1w rfl) ?_)
 refine Jq (Z1 Z1p rfl rfl) ?_
 refine Jm rfl (Jq (Z7 Z2n rfl (har qM) rfl qM qM) ?_)
 refine Jq (ZH (sz := 1) (j := 0) (enc := Cel.cs) (u := .slice a2 l2 cap0) Zh rfl qI (har qM) (List.getElem?_eq_getElem (by omega : i < pr.length)) qM (by rw [ZhL, hv2]; rfl)) ?_
 refine JO.apA (ps) Z1n Cel.hlen .here hGpr rfl rfl (fun L => Z5y (a := a2) (len := l2) (cap := cap0) Cel.hlen qD (fun p => p.o) Zj qI) (by have := hlpr; (try dsimp only at this); omega) (by have := hlpr; (try dsimp only at this); omega) rfl (fun st2 cap2 hG2 => ?_)
 refine Ja rfl ?_
 refine vP [1, 3, 4] ?_
 refine Jm rfl (Jq (ZD (cc := ((i + 1 : Nat) : Int)) rfl rfl qM qM qM) ?_)
 refine Ja rfl ?_
 apply yI
 repeat refine JX.normal_block ?_
 refine JX.roundG (x := (qpr, stpr, cappr, i)) (qpr ++ ps, st2, cap2, i + 1) ?_ ?_ [1, 3, 4] ?_ ?_ ?_ ?_
 · exact ⟨(by show i + 1 ≤ _; omega), hG2, (by show (qpr ++ ps).map Cel.x = _; rw [List.map_append, hmpr, Z3M qM]; simp only [List.map_append, List.map_cons, List.map_nil, List.flatten_append, List.flatten_cons, List.flatten_nil, List.append_nil, List.append_assoc, hps]), (by show (qpr ++ ps).length ≤ _; rw [List.length_append]; have := hlpr; have := hln; (try dsimp only at *); omega)⟩
 · exact (by show pr.length - (i + 1) < pr.length - i; omega)
 · exact qS
 · exact qH
 · exact qG
 · exact fun X w hF => fun w' hk p hp => (List.mem_append.1 hp).elim (fun hp => hF (CelF exE qpr) qI w' hk p hp) (fun hp => hF (CelF exE ps) qI w' hk p hp)
 try simp only [yd, yf] at ht12
 repeat apply yQ
 refine J.exit ?_
 repeat first|refine yH ?_|refine yM rfl ?_|refine yE ?_
 repeat first|apply yX|apply yB
 have hi2 : i = pr.length := by omega
 subst hi2
 rw [List.take_length] at hmpr
 rw [hpr] at hmpr
 refine vQ ?_
 refine Ja rfl ?_
 refine vS [1, 3, 5] ?_
 apply yk
 repeat apply yQ
 refine J.loopH (α := List (Cel exE) × Option (Nat × List Value) × Nat × Nat) (fun z => [(1, .is (.pointer (some ⟨b1, 0, none⟩))), (3, .is (sliceO z.2.1 z.1.length z.2.2.1)), (5, .is (.int .i64 (z.2.2.2 : Nat)))]) (fun z => ownO z.2.1 Z6 [⟨b1, ZB, .is (stV S0 vc vn (.slice ar lr cr) (.slice ai li ci) (.slice af lf cf) (.slice aw lw cw) (.slice ag lg cg) (.slice ao lo co) (.slice ax lx cx))⟩]) (fun z => CelF exE z.1) (fun z => z.2.2.2 ≤ pi.length ∧ Grows Cel.cs 8 z.1 z.2.1 z.2.2.1 ∧ z.1.map Cel.x = S0.rows.flatten ++ (pi.take z.2.2.2).map (·.x.ex) ∧ z.1.length ≤ 512 + z.2.2.2) (fun z => pi.length - z.2.2.2) (qpr, stpr, cappr, 0) [1, 3, 5] (.cons rfl (.cons rfl (.cons rfl .nil))) rfl (fun X w hF => hF _ qI) ⟨Nat.zero_le _, hGpr, (by rw [hmpr]; simp), (by show qpr.length ≤ 512 + 0; have := hlpr; (try dsimp only at this); omega)⟩ fun ⟨qpi, stpi, cappi, i⟩ ⟨hi, hGpi, hmpi, hlpi⟩ => ?_
 try dsimp only
 try dsimp only at stpi
 try dsimp only at cappi
 try dsimp only at i
 try dsimp only at hi
 try dsimp only at hGpi
 try dsimp only at hmpi
 try dsimp only at hlpi
 refine vQ ?_
 refine Jm rfl (Jq (Z0 Z1T rfl) ?_)
 refine Jq (Z1 Z1Y rfl rfl) ?_
 refine Jq (Zn Z2e rfl) ?_
 refine Jq (ZU rfl rfl) ?_
 refine vS [1, 3, 5, 26] ?_
 refine yC rfl (fun ht26 => ?_) (fun ht26 => ?_)
 try simp only [yd, yf] at ht26
 apply yK
 refine vN ?_
 apply yk
 obtain ⟨u1, q1, hq1, hq2, hq3⟩ := Zfw pi[i]
 obtain ⟨c1, c2, c3, c4, c5, c6, c7, c8, hcs⟩ := cs8 q1
 refine J.fact (CelR q1) (fun X w hF _ w' hk => hq3 pi w' (List.getElem_mem _) (hF (CelF itE pi) qI w' hk)) ?_
 refine vQ ?_
 refine Jm rfl (Jq (Z0 Z1T rfl) ?_)
 refine Jq (Z1 Z1Y rfl rfl) ?_
 refine Jm rfl (Jq (Z7 Z3J rfl (hai qM) rfl qM qM) ?_)
 refine Jq (Z0 Z6b rfl) ?_
 refine Jq (ZbO (sz := 9) (i := i) (j := 1) (n := 8) (enc := Cel.cs) (cs := q1.cs) (by rw [q1.h]; exact Z9) rfl qI (hai qM) (List.getElem?_eq_getElem (by omega : i < pi.length)) qM (by rw [hq1]; show (List.drop 1 (u1 :: q1.cs)).take 8 = q1.cs; rw [List.drop_one, List.tail_cons, List.take_of_length_le (by rw [q1.h]; exact Nat.le_refl _)])) ?_
 refine Jq (Z2D (p := q1) Z4K ZR rfl qD rfl) ?_
 refine JO.apA ([q1]) Z1n Cel.hlen .here hGpi rfl rfl (srcE q1 Zj) (by have := hlpi; (try dsimp only at this); (try simp only [List.length_singleton]); omega) (by have := hlpi; (try dsimp only at this); (try simp only [List.length_singleton]); omega) rfl (fun st2 cap2 hG2 => ?_)
 refine Ja rfl ?_
 refine vP [1, 3, 5] ?_
 refine Jm rfl (Jq (ZD (cc := ((i + 1 : Nat) : Int)) rfl rfl qM qM qM) ?_)
 refine Ja rfl ?_
 apply yI
 repeat refine JX.normal_block ?_
 refine JX.roundG (x := (qpi, stpi, cappi, i)) (qpi ++ [q1], st2, cap2, i + 1) ?_ ?_ [1, 3, 5] ?_ ?_ ?_ ?_
 · exact ⟨(by show i + 1 ≤ _; omega), hG2, (by show (qpi ++ [q1]).map Cel.x = _; rw [List.map_append, hmpi, Z3M qM]; simp only [List.map_append, List.map_cons, List.map_nil, List.append_assoc, hq2]), (by show (qpi ++ [q1]).length ≤ _; rw [List.length_append]; have := hlpi; have := (show [q1].length ≤ 1 from Nat.le_refl 1); (try dsimp only at *); omega)⟩
 · exact (by show pi.length - (i + 1) < pi.length - i; omega)
 · exact qS
 · exact qH
 · exact qG
 · exact fun X w hF => fun w' hk p hp => (List.mem_append.1 hp).elim (fun hp => hF (CelF exE qpi) qI w' hk p hp) (fun hp => by rw [List.mem_singleton.1 hp]; exact hF (CelR q1) qI w' hk)
 try simp only [yd, yf] at ht26
 repeat apply yQ
 refine J.exit ?_
 repeat first|refine yH ?_|refine yM rfl ?_|refine yE ?_
 repeat first|apply yX|apply yB
 have hi2 : i = pi.length := by omega
 subst hi2
 rw [List.take_length] at hmpi
 refine vQ ?_
 refine Ja rfl ?_
 refine vS [1, 3, 6] ?_
 apply yk
 repeat apply yQ
 refine J.loopH (α := List (Cel exE) × Option (Nat × List Value) × Nat × Nat) (fun z => [(1, .is (.pointer (some ⟨b1, 0, none⟩))), (3, .is (sliceO z.2.1 z.1.length z.2.2.1)), (6, .is (.int .i64 (z.2.2.2 : Nat)))]) (fun z => ownO z.2.1 Z6 [⟨b1, ZB, .is (stV S0 vc vn (.slice ar lr cr) (.slice ai li ci) (.slice af lf cf) (.slice aw lw cw) (.slice ag lg cg) (.slice ao lo co) (.slice ax lx cx))⟩]) (fun z => CelF exE z.1) (fun z => z.2.2.2 ≤ pf.length ∧ Grows Cel.cs 8 z.1 z.2.1 z.2.2.1 ∧ z.1.map Cel.x = S0.rows.flatten ++ S0.items.map (·.ex) ++ ((pf.take z.2.2.2).map (·.x.on)).flatten ∧ z.1.length ≤ 528 + z.2.2.2) (fun z => pf.length - z.2.2.2) (qpi, stpi, cappi, 0) [1, 3, 6] (.cons rfl (.cons rfl (.cons rfl .nil))) rfl (fun X w hF => hF _ qI) ⟨Nat.zero_le _, hGpi, (by rw [hmpi, ← hpi]; first|(simp; done)|(simp; rfl)), (by show qpi.length ≤ 528 + 0; have := hlpi; (try dsimp only at this); omega)⟩ fun ⟨qpf, stpf, cappf, i⟩ ⟨hi, hGpf, hmpf, hlpf⟩ => ?_
 try dsimp only
 try dsimp only at stpf
 try dsimp only at cappf
 try dsimp only at i
 try dsimp only at hi
 try dsimp only at hGpf
 try dsimp only at hmpf
 try dsimp only at hlpf
 refine vQ ?_
 refine Jm rfl (Jq (Z0 ZY rfl) ?_)
 refine Jq (Z1 ZQ rfl rfl) ?_
 refine Jq (Zn Z1Q rfl) ?_
 refine Jq (ZU rfl rfl) ?_
 refine vS [1, 3, 6, 42] ?_
 refine yC rfl (fun ht42 => ?_) (fun ht42 => ?_)
 try simp only [yd, yf] at ht42
 apply yK
 refine vN ?_
 apply yk
 obtain ⟨u1, u2, u3, hq1, hq3⟩ := Zgu pf[i]
 refine J.fact (ExsR pf[i].x.on u3) (fun X w hF _ w' hk => hq3 pf w' (List.getElem_mem _) (hF (CelF srE pf) qI w' hk)) ?_
 refine J.shapeX (xs := pf[i].x.on) (v := u3) qI (fun ps a2 l2 cap0 b2 o2 hps hv2 hl2 ha2 => ?_)
 subst hv2
 have hln : ps.length ≤ 1 := by rw [← List.length_map (f := Cel.x), hps]; exact hb5 _ (by rw [← hpf]; exact List.mem_map_of_mem (List.getElem_mem _))
 refine vQ ?_
 refine Jm rfl (Jq (Z0 ZY rfl) ?_)
 refine Jq (Z1 ZQ rfl rfl) ?_
 refine Jm rfl (Jq (Z7 Z1H rfl (haf qM) rfl qM qM) ?_)
 refine Jq (Z0 Z1O rfl) ?_
 refine Jq (ZH (sz := 3) (j := 2) (enc := Cel.cs) (u := .slice a2 l2 cap0) Zh rfl qI (haf qM) (List.getElem?_eq_getElem (by omega : i < pf.length)) qM (by rw [hq1]; rfl)) ?_
 refine JO.apA (ps) Z1n Cel.hlen .here hGpf rfl rfl (fun L => Z5y (a := a2) (len := l2) (cap := cap0) Cel.hlen qD (fun p => p.o) Zj qI) (by have := hlpf; (try dsimp only at this); omega) (by have := hlpf; (try dsimp only at this); omega) rfl (fun st2 cap2 hG2 => ?_)
 refine Ja rfl ?_
 refine vP [1, 3, 6] ?_
 refine Jm rfl (Jq (ZD (cc := ((i + 1 : Nat) : Int)) rfl rfl qM qM qM) ?_)
 refine Ja rfl ?_
 apply yI
 repeat refine JX.normal_block ?_
 refine JX.roundG (x := (qpf, stpf, cappf, i)) (qpf ++ ps, st2, cap2, i + 1) ?_ ?_ [1, 3, 6] ?_ ?_ ?_ ?_
 · exact ⟨(by show i + 1 ≤ _; omega), hG2, (by show (qpf ++ ps).map Cel.x = _; rw [List.map_append, hmpf, Z3M qM]; simp only [List.map_append, List.map_cons, List.map_nil, List.flatten_append, List.flatten_cons, List.flatten_nil, List.append_nil, List.append_assoc, hps]), (by show (qpf ++ ps).length ≤ _; rw [List.length_append]; have := hlpf; have := hln; (try dsimp only at *); omega)⟩
 · exact (by show pf.length - (i + 1) < pf.length - i; omega)
 · exact qS
 · exact qH
 · exact qG
 · exact fun X w hF => fun w' hk p hp => (List.mem_append.1 hp).elim (fun hp => hF (CelF exE qpf) qI w' hk p hp) (fun hp => hF (CelF exE ps) qI w' hk p hp)
 try simp only [yd, yf] at ht42
 repeat apply yQ
 refine J.exit ?_
 repeat first|refine yH ?_|refine yM rfl ?_|refine yE ?_
 repeat first|apply yX|apply yB
 have hi2 : i = pf.length := by omega
 subst hi2
 rw [List.take_length] at hmpf
 refine vQ ?_
 refine Ja rfl ?_
 refine vS [1, 3, 7] ?_
 apply yk
 repeat apply yQ
 refine J.loopH (α := List (Cel exE) × Option (Nat × List Value) × Nat × Nat) (fun z => [(1, .is (.pointer (some ⟨b1, 0, none⟩))), (3, .is (sliceO z.2.1 z.1.length z.2.2.1)), (7, .is (.int .i64 (z.2.2.2 : Nat)))]) (fun z => ownO z.2.1 Z6 [⟨b1, ZB, .is (stV S0 vc vn (.slice ar lr cr) (.slice ai li ci) (.slice af lf cf) (.slice aw lw cw) (.slice ag lg cg) (.slice ao lo co) (.slice ax lx cx))⟩]) (fun z => CelF exE z.1) (fun z => z.2.2.2 ≤ po.length ∧ Grows Cel.cs 8 z.1 z.2.1 z.2.2.1 ∧ z.1.map Cel.x = S0.rows.flatten ++ S0.items.map (·.ex) ++ (S0.from_.map (·.on)).flatten ++ (po.take z.2.2.2).map (·.x.ex) ∧ z.1.length ≤ 532 + z.2.2.2) (fun z => po.length - z.2.2.2) (qpf, stpf, cappf, 0) [1, 3, 7] (.cons rfl (.cons rfl (.cons rfl .nil))) rfl (fun X w hF => hF _ qI) ⟨Nat.zero_le _, hGpf, (by rw [hmpf, ← hpf]; first|(simp; done)|(simp; rfl)), (by show qpf.length ≤ 532 + 0; have := hlpf; (try dsimp only at this); omega)⟩ fun ⟨qpo, stpo, cappo, i⟩ ⟨hi, hGpo, hmpo, hlpo⟩ => ?_
 try dsimp only
 try dsimp only at stpo
 try dsimp only at cappo
 try dsimp only at i
 try dsimp only at hi
 try dsimp only at hGpo
 try dsimp only at hmpo
 try dsimp only at hlpo
 refine vQ ?_
 refine Jm rfl (Jq (Z0 Z1q rfl) ?_)
 refine Jq (Z1 Z1U rfl rfl) ?_
 refine Jq (Zn Z26 rfl) ?_
 refine Jq (ZU rfl rfl) ?_
 refine vS [1, 3, 7, 57] ?_
 refine yC rfl (fun ht57 => ?_) (fun ht57 => ?_)
 try simp only [yd, yf] at ht57
 apply yK
 refine vN ?_
 apply yk
 obtain ⟨u1, q1, hq1, hq2, hq3⟩ := Zfn po[i]
 obtain ⟨c1, c2, c3, c4, c5, c6, c7, c8, hcs⟩ := cs8 q1
 refine J.fact (CelR q1) (fun X w hF _ w' hk => hq3 po w' (List.getElem_mem _) (hF (CelF kyE po) qI w' hk)) ?_
 refine vQ ?_
 refine Jm rfl (Jq (Z0 Z1q rfl) ?_)
 refine Jq (Z1 Z1U rfl rfl) ?_
 refine Jm rfl (Jq (Z7 Z3X rfl (hao qM) rfl qM qM) ?_)
 refine Jq (Z0 Z5j rfl) ?_
 refine Jq (ZbO (sz := 9) (i := i) (j := 0) (n := 8) (enc := Cel.cs) (cs := q1.cs) (by rw [q1.h]; exact Z9) rfl qI (hao qM) (List.getElem?_eq_getElem (by omega : i < po.length)) qM (by rw [hq1]; show (List.drop 0 (q1.cs ++ [u1])).take 8 = q1.cs; rw [List.drop_zero]; exact List.take_left' q1.h)) ?_
 refine Jq (Z2D (p := q1) Z4K ZR rfl qD rfl) ?_
 refine JO.apA ([q1]) Z1n Cel.hlen .here hGpo rfl rfl (srcE q1 Zj) (by have := hlpo; (try dsimp only at this); (try simp only [List.length_singleton]); omega) (by have := hlpo; (try dsimp only at this); (try simp only [List.length_singleton]); omega) rfl (fun st2 cap2 hG2 => ?_)
 refine Ja rfl ?_
 refine vP [1, 3, 7] ?_
 refine Jm rfl (Jq (ZD (cc := ((i + 1 : Nat) : Int)) rfl rfl qM qM qM) ?_)
 refine Ja rfl ?_
 apply yI
 repeat refine JX.normal_block ?_
 refine JX.roundG (x := (qpo, stpo, cappo, i)) (qpo ++ [q1], st2, cap2, i + 1) ?_ ?_ [1, 3, 7] ?_ ?_ ?_ ?_
 · exact ⟨(by show i + 1 ≤ _; omega), hG2, (by show (qpo ++ [q1]).map Cel.x = _; rw [List.map_append, hmpo, Z3M qM]; simp only [List.map_append, List.map_cons, List.map_nil, List.append_assoc, hq2]), (by show (qpo ++ [q1]).length ≤ _; rw [List.length_append]; have := hlpo; have := (show [q1].length ≤ 1 from Nat.le_refl 1); (try dsimp only at *); omega)⟩
 · exact (by show po.length - (i + 1) < po.length - i; omega)
 · exact qS
 · exact qH
 · exact qG
 · exact fun X w hF => fun w' hk p hp => (List.mem_append.1 hp).elim (fun hp => hF (CelF exE qpo) qI w' hk p hp) (fun hp => by rw [List.mem_singleton.1 hp]; exact hF (CelR q1) qI w' hk)
 try simp only [yd, yf] at ht57
 repeat apply yQ
 refine J.exit ?_
 repeat first|refine yH ?_|refine yM rfl ?_|refine yE ?_
 repeat first|apply yX|apply yB
 have hi2 : i = po.length := by omega
 subst hi2
 rw [List.take_length] at hmpo
 refine vQ ?_
 refine Jm rfl (Jq (Z0 Z1J rfl) ?_)
 refine Jq (Z1 Zh rfl rfl) ?_
 refine JO.apA (pw) Z1n Cel.hlen .here hGpo rfl rfl (fun L => Z5y (a := aw) (len := lw) (cap := cw) Cel.hlen qD (fun p => p.o) Zj qI) (by have := hlpo; (try dsimp only at this); omega) (by have := hlpo; (try dsimp only at this); omega) rfl (fun st4 cap4 hG4 => ?_)
 refine Ja rfl ?_
 refine vP [1, 3] ?_
 refine Jm rfl (Jq (Z0 Z3m rfl) ?_)
 refine Jq (Z1 Zh rfl rfl) ?_
 refine JO.apA (pg) Z1n Cel.hlen .here hG4 rfl rfl (fun L => Z5y (a := ag) (len := lg) (cap := cg) Cel.hlen qD (fun p => p.o) Zj qI) (by have := hlpo; (try dsimp only at this); simp only [List.length_append]; omega) (by have := hlpo; (try dsimp only at this); simp only [List.length_append]; omega) rfl (fun st5 cap5 hG5 => ?_)
 refine Ja rfl ?_
 refine vP [1, 3] ?_
 refine Jm rfl (Jq (Z0 Z34 rfl) ?_)
 refine Jq (Z1 Zh rfl rfl) ?_
 refine JO.apA (px) Z1n Cel.hlen .here hG5 rfl rfl (fun L => Z5y (a := ax) (len := lx) (cap := cx) Cel.hlen qD (fun p => p.o) Zj qI) (by have := hlpo; (try dsimp only at this); simp only [List.length_append]; omega) (by have := hlpo; (try dsimp only at this); simp only [List.length_append]; omega) rfl (fun st6 cap6 hG6 => ?_)
 refine Ja rfl ?_
 refine vS [2] ?_
 refine J.freezeOMW (N := 0) (e := Z6) (sz := 8) (Nat.zero_le _) Cel.hlen hG6 .here (fun q hq => hq.elim) rfl rfl ?_
 refine J.fact (ExsR (exsOf S0) (sliceO st6 (qpo ++ pw ++ pg ++ px).length cap6)) (fun X w hF _ w' hk => by rw [hG6.sl.1]; exact ⟨_, _, _, rfl, by rw [show exsOf S0 = (qpo ++ pw ++ pg ++ px).map Cel.x from by unfold exsOf; rw [List.map_append, List.map_append, List.map_append, hmpo, hpw, hpg, hpx, ← hpo]; first|(simp; done)|(simp; rfl)]; exact Cel.kids (hF (RowG Cel.cs 8 (qpo ++ pw ++ pg ++ px) (adO st6) (qpo ++ pw ++ pg ++ px).length) qI w' hk) (fun p hp => by
       rcases List.mem_append.1 hp with hp | hp
       · rcases List.mem_append.1 hp with hp | hp
         · rcases List.mem_append.1 hp with hp | hp
           · exact hF (CelF exE qpo) qI w' hk p hp
           · exact hF (CelF exE pw) qI w' hk p hp
         · exact hF (CelF exE pg) qI w' hk p hp
       · exact hF (CelF exE px) qI w' hk p hp)⟩) ?_
 refine vR ?_
 exact JX.ret1sub rfl rfl rfl (Sub.fact qI)
set_option maxHeartbeats 2000000 in
theorem Zch (N N2 : Nat) (S0 : Pz.St) (hsm : SmS S0) : CallTy Tryz.prog Zcj [.rep (StR N S0), .rep (StR N2 S0)] (.is (.bool true)) :=
 CallTy.of (fn := Tryz.f40) Tryz.func40 (n := 159) rfl rfl rfl (fun _ _ => by kernel_rfl) fun E W => by
 obtain ⟨hb1, hb2, hb3, hb4, hb5, hb6, hb7, hb8, hb9, hb10, hb11⟩ := hsm
 refine J.openSt (s := 0) rfl (fun vc vn vr vi vf vw vg vo vs => ?_)
 refine J.shapeE (xs := S0.cols) (v := vc) qI (fun pc ac lc cc bc oc hpc hvc hlc hac => ?_)
 refine J.shapeE (xs := S0.names) (v := vn) qI (fun pn an ln cn bn on hpn hvn hln han => ?_)
 refine J.shapeE (xs := S0.rows) (v := vr) qI (fun pr ar lr cr br or_ hpr hvr hlr har => ?_)
 refine J.shapeE (xs := S0.items) (v := vi) qI (fun pi ai li ci bi oi hpi hvi hli hai => ?_)
 refine J.shapeE (xs := S0.from_) (v := vf) qI (fun pf af lf cf bf of_ hpf hvf hlf haf => ?_)
 refine J.shapeE (xs := S0.order) (v := vo) qI (fun po ao lo co bo oo hpo hvo hlo hao => ?_)
 refine J.pureF (F := CelF coE pc) qI (fun puc => ?_)
 refine J.pureF (F := CelF stE pn) qI (fun pun => ?_)
 refine J.pureF (F := CelF rwE pr) qI (fun pur => ?_)
 refine J.pureF (F := CelF itE pi) qI (fun pui => ?_)
 refine J.pureF (F := CelF srE pf) qI (fun puf => ?_)
 refine J.pureF (F := CelF kyE po) qI (fun puo => ?_)
 subst hvc hvn hvr hvi hvf hvo
 have nc : pc.length = S0.cols.length := by rw [← hpc, List.length_map]
 have nn : pn.length = S0.names.length := by rw [← hpn, List.length_map]
 have nr : pr.length = S0.rows.length := by rw [← hpr, List.length_map]
 have ni : pi.length = S0.items.length := by rw [← hpi, List.length_map]
 have nf : pf.length = S0.from_.length := by rw [← hpf, List.length_map]
 have no : po.length = S0.order.length := by rw [← hpo, List.length_map]
 refine J.openSt (s := 1) rfl (fun vcz vnz vrz viz vfz vwz vgz voz vsz => ?_)
 refine J.shapeE (xs := S0.cols) (v := vcz) qI (fun pcz acz lcz ccz bcz ocz hpcz hvcz hlcz hacz => ?_)
 refine J.shapeE (xs := S0.names) (v := vnz) qI (fun pnz anz lnz cnz bnz onz hpnz hvnz hlnz hanz => ?_)
 refine J.shapeE (xs := S0.rows) (v := vrz) qI (fun prz arz lrz crz brz orz_ hprz hvrz hlrz harz => ?_)
 refine J.shapeE (xs := S0.items) (v := viz) qI (fun piz aiz liz ciz biz oiz hpiz hviz hliz haiz => ?_)
 refine J.shapeE (xs := S0.from_) (v := vfz) qI (fun pfz afz lfz cfz bfz ofz_ hpfz hvfz hlfz hafz => ?_)
 refine J.shapeE (xs := S0.order) (v := voz) qI (fun poz aoz loz coz boz ooz hpoz hvoz hloz haoz => ?_)
 refine J.pureF (F := CelF coE pcz) qI (fun pucz => ?_)
 refine J.pureF (F := CelF stE pnz) qI (fun punz => ?_)
 refine J.pureF (F := CelF rwE prz) qI (fun purz => ?_)
 refine J.pureF (F := CelF itE piz) qI (fun puiz => ?_)
 refine J.pureF (F := CelF srE pfz) qI (fun pufz => ?_)
 refine J.pureF (F := CelF kyE poz) qI (fun puoz => ?_)
 subst hvcz hvnz hvrz hviz hvfz hvoz
 have ncz : pcz.length = S0.cols.length := by rw [← hpcz, List.length_map]
 have nnz : pnz.length = S0.names.length := by rw [← hpnz, List.length_map]
 have nrz : prz.length = S0.rows.length := by rw [← hprz, List.length_map]
 have niz : piz.length = S0.items.length := by rw [← hpiz, List.length_map]
 have nfz : pfz.length = S0.from_.length := by rw [← hpfz, List.length_map]
 have noz : poz.length = S0.order.length := by rw [← hpoz, List.length_map]
 refine vQ ?_
 refine JO.box rfl rfl fun b2 => ?_
 refine JO.box rfl rfl fun b3 => ?_
 refine Ja rfl ?_
 refine vP [2, 3] ?_
 refine Ja rfl ?_
 refine vS [2, 3, 5] ?_
 apply yk
 repeat apply yQ
 refine J.loopF (α := Nat) (fun k => [(2, _), (3, _), (5, .is (.int .i64 (k : Nat)))]) (fun k => k ≤ lc) (fun k => lc - k) 0 [2, 3, 5] (.cons rfl (.cons rfl (.cons rfl .nil))) (Nat.zero_le _) fun i hi => ?_
 refine vQ ?_
 refine Jm rfl (Jq (Z0 Z2U rfl) ?_)
 refine Jq (Z1 Z2w rfl rfl) ?_
 refine Jq (Zn Z2u rfl) ?_
 refine Jq (ZU rfl rfl) ?_
 refine vS [2, 3, 5, 15] ?_
 refine yC rfl (fun ht15 => ?_) (fun ht15 => ?_)
 try simp only [yd, yf] at ht15
 apply yK
 refine vN ?_
 apply yk
 have hbi : i < S0.cols.length := by omega
 repeat apply yQ
 refine J.reg0 hmx qK qK ?_
 refine yz (Z0 Z2U rfl) ?_
 refine yz (Z1 Z2w rfl rfl) ?_
 refine yz (Z2 rfl) ?_
 refine yz (Z7 Z4I rfl (hac qM) rfl qM qM) ?_
 refine yz (Z2Q (sz := 4) (i := i) (enc := Cel.cs) (cs := [.string (S0.cols[i]'hbi).nm, .int .i64 (S0.cols[i]'hbi).ty, .bool (S0.cols[i]'hbi).nn, .bool (S0.cols[i]'hbi).un]) Z1v rfl qI (hac qM) (List.getElem?_eq_getElem (by omega : i < pc.length)) qM (ZeC puc hpc _ _)) ?_
 refine yz (Z0 Z2U rfl) ?_
 refine yz (Z1 Z2w rfl rfl) ?_
 refine yz (Z2 rfl) ?_
 refine yz (Z7 Z4I rfl (hacz qM) rfl qM qM) ?_
 refine yz (Z2Q (sz := 4) (i := i) (enc := Cel.cs) (cs := [.string (S0.cols[i]'hbi).nm, .int .i64 (S0.cols[i]'hbi).ty, .bool (S0.cols[i]'hbi).nn, .bool (S0.cols[i]'hbi).un]) Z1v rfl qI (hacz qM) (List.getElem?_eq_getElem (by omega : i < pcz.length)) qM (ZeC pucz hpcz _ _)) ?_
 refine yz (Zjj Zbq rfl rfl) ?_
 apply yn
 refine FinS.nil0 ?_
 refine vS [2, 3, 5, 28] ?_
 refine yC rfl (fun ht28 => ?_) (fun ht28 => ?_)
 try simp only [yd, yf] at ht28
 refine vQ ?_
 refine Ja rfl ?_
 refine vS [4] ?_
 refine vR ?_
 exact JX.ret1is rfl rfl (by exact absurd ht28 qD)
 try simp only [yd, yf] at ht28
 apply yK
 refine vN ?_
 apply yN
 refine Jm rfl (Jq (ZD (cc := ((i + 1 : Nat) : Int)) rfl rfl qM qM qM) ?_)
 refine Ja rfl ?_
 apply yI
 repeat refine JX.normal_block ?_
 refine JX.roundS (i + 1) ?_ ?_ [2, 3, 5] ?_ ?_ ?_
 · exact qM
 · exact qM
 · exact qS
 · exact qB
 · exact qB
 try simp only [yd, yf] at ht15
 repeat apply yQ
 refine J.exit ?_
 repeat first|refine yH ?_|refine yM rfl ?_|refine yE ?_
 refine vN ?_
 apply yN
 refine Ja rfl ?_
 refine vS [2, 3, 6] ?_
 apply yk
 repeat apply yQ
 refine J.loopF (α := Nat) (fun k => [(2, _), (3, _), (6, .is (.int .i64 (k : Nat)))]) (fun k => k ≤ ln) (fun k => ln - k) 0 [2, 3, 6] (.cons rfl (.cons rfl (.cons rfl .nil))) (Nat.zero_le _) fun i hi => ?_
 refine vQ ?_
 refine Jm rfl (Jq (Z0 Z1u rfl) ?_)
 refine Jq (Z1 Z2k rfl rfl) ?_
 refine Jq (Zn ZW rfl) ?_
 refine Jq (ZU rfl rfl) ?_
 refine vS [2, 3, 6, 33] ?_
 refine yC rfl (fun ht33 => ?_) (fun ht33 => ?_)
 try simp only [yd, yf] at ht33
 apply yK
 refine vN ?_
 apply yk
 have hbi : i < S0.names.length := by omega
 repeat apply yQ
 refine J.reg0 hmx qK qK ?_
 refine yz (Z0 Z1u rfl) ?_
 refine yz (Z1 Z2k rfl rfl) ?_
 refine yz (Z2 rfl) ?_
 refine yz (Z7 Z1x rfl (han qM) rfl qM qM) ?_
 refine yz (ZH (sz := 1) (i := i) (j := 0) (enc := @Cel.cs _ stE) (y := pn[i]) (u := .string (S0.names[i]'hbi)) Z8 rfl qI (han qM) (List.getElem?_eq_getElem (by omega : i < pn.length)) qM (by rw [Zbu pun hpn qM qM]; rfl)) ?_
 refine yz (Z0 Z1u rfl) ?_
 refine yz (Z1 Z2k rfl rfl) ?_
 refine yz (Z2 rfl) ?_
 refine yz (Z7 Z1x rfl (hanz qM) rfl qM qM) ?_
 refine yz (ZH (sz := 1) (i := i) (j := 0) (enc := @Cel.cs _ stE) (y := pnz[i]) (u := .string (S0.names[i]'hbi)) Z8 rfl qI (hanz qM) (List.getElem?_eq_getElem (by omega : i < pnz.length)) qM (by rw [Zbu punz hpnz qM qM]; rfl)) ?_
 refine yz (Z33 rfl rfl) ?_
 apply yn
 refine FinS.nil0 ?_
 refine vS [2, 3, 6, 46] ?_
 refine yC rfl (fun ht46 => ?_) (fun ht46 => ?_)
 try simp only [yd, yf] at ht46
 refine vQ ?_
 refine Ja rfl ?_
 refine vS [4] ?_
 refine vR ?_
 exact JX.ret1is rfl rfl (by exact absurd ht46 (by simp [seq]))
 try simp only [yd, yf] at ht46
 apply yK
 refine vN ?_
 apply yN
 refine Jm rfl (Jq (ZD (cc := ((i + 1 : Nat) : Int)) rfl rfl qM qM qM) ?_)
 refine Ja rfl ?_
 apply yI
 repeat refine JX.normal_block ?_
 refine JX.roundS (i + 1) ?_ ?_ [2, 3, 6] ?_ ?_ ?_
 · exact qM
 · exact qM
 · exact qS
 · exact qB
 · exact qB
 try simp only [yd, yf] at ht33
 repeat apply yQ
 refine J.exit ?_
 repeat first|refine yH ?_|refine yM rfl ?_|refine yE ?_
 refine vN ?_
 apply yN
 refine Ja rfl ?_
 refine vS [2, 3, 7] ?_
 apply yk
 repeat apply yQ
 refine J.loopF (α := Nat) (fun k => [(2, _), (3, _), (7, .is (.int .i64 (k : Nat)))]) (fun k => k ≤ lr) (fun k => lr - k) 0 [2, 3, 7] (.cons rfl (.cons rfl (.cons rfl .nil))) (Nat.zero_le _) fun i hi => ?_
 refine vQ ?_
 refine Jm rfl (Jq (Z0 Z1w rfl) ?_)
 refine Jq (Z1 Z1p rfl rfl) ?_
 refine Jq (Zn Z1t rfl) ?_
 refine Jq (ZU rfl rfl) ?_
 refine vS [2, 3, 7, 51] ?_
 refine yC rfl (fun ht51 => ?_) (fun ht51 => ?_)
 try simp only [yd, yf] at ht51
 apply yK
 refine vN ?_
 apply yk
 have hbi : i < S0.rows.length := by omega
 obtain ⟨ax, cx, hcx⟩ := Ze0 pur hpr (i := i) qM qM
 obtain ⟨axz, cxz, hcxz⟩ := Ze0 purz hprz (i := i) qM qM
 repeat apply yQ
 refine J.reg0 hmx qK qK ?_
 refine yz (Z0 Z1w rfl) ?_
 refine yz (Z1 Z1p rfl rfl) ?_
 refine yz (Z2 rfl) ?_
 refine yz (Z7 Z2n rfl (har qM) rfl qM qM) ?_
 refine yz (ZH (sz := 1) (i := i) (j := 0) (enc := @Cel.cs _ rwE) (y := pr[i]) (u := .slice ax (S0.rows[i]'hbi).length cx) Zh rfl qI (har qM) (List.getElem?_eq_getElem (by omega : i < pr.length)) qM (by rw [hcx]; rfl)) ?_
 refine yz (Zn Zj rfl) ?_
 refine yz (Z0 Z1w rfl) ?_
 refine yz (Z1 Z1p rfl rfl) ?_
 refine yz (Z2 rfl) ?_
 refine yz (Z7 Z2n rfl (harz qM) rfl qM qM) ?_
 refine yz (ZH (sz := 1) (i := i) (j := 0) (enc := @Cel.cs _ rwE) (y := prz[i]) (u := .slice axz (S0.rows[i]'hbi).length cxz) Zh rfl qI (harz qM) (List.getElem?_eq_getElem (by omega : i < prz.length)) qM (by rw [hcxz]; rfl)) ?_
 refine yz (Zn Zj rfl) ?_
 refine yz (Z24 rfl rfl) ?_
 apply yn
 refine FinS.nil0 ?_
 refine vS [2, 3, 7, 66] ?_
 refine yC rfl (fun ht66 => ?_) (fun ht66 => ?_)
 try simp only [yd, yf] at ht66
 refine vQ ?_
 refine Ja rfl ?_
 refine vS [4] ?_
 refine vR ?_
 exact JX.ret1is rfl rfl (by exact absurd ht66 (by simp))
 try simp only [yd, yf] at ht66
 apply yK
 refine vN ?_
 apply yN
 refine Jm rfl (Jq (ZD (cc := ((i + 1 : Nat) : Int)) rfl rfl qM qM qM) ?_)
 refine Ja rfl ?_
 apply yI
 repeat refine JX.normal_block ?_
 refine JX.roundS (i + 1) ?_ ?_ [2, 3, 7] ?_ ?_ ?_
 · exact qM
 · exact qM
 · exact qS
 · exact qB
 · exact qB
 try simp only [yd, yf] at ht51
 repeat apply yQ
 refine J.exit ?_
 repeat first|refine yH ?_|refine yM rfl ?_|refine yE ?_
 refine vN ?_
 apply yN
 refine Ja rfl ?_
 refine vS [2, 3, 8] ?_
 apply yk
 repeat apply yQ
 refine J.loopF (α := Nat) (fun k => [(2, _), (3, _), (8, .is (.int .i64 (k : Nat)))]) (fun k => k ≤ li) (fun k => li - k) 0 [2, 3, 8] (.cons rfl (.cons rfl (.cons rfl .nil))) (Nat.zero_le _) fun i hi => ?_
 refine vQ ?_
 refine Jm rfl (Jq (Z0 Z1T rfl) ?_)
 refine Jq (Z1 Z1Y rfl rfl) ?_
 refine Jq (Zn Z2e rfl) ?_
 refine Jq (ZU rfl rfl) ?_
 refine vS [2, 3, 8, 71] ?_
 refine yC rfl (fun ht71 => ?_) (fun ht71 => ?_)
 try simp only [yd, yf] at ht71
 apply yK
 refine vN ?_
 apply yk
 have hbi : i < S0.items.length := by omega
 repeat apply yQ
 refine J.reg0 hmx qK qK ?_
 refine yz (Z0 Z1T rfl) ?_
 refine yz (Z1 Z1Y rfl rfl) ?_
 refine yz (Z2 rfl) ?_
 refine yz (Z7 Z3J rfl (hai qM) rfl qM qM) ?_
 refine yz (Z0 Z6e rfl) ?_
 refine yz (ZH (sz := 9) (i := i) (j := 0) (enc := @Cel.cs _ itE) (y := pi[i]) (u := .bool (S0.items[i]'hbi).all) Z3h rfl qI (hai qM) (List.getElem?_eq_getElem (by omega : i < pi.length)) qM (Zeq pui hpi qM qM)) ?_
 refine yz (Z0 Z1T rfl) ?_
 refine yz (Z1 Z1Y rfl rfl) ?_
 refine yz (Z2 rfl) ?_
 refine yz (Z7 Z3J rfl (haiz qM) rfl qM qM) ?_
 refine yz (Z0 Z6e rfl) ?_
 refine yz (ZH (sz := 9) (i := i) (j := 0) (enc := @Cel.cs _ itE) (y := piz[i]) (u := .bool (S0.items[i]'hbi).all) Z3h rfl qI (haiz qM) (List.getElem?_eq_getElem (by omega : i < piz.length)) qM (Zeq puiz hpiz qM qM)) ?_
 refine yz (Zbe Zbn rfl rfl) ?_
 apply yn
 refine FinS.nil0 ?_
 refine vS [2, 3, 8, 86] ?_
 refine yC rfl (fun ht86 => ?_) (fun ht86 => ?_)
 try simp only [yd, yf] at ht86
 refine vQ ?_
 refine Ja rfl ?_
 refine vS [4] ?_
 refine vR ?_
 exact JX.ret1is rfl rfl (by exact absurd ht86 (by simp))
 try simp only [yd, yf] at ht86
 apply yK
 refine vN ?_
 apply yN
 refine Jm rfl (Jq (ZD (cc := ((i + 1 : Nat) : Int)) rfl rfl qM qM qM) ?_)
 refine Ja rfl ?_
 apply yI
 repeat refine JX.normal_block ?_
 refine JX.roundS (i + 1) ?_ ?_ [2, 3, 8] ?_ ?_ ?_
 · exact qM
 · exact qM
 · exact qS
 · exact qB
 · exact qB
 try simp only [yd, yf] at ht71
 repeat apply yQ
 refine J.exit ?_
 repeat first|refine yH ?_|refine yM rfl ?_|refine yE ?_
 refine vN ?_
 apply yN
 refine Ja rfl ?_
 refine vS [2, 3, 9] ?_
 apply yk
 repeat apply yQ
 refine J.loopF (α := Nat) (fun k => [(2, _), (3, _), (9, .is (.int .i64 (k : Nat)))]) (fun k => k ≤ lf) (fun k => lf - k) 0 [2, 3, 9] (.cons rfl (.cons rfl (.cons rfl .nil))) (Nat.zero_le _) fun i hi => ?_
 refine vQ ?_
 refine Jm rfl (Jq (Z0 ZY rfl) ?_)
 refine Jq (Z1 ZQ rfl rfl) ?_
 refine Jq (Zn Z1Q rfl) ?_
 refine Jq (ZU rfl rfl) ?_
 refine vS [2, 3, 9, 91] ?_
 refine yC rfl (fun ht91 => ?_) (fun ht91 => ?_)
 try simp only [yd, yf] at ht91
 apply yK
 refine vN ?_
 apply yk
 have hbi : i < S0.from_.length := by omega
 obtain ⟨ay, cy, hcy⟩ := ZbE puf hpf (i := i) qM qM
 obtain ⟨ayz, cyz, hcyz⟩ := ZbE pufz hpfz (i := i) qM qM
 repeat apply yQ
 refine J.reg0 hmx qK qK ?_
 refine yz (Z0 ZY rfl) ?_
 refine yz (Z1 ZQ rfl rfl) ?_
 refine yz (Z2 rfl) ?_
 refine yz (Z7 Z1H rfl (haf qM) rfl qM qM) ?_
 refine yz (Z0 Z2L rfl) ?_
 refine yz (ZH (sz := 3) (i := i) (j := 0) (enc := @Cel.cs _ srE) (y := pf[i]) (u := .string (S0.from_[i]'hbi).tb) Z8 rfl qI (haf qM) (List.getElem?_eq_getElem (by omega : i < pf.length)) qM (by rw [hcy]; rfl)) ?_
 refine yz (Z0 ZY rfl) ?_
 refine yz (Z1 ZQ rfl rfl) ?_
 refine yz (Z2 rfl) ?_
 refine yz (Z7 Z1H rfl (hafz qM) rfl qM qM) ?_
 refine yz (Z0 Z2L rfl) ?_
 refine yz (ZH (sz := 3) (i := i) (j := 0) (enc := @Cel.cs _ srE) (y := pfz[i]) (u := .string (S0.from_[i]'hbi).tb) Z8 rfl qI (hafz qM) (List.getElem?_eq_getElem (by omega : i < pfz.length)) qM (by rw [hcyz]; rfl)) ?_
 refine yz (Z33 rfl rfl) ?_
 refine yz (Z2 rfl) ?_
 refine yg rfl rfl rfl (fun hg => Z0 ZY (.inl rfl)) ?_
 refine yg rfl rfl rfl (fun hg => Z1 ZQ (qR rfl) rfl) ?_
 refine yg rfl rfl rfl (fun hg => Z2 (.inl rfl)) ?_
 refine yg rfl rfl rfl (fun hg => Z7 Z1H (qR rfl) (haf qM) (qR rfl) qM qM) ?_
 refine yg rfl rfl rfl (fun hg => Z0 Z2l (qR rfl)) ?_
 refine yg rfl rfl rfl (fun hg => ZH (sz := 3) (i := i) (j := 1) (enc := @Cel.cs _ srE) (y := pf[i]) (u := .string (S0.from_[i]'hbi).nm) Z8 (qR rfl) qI (haf qM) (List.getElem?_eq_getElem (by omega : i < pf.length)) qM (by rw [hcy]; rfl)) ?_
 refine yg rfl rfl rfl (fun hg => Z0 ZY (.inl rfl)) ?_
 refine yg rfl rfl rfl (fun hg => Z1 ZQ (qR rfl) rfl) ?_
 refine yg rfl rfl rfl (fun hg => Z2 (.inl rfl)) ?_
 refine yg rfl rfl rfl (fun hg => Z7 Z1H (qR rfl) (hafz qM) (qR rfl) qM qM) ?_
 refine yg rfl rfl rfl (fun hg => Z0 Z2l (qR rfl)) ?_
 refine yg rfl rfl rfl (fun hg => ZH (sz := 3) (i := i) (j := 1) (enc := @Cel.cs _ srE) (y := pfz[i]) (u := .string (S0.from_[i]'hbi).nm) Z8 (qR rfl) qI (hafz qM) (List.getElem?_eq_getElem (by omega : i < pfz.length)) qM (by rw [hcyz]; rfl)) ?_
 refine yg rfl rfl rfl (fun hg => Z33 (qR rfl) (qR rfl)) ?_
 refine yz (ZT rfl rfl rfl id) ?_
 refine yz (Z2 rfl) ?_
 refine yg rfl rfl rfl (fun hg => Z0 ZY (.inl rfl)) ?_
 refine yg rfl rfl rfl (fun hg => Z1 ZQ (qR rfl) rfl) ?_
 refine yg rfl rfl rfl (fun hg => Z2 (.inl rfl)) ?_
 refine yg rfl rfl rfl (fun hg => Z7 Z1H (qR rfl) (haf qM) (qR rfl) qM qM) ?_
 refine yg rfl rfl rfl (fun hg => Z0 Z1O (qR rfl)) ?_
 refine yg rfl rfl rfl (fun hg => ZH (sz := 3) (i := i) (j := 2) (enc := @Cel.cs _ srE) (y := pf[i]) (u := .slice ay (S0.from_[i]'hbi).on.length cy) Zh (qR rfl) qI (haf qM) (List.getElem?_eq_getElem (by omega : i < pf.length)) qM (by rw [hcy]; rfl)) ?_
 refine yg rfl rfl rfl (fun hg => Zn Zj (qR rfl)) ?_
 refine yg rfl rfl rfl (fun hg => Z0 ZY (.inl rfl)) ?_
 refine yg rfl rfl rfl (fun hg => Z1 ZQ (qR rfl) rfl) ?_
 refine yg rfl rfl rfl (fun hg => Z2 (.inl rfl)) ?_
 refine yg rfl rfl rfl (fun hg => Z7 Z1H (qR rfl) (hafz qM) (qR rfl) qM qM) ?_
 refine yg rfl rfl rfl (fun hg => Z0 Z1O (qR rfl)) ?_
 refine yg rfl rfl rfl (fun hg => ZH (sz := 3) (i := i) (j := 2) (enc := @Cel.cs _ srE) (y := pfz[i]) (u := .slice ayz (S0.from_[i]'hbi).on.length cyz) Zh (qR rfl) qI (hafz qM) (List.getElem?_eq_getElem (by omega : i < pfz.length)) qM (by rw [hcyz]; rfl)) ?_
 refine yg rfl rfl rfl (fun hg => Zn Zj (qR rfl)) ?_
 refine yg rfl rfl rfl (fun hg => Z24 (qR rfl) (qR rfl)) ?_
 refine yz (ZT rfl rfl rfl id) ?_
 apply yn
 refine FinS.nil0 ?_
 refine vS [2, 3, 9, 138] ?_
 refine yC rfl (fun ht138 => ?_) (fun ht138 => ?_)
 try simp only [yd, yf] at ht138
 refine vQ ?_
 refine Ja rfl ?_
 refine vS [4] ?_
 refine vR ?_
 exact JX.ret1is rfl rfl (by exact absurd ht138 (by simp [seq]))
 try simp only [yd, yf] at ht138
 apply yK
 refine vN ?_
 apply yN
 refine Jm rfl (Jq (ZD (cc := ((i + 1 : Nat) : Int)) rfl rfl qM qM qM) ?_)
 refine Ja rfl ?_
 apply yI
 repeat refine JX.normal_block ?_
 refine JX.roundS (i + 1) ?_ ?_ [2, 3, 9] ?_ ?_ ?_
 · exact qM
 · exact qM
 · exact qS
 · exact qB
 · exact qB
 try simp only [yd, yf] at ht91
 repeat apply yQ
 refine J.exit ?_
 repeat first|refine yH ?_|refine yM rfl ?_|refine yE ?_
 refine vN ?_
 apply yN
 refine Ja rfl ?_
 refine vS [2, 3, 10] ?_
 apply yk
 repeat apply yQ
 refine J.loopF (α := Nat) (fun k => [(2, _), (3, _), (10, .is (.int .i64 (k : Nat)))]) (fun k => k ≤ lo) (fun k => lo - k) 0 [2, 3, 10] (.cons rfl (.cons rfl (.cons rfl .nil))) (Nat.zero_le _) fun i hi => ?_
 refine vQ ?_
 refine Jm rfl (Jq (Z0 Z1q rfl) ?_)
 refine Jq (Z1 Z1U rfl rfl) ?_
 refine Jq (Zn Z26 rfl) ?_
 refine Jq (ZU rfl rfl) ?_
 refine vS [2, 3, 10, 143] ?_
 refine yC rfl (fun ht143 => ?_) (fun ht143 => ?_)
 try simp only [yd, yf] at ht143
 apply yK
 refine vN ?_
 apply yk
 have hbi : i < S0.order.length := by omega
 repeat apply yQ
 refine J.reg0 hmx qK qK ?_
 refine yz (Z0 Z1q rfl) ?_
 refine yz (Z1 Z1U rfl rfl) ?_
 refine yz (Z2 rfl) ?_
 refine yz (Z7 Z3X rfl (hao qM) rfl qM qM) ?_
 refine yz (Z0 Z5q rfl) ?_
 refine yz (ZH (sz := 9) (i := i) (j := 8) (enc := @Cel.cs _ kyE) (y := po[i]) (u := .bool (S0.order[i]'hbi).desc) Z3h rfl qI (hao qM) (List.getElem?_eq_getElem (by omega : i < po.length)) qM (ZdZ puo hpo qM qM)) ?_
 refine yz (Z0 Z1q rfl) ?_
 refine yz (Z1 Z1U rfl rfl) ?_
 refine yz (Z2 rfl) ?_
 refine yz (Z7 Z3X rfl (haoz qM) rfl qM qM) ?_
 refine yz (Z0 Z5q rfl) ?_
 refine yz (ZH (sz := 9) (i := i) (j := 8) (enc := @Cel.cs _ kyE) (y := poz[i]) (u := .bool (S0.order[i]'hbi).desc) Z3h rfl qI (haoz qM) (List.getElem?_eq_getElem (by omega : i < poz.length)) qM (ZdZ puoz hpoz qM qM)) ?_
 refine yz (Zbe Zbn rfl rfl) ?_
 apply yn
 refine FinS.nil0 ?_
 refine vS [2, 3, 10, 158] ?_
 refine yC rfl (fun ht158 => ?_) (fun ht158 => ?_)
 try simp only [yd, yf] at ht158
 refine vQ ?_
 refine Ja rfl ?_
 refine vS [4] ?_
 refine vR ?_
 exact JX.ret1is rfl rfl (by exact absurd ht158 (by simp))
 try simp only [yd, yf] at ht158
 apply yK
 refine vN ?_
 apply yN
 refine Jm rfl (Jq (ZD (cc := ((i + 1 : Nat) : Int)) rfl rfl qM qM qM) ?_)
 refine Ja rfl ?_
 apply yI
 repeat refine JX.normal_block ?_
 refine JX.roundS (i + 1) ?_ ?_ [2, 3, 10] ?_ ?_ ?_
 · exact qM
 · exact qM
 · exact qS
 · exact qB
 · exact qB
 try simp only [yd, yf] at ht143
 repeat apply yQ
 refine J.exit ?_
 repeat first|refine yH ?_|refine yM rfl ?_|refine yE ?_
 refine vN ?_
 apply yN
 refine Ja rfl ?_
 refine vS [4] ?_
 refine vR ?_
 exact JX.ret1is rfl rfl (rfl)
theorem Zio (p : Cel itE) (h : ∃ w, CelR p w) : ∃ q : Cel exE, p.cs = .bool p.x.all :: q.cs ∧ q.x = p.x.ex ∧ ∀ w, CelR p w → CelR q w := by
 obtain ⟨w, es, hes, hR⟩ := h
 obtain ⟨x, cs, h, o⟩ := p
 dsimp only at hes
 subst hes
 refine ⟨⟨x.ex, es, Z6M hR, fun u hu => o u (List.mem_cons_of_mem _ hu)⟩, rfl, rfl, fun w hw => ?_⟩
 obtain ⟨es', h1, h2⟩ := hw
 injection h1 with _ h1
 subst h1
 exact h2
theorem Ziy (p : Cel kyE) (h : ∃ w, CelR p w) : ∃ q : Cel exE, p.cs = q.cs ++ [.bool p.x.desc] ∧ q.x = p.x.ex ∧ ∀ w, CelR p w → CelR q w := by
 obtain ⟨w, es, hes, hR⟩ := h
 obtain ⟨x, cs, h, o⟩ := p
 dsimp only at hes
 subst hes
 refine ⟨⟨x.ex, es, Z6M hR, fun u hu => o u (List.mem_append_left _ hu)⟩, rfl, rfl, fun w hw => ?_⟩
 obtain ⟨es', h1, h2⟩ := hw
 have h3 : es = es' := (List.append_inj' h1 rfl).1
 subst h3
 exact h2
theorem CallF.arg {P : Program} {f : FuncId} {Fs : List (World → Prop)} {R1 R2 : Value → World → Prop} {T : Ty} (h : CallF P f Fs [.rep R1] T) (hR : ∀ v w, R2 v w → R1 v w) : CallF P f Fs [.rep R2] T :=
 ⟨h.enter, fun E w vs hw hΦ ht => h.calls E w vs hw hΦ (by
  cases vs with
  | nil => exact ht
  | cons v vs => exact ⟨fun w' hk => hR v w' (ht.1 w' hk), ht.2⟩)⟩
theorem ZhE {r : List Ex} (v : Value) (w : World) (h : rwE.T r v w) : ExsR r v w := by
 obtain ⟨cs, rfl, u, rfl, h⟩ := h
 exact h
theorem Sub.celX {L : List Own} {Φ : List (World → Prop)} {q : Cel exE} {x : Ex} (h : CelR q ∈ Φ) (hx : q.x = x) : Sub L Φ (.is (.agg q.cs.toArray)) (.rep (ExR x)) := fun X v w hf e => by
 rw [show v = _ from e]
 exact fun w' hk => by have := hf.2 _ h w' hk; rw [← hx]; exact this
theorem Zjd {t : Int} (h1 : 1 ≤ t) (h3 : t ≤ 3) : ([.string ⟨#[32, 73, 78, 84]⟩, .string ⟨#[32, 66, 79, 79, 76]⟩, .string ⟨#[32, 84, 69, 88, 84]⟩] : List Value).toArray[(t - 1).toNat]? = some (.string (bl (32 :: tx (typW t)))) := by
 have : t = 1 ∨ t = 2 ∨ t = 3 := by omega
 rcases this with rfl|rfl|rfl <;> rfl
theorem Zj5 (t : Int) : (tx (typW t)).length ≤ 4 := by
 unfold typW
 repeat' split
 all_goals decide
theorem Zfz {l : List Ex} (h : ∀ x ∈ l, GE x) : ∀ x ∈ l, (prE x).length ≤ 400000000000 := fun x hx => by have := (h x hx).len; omega
theorem ZaI {t : Int} (h1 : 1 ≤ t) (h3 : t ≤ 3) : txTy t = 32 :: tx (typW t) := by unfold txTy; rw [if_pos (by simp only [Bool.and_eq_true, decide_eq_true_eq]; exact ⟨h1, h3⟩)]
theorem Zbl (c : Col) (hw : wfCol nmOk c) : CallF Tryz.prog Z88 [GF, TF] [.rep (coE.T c)] (.is (.string (bl (txC c)))) :=
CallF.of (fn := Tryz.f43) Tryz.func43 (n := 30) rfl rfl rfl (fun _ _ => by kernel_rfl) fun E W => by
 obtain ⟨n, t, nn, un⟩ := c
 obtain ⟨hn0, h1t, h3t⟩ := (show nmOk n ∧ 1 ≤ t ∧ t ≤ 3 from hw)
 have hnl := Z1F hn0
 have hnl2 : n.data.toList.length ≤ 2048 := hnl
 have htl := Zj5 t
 refine J.openT (s := 0) rfl (fun p hp => ?_)
 refine J.pureF (F := CelR p) qI (fun pu => ?_)
 have hcs : p.cs = [.string n, .int .i64 t, .bool nn, .bool un] := by obtain ⟨w, hw⟩ := pu; have h9 : p.cs = p.x.cells := hw; rw [h9, hp]; rfl
 rw [show coE.v p.cs = .agg p.cs.toArray from rfl, hcs]
 refine vQ ?_
 refine JO.box rfl rfl fun b1 => ?_
 refine Ja rfl ?_
 refine vP [1] ?_
 refine Jq (Z0 ZaQ rfl) ?_
 refine Jq (Z1 Z8 rfl rfl) ?_
 refine Ja rfl ?_
 refine vS [1, 3] ?_
 refine J.reg0 hmx qK qK ?_
 refine yz (Z0 Z2f rfl) ?_
 refine yz (Z1 Zt rfl rfl) ?_
 refine yz (Z8i rfl rfl) ?_
 refine yz (Z2 rfl) ?_
 refine yg rfl rfl rfl (fun hg => Z0 Z2f (.inl rfl)) ?_
 refine yg rfl rfl rfl (fun hg => Z1 Zt (qR rfl) rfl) ?_
 refine yg rfl rfl rfl (fun hg => Z3Y (qR rfl) (.inl rfl)) ?_
 refine yz (ZP rfl rfl rfl id) ?_
 apply yn
 refine FinS.nil0 ?_
 refine vS [1, 3, 13] ?_
 refine yC rfl (fun ht13 => ?_) (fun ht13 => ?_)
 try simp only [yd, yf] at ht13
 refine vQ ?_
 refine Jm rfl (Jq (Zz (cs := [_, _, _]) ZdJ (.cons rfl (.cons rfl (.cons rfl .nil))) rfl rfl) ?_)
 refine Jq (Z0 Z2f rfl) ?_
 refine Jq (Z1 Zt rfl rfl) ?_
 refine Jq (Z9F (v := t - 1) rfl rfl (Z1r qM qM)) ?_
 refine Jq (Z5T (n := 3) (e := 9) qK Z8 qK rfl rfl qM qM (Zjd h1t h3t)) ?_
 refine Jq (Zd rfl rfl (sz2 qZ qZ) (Zv (tx n) _)) ?_
 refine Ja rfl ?_
 refine vP [1, 3] ?_
 refine Jq (Z0 Z48 rfl) ?_
 refine Jq (Z1 Z3h rfl rfl) ?_
 refine vS [1, 3, 22] ?_
 refine yC rfl (fun ht22 => ?_) (fun ht22 => ?_)
 try simp only [yd, yf] at ht22
 refine vQ ?_
 refine Jm rfl (Jq (Zd rfl rfl (sz2 qZ qZ) (Zv _ [32, 78, 79, 84, 32, 78, 85, 76, 76])) ?_)
 refine Ja rfl ?_
 refine vP [1, 3] ?_
 refine Jq (Z0 Z2J rfl) ?_
 refine Jq (Z1 Z3h rfl rfl) ?_
 refine vS [3, 26] ?_
 refine yC rfl (fun ht26 => ?_) (fun ht26 => ?_)
 try simp only [yd, yf] at ht26
 refine vQ ?_
 refine Jm rfl (Jq (Zd rfl rfl (sz2 qZ qZ) (Zv _ [32, 85, 78, 73, 81, 85, 69])) ?_)
 refine Ja rfl ?_
 refine vP [3] ?_
 refine Jm rfl (Ja rfl ?_)
 refine vS [2] ?_
 refine vR ?_
 exact JX.ret1is rfl rfl (by unfold txC; dsimp only; rw [ZaI h1t h3t, ht22, ht26]; simp)
 try simp only [yd, yf] at ht26
 apply yK
 refine vN ?_
 apply yN
 refine Jm rfl (Ja rfl ?_)
 refine vS [2] ?_
 refine vR ?_
 exact JX.ret1is rfl rfl (by unfold txC; dsimp only; rw [ZaI h1t h3t, ht22, ht26]; simp)
 try simp only [yd, yf] at ht22
 apply yK
 refine vN ?_
 apply yN
 refine Jq (Z0 Z2J rfl) ?_
 refine Jq (Z1 Z3h rfl rfl) ?_
 refine vS [3, 26] ?_
 refine yC rfl (fun ht26 => ?_) (fun ht26 => ?_)
 try simp only [yd, yf] at ht26
 refine vQ ?_
 refine Jm rfl (Jq (Zd rfl rfl (sz2 qZ qZ) (Zv _ [32, 85, 78, 73, 81, 85, 69])) ?_)
 refine Ja rfl ?_
 refine vP [3] ?_
 refine Jm rfl (Ja rfl ?_)
 refine vS [2] ?_
 refine vR ?_
 exact JX.ret1is rfl rfl (by unfold txC; dsimp only; rw [ZaI h1t h3t, ht22, ht26]; simp)
 try simp only [yd, yf] at ht26
 apply yK
 refine vN ?_
 apply yN
 refine Jm rfl (Ja rfl ?_)
 refine vS [2] ?_
 refine vR ?_
 exact JX.ret1is rfl rfl (by unfold txC; dsimp only; rw [ZaI h1t h3t, ht22, ht26]; simp)
 try simp only [yd, yf] at ht13
 exfalso
 simp at ht13; omega
theorem ZcT (i : Itm) (hw : i.all = true ∨ (i.all = false ∧ GE i.ex)) : CallF Tryz.prog Z98 [GF, TF] [.rep (itE.T i)] (.is (.string (bl (txItm i)))) :=
CallF.of (fn := Tryz.f87) Tryz.func87 (n := 8) rfl rfl rfl (fun _ _ => by kernel_rfl) fun E W => by
 refine J.openT (s := 0) rfl (fun p hp => ?_)
 refine J.pureF (F := CelR p) qI (fun pu => ?_)
 subst hp
 obtain ⟨q, hq1, hq2, hq3⟩ := Zio p pu
 refine J.fact (CelR q) (fun X w hF _ w' hk => hq3 w' (hF (CelR p) qI w' hk)) ?_
 rw [show itE.v p.cs = .agg p.cs.toArray from rfl, hq1]
 refine vQ ?_
 refine JO.box rfl rfl fun b1 => ?_
 refine Ja rfl ?_
 refine vP [1] ?_
 refine Jq (Z0 Z6e rfl) ?_
 refine Jq (Z1 Z3h rfl rfl) ?_
 refine vS [1, 4] ?_
 refine yC rfl (fun ht4 => ?_) (fun ht4 => ?_)
 try simp only [yd, yf] at ht4
 refine vQ ?_
 refine Ja rfl ?_
 refine vS [2] ?_
 refine vR ?_
 exact JX.ret1is rfl rfl (by unfold txItm; rw [if_pos ht4])
 try simp only [yd, yf] at ht4
 apply yK
 refine vN ?_
 apply yN
 refine Jq (Z0 Z6b rfl) ?_
 refine Jq (ZF (cs := q.cs) Z9 rfl (by show (((Value.bool p.x.all :: q.cs).toArray.toList).drop 1).take 8 = _; rw [List.toList_toArray, List.drop_one, List.tail_cons, List.take_of_length_le (by rw [q.h]; exact Nat.le_refl _)]) q.h) ?_
 refine Jq (ZC rfl (c_PE (x := p.x.ex) ((hw.resolve_left (by rw [ht4]; decide)).2).1 ((hw.resolve_left (by rw [ht4]; decide)).2).2) qF (.sub rfl (Sub.celX qI hq2) .nil)) ?_
 refine Ja rfl ?_
 refine vS [2] ?_
 refine vR ?_
 exact JX.ret1is rfl rfl (by unfold txItm; rw [if_neg (by rw [ht4]; decide)])
theorem ZdS (i : Ky) (hw : GE i.ex) : CallF Tryz.prog Zah [GF, TF] [.rep (kyE.T i)] (.is (.string (bl (txKy i)))) :=
CallF.of (fn := Tryz.f89) Tryz.func89 (n := 12) rfl rfl rfl (fun _ _ => by kernel_rfl) fun E W => by
 refine J.openT (s := 0) rfl (fun p hp => ?_)
 refine J.pureF (F := CelR p) qI (fun pu => ?_)
 subst hp
 obtain ⟨q, hq1, hq2, hq3⟩ := Ziy p pu
 refine J.fact (CelR q) (fun X w hF _ w' hk => hq3 w' (hF (CelR p) qI w' hk)) ?_
 rw [show kyE.v p.cs = .agg p.cs.toArray from rfl, hq1]
 have hpl := hw.len
 refine vQ ?_
 refine JO.box rfl rfl fun b1 => ?_
 refine Ja rfl ?_
 refine vP [1] ?_
 refine Jq (Z0 Z5q rfl) ?_
 refine Jq (Z1 (V := Value.agg (q.cs ++ [Value.bool p.x.desc]).toArray) (v := Value.bool p.x.desc) Z3h rfl (by show nth (q.cs ++ [Value.bool p.x.desc]) (0 + 8) = _; rw [Zdn, List.getElem?_append_right (by rw [q.h]; exact Nat.le_refl _), q.h]; rfl)) ?_
 refine vS [1, 4] ?_
 refine yC rfl (fun ht4 => ?_) (fun ht4 => ?_)
 try simp only [yd, yf] at ht4
 refine vQ ?_
 refine Jq (Z0 Z5j rfl) ?_
 refine Jq (ZF (cs := q.cs) Z9 rfl (by show (((q.cs ++ [Value.bool p.x.desc]).toArray.toList).drop 0).take 8 = _; rw [List.toList_toArray, List.drop_zero]; exact List.take_left' q.h) q.h) ?_
 refine Jq (ZC rfl (c_PE (x := p.x.ex) (hw).1 (hw).2) qF (.sub rfl (Sub.celX qI hq2) .nil)) ?_
 refine Jq (Zd rfl rfl (sz2 qZ qZ) (Zv _ [32, 68, 69, 83, 67])) ?_
 refine Ja rfl ?_
 refine vS [2] ?_
 refine vR ?_
 exact JX.ret1is rfl rfl (by unfold txKy; rw [if_pos ht4])
 try simp only [yd, yf] at ht4
 apply yK
 refine vN ?_
 apply yN
 refine Jq (Z0 Z5j rfl) ?_
 refine Jq (ZF (cs := q.cs) Z9 rfl (by show (((q.cs ++ [Value.bool p.x.desc]).toArray.toList).drop 0).take 8 = _; rw [List.toList_toArray, List.drop_zero]; exact List.take_left' q.h) q.h) ?_
 refine Jq (ZC rfl (c_PE (x := p.x.ex) (hw).1 (hw).2) qF (.sub rfl (Sub.celX qI hq2) .nil)) ?_
 refine Ja rfl ?_
 refine vS [2] ?_
 refine vR ?_
 exact JX.ret1is rfl rfl (by unfold txKy; rw [if_neg (by rw [ht4]; decide), List.append_nil])
theorem Z6E (r : List Ex) (hn : r.length ≤ 64) (hw : ∀ x ∈ r, GE x) : CallF Tryz.prog Z4M [GF, TF] [.rep (ExsR r)] (.is (.string (bl (txR r)))) :=
CallF.of (fn := Tryz.f84) Tryz.func84 (n := 7) rfl rfl rfl (fun _ _ => by kernel_rfl) fun E W => by
 have hj := jl (p := prE) hn fun x hx => (hw x hx).len
 refine vQ ?_
 refine Ja rfl ?_
 refine vP [0] ?_
 refine Jm rfl (Jq (ZC rfl (Z4W r prE Z4f (fun x hx => c_PE (hw x hx).1 (hw x hx).2) hn (Zfz hw)) qF qA) ?_)
 refine Jq (Zd rfl rfl (sz2 qZ qZ) (Zv [40] _)) ?_
 refine Jq (Zd rfl rfl (sz2 qZ qZ) (Zv _ [41])) ?_
 refine Ja rfl ?_
 refine vS [2] ?_
 refine vR ?_
 exact JX.ret1is rfl rfl (rfl)
theorem Z2d (w : List UInt8) (hwl : w.length ≤ 10) (xs : List Ex) (hn : xs.length ≤ 64) (hw : ∀ x ∈ xs, GE x) : CallF Tryz.prog Zbm [GF, TF] [.is (.string (bl (32 :: (w ++ [32])))), .rep (ExsR xs)] (.is (.string (bl (txCl w xs)))) :=
CallF.of (fn := Tryz.f47) Tryz.func47 (n := 12) rfl rfl rfl (fun _ _ => by kernel_rfl) fun E W => by
 have hj := jl (p := prE) hn fun x hx => (hw x hx).len
 refine J.openExs (s := 1) rfl (fun a len cap b o hlen ha => ?_)
 subst hlen
 refine vQ ?_
 refine Ja rfl ?_
 refine vP [0, 1] ?_
 refine Jm rfl (Jq (Zn Zj rfl) ?_)
 refine Jq (ZK rfl rfl) ?_
 refine vS [0, 1, 7] ?_
 refine yC rfl (fun ht7 => ?_) (fun ht7 => ?_)
 try simp only [yd, yf] at ht7
 refine vQ ?_
 refine Ja rfl ?_
 refine vS [4] ?_
 refine vR ?_
 exact JX.ret1is rfl rfl (by have h0 : xs = [] := (by cases xs with
  | nil => rfl
  | cons y l => simp at ht7; omega); subst h0; rfl)
 try simp only [yd, yf] at ht7
 apply yK
 refine vN ?_
 apply yN
 refine Jm rfl (Jm rfl (Jq (ZC rfl (Z4W xs prE Z4f (fun x hx => c_PE (hw x hx).1 (hw x hx).2) hn (Zfz hw)) qF (.sub rfl (Sub.exsK qI) qA)) ?_))
 refine Jq (Zd rfl rfl (sz2 qZ qZ) (Zv _ _)) ?_
 refine Ja rfl ?_
 refine vS [4] ?_
 refine vR ?_
 exact JX.ret1is rfl rfl (by unfold txCl; rw [if_neg (fun h9 => by rw [List.isEmpty_iff.1 h9] at ht7; simp at ht7)]; simp)
end Go.Proofs.YtbedigkncjbggaaGreatDoor
