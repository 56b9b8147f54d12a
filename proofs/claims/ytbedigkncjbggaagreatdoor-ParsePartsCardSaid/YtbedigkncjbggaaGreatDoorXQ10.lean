/- Is a statement too deep. No condition. -/
import Derived.Test.YtbedigkncjbggaaGreatDoorXQ9
set_option maxRecDepth 20000
namespace Go.Proofs.YtbedigkncjbggaaGreatDoor
open Go Go.Vc
open Go.Pz
theorem Z3a {α : Type} {xs : List α} {i : Nat} (h : i < xs.length) : xs.take (i + 1) = xs.take i ++ [xs[i]] := by simp
theorem Za4 {a b c d : Value} {k : Nat} (h : k < 4) : (dvs a b c d)[k]? = some ((dvs a b c d).getD k undef) := by
 rw [List.getD_eq_getElem?_getD, List.getElem?_eq_getElem (by exact h)]; rfl
theorem Zc7 (N b : Nat) (S0 : Pz.St) (vc vn vr vi vf vw vg vo vs : Value) (hsm : SmS S0) (hec : ∀ x ∈ exsOf S0, ect x ≤ 4096) : CallL Tryz.prog ZbR [⟨b, Zw, .is (stV S0 vc vn vr vi vf vw vg vo vs)⟩] [SlE rwE noS S0.rows vr, SlE itE noS S0.items vi, SlE srE noS S0.from_ vf, SlE exE (FX N) S0.where_ vw, ExsR S0.group vg, SlE kyE noS S0.order vo, ExsR S0.sets vs] [.is (.pointer (some ⟨b, 0, none⟩))] (fun _ : Unit => True) (fun _ => [⟨b, Zw, .is (stV S0 vc vn vr vi vf vw vg vo vs)⟩]) (fun _ => .is (.bool (deepS S0))) :=
CallL.of (fn := Tryz.f29) Tryz.func29 (n := 103) rfl rfl rfl (fun _ _ => by kernel_rfl) fun E W hb0 => by
  have hsm0 := hsm
  obtain ⟨hb1, hb2, hb3, hb4, hb5, hb6, hb7, hb8, hb9, hb10, hb11⟩ := hsm
  refine J.shapeE (xs := S0.rows) (v := vr) (by repeat first | exact Mh | apply Mt) (fun pr ar lr cr br or_ hpr hvr hlr har => ?_)
  refine J.shapeE (xs := S0.items) (v := vi) (by repeat first | exact Mh | apply Mt) (fun pi ai li ci bi oi hpi hvi hli hai => ?_)
  refine J.shapeE (xs := S0.from_) (v := vf) (by repeat first | exact Mh | apply Mt) (fun pf af lf cf bf of_ hpf hvf hlf haf => ?_)
  refine J.shapeE (xs := S0.order) (v := vo) (by repeat first | exact Mh | apply Mt) (fun po ao lo co bo oo hpo hvo hlo hao => ?_)
  refine J.fact (ExsR S0.where_ vw) (fun X w hF _ w' hk => SlE.exs (hF (SlE exE (FX N) S0.where_ vw) (by repeat first | exact Mh | apply Mt) w' hk)) ?_
  refine J.shapeK (xs := S0.where_) (v := vw) (by repeat first | exact Mh | apply Mt) (fun aw lw cw bw ow hvw hlw haw => ?_)
  refine J.shapeK (xs := S0.group) (v := vg) (by repeat first | exact Mh | apply Mt) (fun ag lg cg bg og hvg hlg hag => ?_)
  refine J.shapeK (xs := S0.sets) (v := vs) (by repeat first | exact Mh | apply Mt) (fun ax lx cx bx ox hvx hlx hax => ?_)
  subst hvr hvi hvf hvo hvw hvg hvx
  have nr : pr.length = S0.rows.length := by rw [← hpr, List.length_map]
  have ni : pi.length = S0.items.length := by rw [← hpi, List.length_map]
  have nf : pf.length = S0.from_.length := by rw [← hpf, List.length_map]
  have no : po.length = S0.order.length := by rw [← hpo, List.length_map]
  repeat apply Sq
  apply Pn
  refine Jt (Z2 rfl) rfl ?_
  apply Ni
  repeat first | apply Nx | apply Nb
  refine Sl [0] (.cons rfl .nil) ?_
  repeat apply Sq
  apply Pn
  refine Jt (Z2 rfl) rfl ?_
  apply Ni
  repeat first | apply Nx | apply Nb
  refine Sl [0, 3] (.cons rfl (.cons rfl .nil)) ?_
  repeat apply Sq
  apply Pn
  refine Jt (Z0 rfl) rfl ?_
  refine Jt (Z5 rfl) rfl ?_
  refine Jt (Z1 Z1D rfl) rfl ?_
  refine Jt (Z4 Z1v rfl rfl) rfl ?_
  refine Jt (Zq Z1x rfl) rfl ?_
  refine Jt (Z0 rfl) rfl ?_
  apply Ni
  repeat first | apply Nx | apply Nb
  refine Sl [0, 3, 19, 20, 21] (.cons rfl (.cons rfl (.cons rfl (.cons rfl (.cons rfl .nil))))) ?_
  repeat apply Sq
  apply Bk
  repeat apply Sq
  refine J.loopH (α := List (Cel exE) × Option (Nat × List Value) × Nat × Nat) (fun z => [(0, .is (.pointer (some ⟨b, 0, none⟩))), (3, .is (sliceO z.2.1 z.1.length z.2.2.1)), (19, .is (.slice ar lr cr)), (20, .is (.int .i64 (lr : Nat))), (21, .is (.int .i64 (z.2.2.2 : Nat)))]) (fun z => ownO z.2.1 Z6 [⟨b, Zw, .is (stV S0 vc vn (.slice ar lr cr) (.slice ai li ci) (.slice af lf cf) (.slice aw lw cw) (.slice ag lg cg) (.slice ao lo co) (.slice ax lx cx))⟩]) (fun z => CelF exE z.1) (fun z => z.2.2.2 ≤ pr.length ∧ Grows Cel.cs 8 z.1 z.2.1 z.2.2.1 ∧ z.1.map Cel.x = ((pr.take z.2.2.2).map Cel.x).flatten ∧ z.1.length ≤ 16 * z.2.2.2) (fun z => pr.length - z.2.2.2) ([], none, 0, 0) [0, 3, 19, 20, 21] (.cons rfl (.cons rfl (.cons rfl (.cons rfl (.cons rfl .nil))))) rfl (fun X w hF => fun w' hk => CelF.nil w') ⟨Nat.zero_le _, rfl, rfl, Nat.zero_le _⟩ fun ⟨qpr, stpr, cappr, i⟩ ⟨hi, hGpr, hmpr, hlpr⟩ => ?_
  try dsimp only
  try dsimp only at stpr
  try dsimp only at cappr
  try dsimp only at i
  try dsimp only at hi
  try dsimp only at hGpr
  try dsimp only at hmpr
  try dsimp only at hlpr
  repeat apply Sq
  apply Pn
  refine Jt (Z1h rfl rfl) rfl ?_
  apply Ni
  repeat first | apply Nx | apply Nb
  refine Sl [0, 3, 19, 20, 21, 22] (.cons rfl (.cons rfl (.cons rfl (.cons rfl (.cons rfl (.cons rfl .nil)))))) ?_
  repeat apply Sq
  refine Cd rfl (fun ht22 => ?_) (fun ht22 => ?_)
  ·
    try simp only [dT, dF] at ht22
    apply Sk
    repeat first | apply Nx | apply Nb
    repeat apply Sq
    apply Bk
    refine J.fact (ExsR pr[i].x (hdv pr[i].cs)) (fun X w hF _ w' hk => Zdw (List.getElem_mem _) (hF (CelF rwE pr) (by repeat first | exact Mh | apply Mt) w' hk)) ?_
    refine J.shapeX (xs := pr[i].x) (v := hdv pr[i].cs) (by repeat first | exact Mh | apply Mt) (fun ps a2 l2 cap0 b2 o2 hps hv2 hl2 ha2 => ?_)
    have hln : ps.length ≤ 16 := by rw [← List.length_map (f := Cel.x), hps]; exact hb2 _ (by rw [← hpr]; exact List.mem_map_of_mem (List.getElem_mem _))
    repeat apply Sq
    apply Pn
    refine Jt (Za Z2q rfl (har (by omega)) rfl (by omega) (by omega)) rfl ?_
    refine Jt (ZI (sz := 1) (j := 0) (enc := Cel.cs) (u := hdv pr[i].cs) Zt rfl (by repeat first | exact Mh | apply Mt) (har (by omega)) (List.getElem?_eq_getElem (by omega : i < pr.length)) (by omega) (by rw [Zh1]; rfl)) rfl ?_
    refine Jt (Z2 rfl) rfl ?_
    apply Ni
    repeat first | apply Nx | apply Nb
    refine Sl [0, 3, 5, 19, 20, 21] (.cons rfl (.cons rfl (.cons rfl (.cons rfl (.cons rfl (.cons rfl .nil)))))) ?_
    rw [hv2]
    repeat apply Sq
    apply Pn
    refine Jt (Z0 rfl) rfl ?_
    refine Jt (Z0 rfl) rfl ?_
    refine JO.apA (ps) Z1c Cel.hlen .here hGpr rfl rfl (fun L => Z4Y (a := a2) (len := l2) (cap := cap0) Cel.hlen (by decide) (fun p => p.o) Zn (by repeat first | exact Mh | apply Mt)) (by have := hlpr; (try dsimp only at this); omega) (by have := hlpr; (try dsimp only at this); omega) rfl (fun st2 cap2 hG2 => ?_)
    refine Jt (Z2 rfl) rfl ?_
    apply Ni
    repeat first | apply Nx | apply Nb
    refine Sl [0, 3, 19, 20, 21] (.cons rfl (.cons rfl (.cons rfl (.cons rfl (.cons rfl .nil))))) ?_
    repeat apply Sq
    apply Pn
    refine Jt (ZB (cc := ((i + 1 : Nat) : Int)) rfl rfl (by omega) (by omega) (by omega)) rfl ?_
    refine Jt (Z0 rfl) rfl ?_
    apply Ni
    repeat refine JX.normal_block ?_
    refine JX.roundG (x := (qpr, stpr, cappr, i)) (qpr ++ ps, st2, cap2, i + 1) ?_ ?_ [0, 3, 19, 20, 21] ?_ ?_ ?_ ?_
    · exact ⟨(by show i + 1 ≤ _; omega), hG2, (by show (qpr ++ ps).map Cel.x = _; rw [List.map_append, hmpr, Z3a (by omega)]; simp only [List.map_append, List.map_cons, List.map_nil, List.flatten_append, List.flatten_cons, List.flatten_nil, List.append_nil, List.append_assoc, hps]), (by show (qpr ++ ps).length ≤ _; rw [List.length_append]; have := hlpr; have := hln; (try dsimp only at *); omega)⟩
    · exact (by show pr.length - (i + 1) < pr.length - i; omega)
    · exact (.cons rfl (.cons rfl (.cons rfl (.cons rfl (.cons rfl .nil)))))
    · repeat (first | exact .all | exact .nil | refine Has.own (by repeat first | exact .here | apply Tl.past | apply Tl.there) ?_ | refine Has.cons (by repeat (first | exact .here | apply Pk.past | apply Pk.there)) ?_)
    · exact fun G hG => by repeat (first | exact hG | refine List.mem_cons_of_mem _ ?_)
    · exact fun X w hF => fun w' hk p hp => (List.mem_append.1 hp).elim (fun hp => hF (CelF exE qpr) (by repeat first | exact Mh | apply Mt) w' hk p hp) (fun hp => hF (CelF exE ps) (by repeat first | exact Mh | apply Mt) w' hk p hp)
  ·
    try simp only [dT, dF] at ht22
    repeat apply Sq
    refine J.exit ?_
    repeat first | refine Ht ?_ | refine Ms rfl ?_ | refine Ep ?_
    repeat first | apply Nx | apply Nb
    have hi2 : i = pr.length := by omega
    subst hi2
    rw [List.take_length] at hmpr
    rw [hpr] at hmpr
    repeat apply Sq
    apply Pn
    refine Jt (Z0 rfl) rfl ?_
    refine Jt (Z5 rfl) rfl ?_
    refine Jt (Z1 Z1q rfl) rfl ?_
    refine Jt (Z4 Z1u rfl rfl) rfl ?_
    refine Jt (Zq Z1T rfl) rfl ?_
    refine Jt (Z0 rfl) rfl ?_
    apply Ni
    repeat first | apply Nx | apply Nb
    refine Sl [0, 3, 32, 33, 34] (.cons rfl (.cons rfl (.cons rfl (.cons rfl (.cons rfl .nil))))) ?_
    repeat apply Sq
    apply Bk
    repeat apply Sq
    refine J.loopH (α := List (Cel exE) × Option (Nat × List Value) × Nat × Nat) (fun z => [(0, .is (.pointer (some ⟨b, 0, none⟩))), (3, .is (sliceO z.2.1 z.1.length z.2.2.1)), (32, .is (.slice ai li ci)), (33, .is (.int .i64 (li : Nat))), (34, .is (.int .i64 (z.2.2.2 : Nat)))]) (fun z => ownO z.2.1 Z6 [⟨b, Zw, .is (stV S0 vc vn (.slice ar lr cr) (.slice ai li ci) (.slice af lf cf) (.slice aw lw cw) (.slice ag lg cg) (.slice ao lo co) (.slice ax lx cx))⟩]) (fun z => CelF exE z.1) (fun z => z.2.2.2 ≤ pi.length ∧ Grows Cel.cs 8 z.1 z.2.1 z.2.2.1 ∧ z.1.map Cel.x = S0.rows.flatten ++ (pi.take z.2.2.2).map (·.x.ex) ∧ z.1.length ≤ 512 + z.2.2.2) (fun z => pi.length - z.2.2.2) (qpr, stpr, cappr, 0) [0, 3, 32, 33, 34] (.cons rfl (.cons rfl (.cons rfl (.cons rfl (.cons rfl .nil))))) rfl (fun X w hF => hF _ (by repeat first | exact Mh | apply Mt)) ⟨Nat.zero_le _, hGpr, (by rw [hmpr]; simp), (by show qpr.length ≤ 512 + 0; have := hlpr; (try dsimp only at this); omega)⟩ fun ⟨qpi, stpi, cappi, i⟩ ⟨hi, hGpi, hmpi, hlpi⟩ => ?_
    try dsimp only
    try dsimp only at stpi
    try dsimp only at cappi
    try dsimp only at i
    try dsimp only at hi
    try dsimp only at hGpi
    try dsimp only at hmpi
    try dsimp only at hlpi
    repeat apply Sq
    apply Pn
    refine Jt (Z1h rfl rfl) rfl ?_
    apply Ni
    repeat first | apply Nx | apply Nb
    refine Sl [0, 3, 32, 33, 34, 35] (.cons rfl (.cons rfl (.cons rfl (.cons rfl (.cons rfl (.cons rfl .nil)))))) ?_
    repeat apply Sq
    refine Cd rfl (fun ht35 => ?_) (fun ht35 => ?_)
    ·
      try simp only [dT, dF] at ht35
      apply Sk
      repeat first | apply Nx | apply Nb
      repeat apply Sq
      apply Bk
      obtain ⟨u1, q1, hq1, hq2, hq3⟩ := Zf5 pi[i]
      obtain ⟨c1, c2, c3, c4, c5, c6, c7, c8, hcs⟩ := cs8 q1
      rw [hcs] at hq1
      refine J.fact (CelR q1) (fun X w hF _ w' hk => hq3 pi w' (List.getElem_mem _) (hF (CelF itE pi) (by repeat first | exact Mh | apply Mt) w' hk)) ?_
      repeat apply Sq
      apply Pn
      refine Jt (Za Z2X rfl (hai (by omega)) rfl (by omega) (by omega)) rfl ?_
      refine Jt (Z3A (sz := 9) (enc := Cel.cs) (cs := [u1, c1, c2, c3, c4, c5, c6, c7, c8]) Z6O rfl (by repeat first | exact Mh | apply Mt) (hai (by omega)) (List.getElem?_eq_getElem (by omega : i < pi.length)) (by omega) hq1) rfl ?_
      refine JO.alloc Z96 rfl fun b7 => ?_
      refine JO.m (Z3 rfl rfl (by repeat first | exact .here | apply Ut) (by exact Z19 rfl rfl) (by exact Z19 rfl (List.all_eq_true.2 (by have := pi[i].o; rw [hq1] at this; exact this))) Z6F) (by rfl) ?_
      apply Ni
      repeat first | apply Nx | apply Nb
      refine Sl [0, 3, 7, 32, 33, 34] (.cons rfl (.cons rfl (.cons rfl (.cons rfl (.cons rfl (.cons rfl .nil)))))) ?_
      repeat apply Sq
      apply Pn
      refine Jt (Z0 rfl) rfl ?_
      refine Jt (Z1 Z7Q rfl) rfl ?_
      refine Jt (ZG (cs := [_, _, _, _, _, _, _, _]) Ze rfl rfl rfl) rfl ?_
      refine Jt (Z2h (p := q1) Z47 ZL rfl (by decide) (by rw [show exE.v q1.cs = .agg #[c1, c2, c3, c4, c5, c6, c7, c8] by rw [hcs]; rfl]; exact rfl)) rfl ?_
      refine JO.apA ([q1]) Z1c Cel.hlen (.there .here) hGpi rfl rfl (srcE q1 Zn) (by have := hlpi; (try dsimp only at this); (try simp only [List.length_singleton]); omega) (by have := hlpi; (try dsimp only at this); (try simp only [List.length_singleton]); omega) rfl (fun st2 cap2 hG2 => ?_)
      refine Jt (Z2 rfl) rfl ?_
      apply Ni
      repeat first | apply Nx | apply Nb
      refine Sl [0, 3, 32, 33, 34] (.cons rfl (.cons rfl (.cons rfl (.cons rfl (.cons rfl .nil))))) ?_
      repeat apply Sq
      apply Pn
      refine Jt (ZB (cc := ((i + 1 : Nat) : Int)) rfl rfl (by omega) (by omega) (by omega)) rfl ?_
      refine Jt (Z0 rfl) rfl ?_
      apply Ni
      repeat refine JX.normal_block ?_
      refine JX.roundG (x := (qpi, stpi, cappi, i)) (qpi ++ [q1], st2, cap2, i + 1) ?_ ?_ [0, 3, 32, 33, 34] ?_ ?_ ?_ ?_
      · exact ⟨(by show i + 1 ≤ _; omega), hG2, (by show (qpi ++ [q1]).map Cel.x = _; rw [List.map_append, hmpi, Z3a (by omega)]; simp only [List.map_append, List.map_cons, List.map_nil, List.append_assoc, hq2]), (by show (qpi ++ [q1]).length ≤ _; rw [List.length_append]; have := hlpi; have := (show [q1].length ≤ 1 from Nat.le_refl 1); (try dsimp only at *); omega)⟩
      · exact (by show pi.length - (i + 1) < pi.length - i; omega)
      · exact (.cons rfl (.cons rfl (.cons rfl (.cons rfl (.cons rfl .nil)))))
      · repeat (first | exact .all | exact .nil | refine Has.own (by repeat first | exact .here | apply Tl.past | apply Tl.there) ?_ | refine Has.cons (by repeat (first | exact .here | apply Pk.past | apply Pk.there)) ?_)
      · exact fun G hG => by repeat (first | exact hG | refine List.mem_cons_of_mem _ ?_)
      · exact fun X w hF => fun w' hk p hp => (List.mem_append.1 hp).elim (fun hp => hF (CelF exE qpi) (by repeat first | exact Mh | apply Mt) w' hk p hp) (fun hp => by rw [List.mem_singleton.1 hp]; exact hF (CelR q1) (by repeat first | exact Mh | apply Mt) w' hk)
    ·
      try simp only [dT, dF] at ht35
      repeat apply Sq
      refine J.exit ?_
      repeat first | refine Ht ?_ | refine Ms rfl ?_ | refine Ep ?_
      repeat first | apply Nx | apply Nb
      have hi2 : i = pi.length := by omega
      subst hi2
      rw [List.take_length] at hmpi
      repeat apply Sq
      apply Pn
      refine Jt (Z0 rfl) rfl ?_
      refine Jt (Z5 rfl) rfl ?_
      refine Jt (Z1 Z11 rfl) rfl ?_
      refine Jt (Z4 ZR rfl rfl) rfl ?_
      refine Jt (Zq Z1S rfl) rfl ?_
      refine Jt (Z0 rfl) rfl ?_
      apply Ni
      repeat first | apply Nx | apply Nb
      refine Sl [0, 3, 47, 48, 49] (.cons rfl (.cons rfl (.cons rfl (.cons rfl (.cons rfl .nil))))) ?_
      repeat apply Sq
      apply Bk
      repeat apply Sq
      refine J.loopH (α := List (Cel exE) × Option (Nat × List Value) × Nat × Nat) (fun z => [(0, .is (.pointer (some ⟨b, 0, none⟩))), (3, .is (sliceO z.2.1 z.1.length z.2.2.1)), (47, .is (.slice af lf cf)), (48, .is (.int .i64 (lf : Nat))), (49, .is (.int .i64 (z.2.2.2 : Nat)))]) (fun z => ownO z.2.1 Z6 [⟨b, Zw, .is (stV S0 vc vn (.slice ar lr cr) (.slice ai li ci) (.slice af lf cf) (.slice aw lw cw) (.slice ag lg cg) (.slice ao lo co) (.slice ax lx cx))⟩]) (fun z => CelF exE z.1) (fun z => z.2.2.2 ≤ pf.length ∧ Grows Cel.cs 8 z.1 z.2.1 z.2.2.1 ∧ z.1.map Cel.x = S0.rows.flatten ++ S0.items.map (·.ex) ++ ((pf.take z.2.2.2).map (·.x.on)).flatten ∧ z.1.length ≤ 528 + z.2.2.2) (fun z => pf.length - z.2.2.2) (qpi, stpi, cappi, 0) [0, 3, 47, 48, 49] (.cons rfl (.cons rfl (.cons rfl (.cons rfl (.cons rfl .nil))))) rfl (fun X w hF => hF _ (by repeat first | exact Mh | apply Mt)) ⟨Nat.zero_le _, hGpi, (by rw [hmpi, ← hpi]; first | (simp; done) | (simp; rfl)), (by show qpi.length ≤ 528 + 0; have := hlpi; (try dsimp only at this); omega)⟩ fun ⟨qpf, stpf, cappf, i⟩ ⟨hi, hGpf, hmpf, hlpf⟩ => ?_
      try dsimp only
      try dsimp only at stpf
      try dsimp only at cappf
      try dsimp only at i
      try dsimp only at hi
      try dsimp only at hGpf
      try dsimp only at hmpf
      try dsimp only at hlpf
      repeat apply Sq
      apply Pn
      refine Jt (Z1h rfl rfl) rfl ?_
      apply Ni
      repeat first | apply Nx | apply Nb
      refine Sl [0, 3, 47, 48, 49, 50] (.cons rfl (.cons rfl (.cons rfl (.cons rfl (.cons rfl (.cons rfl .nil)))))) ?_
      repeat apply Sq
      refine Cd rfl (fun ht50 => ?_) (fun ht50 => ?_)
      ·
        try simp only [dT, dF] at ht50
        apply Sk
        repeat first | apply Nx | apply Nb
        repeat apply Sq
        apply Bk
        obtain ⟨u1, u2, u3, hq1, hq3⟩ := ZeZ pf[i]
        refine J.fact (ExsR pf[i].x.on u3) (fun X w hF _ w' hk => hq3 pf w' (List.getElem_mem _) (hF (CelF srE pf) (by repeat first | exact Mh | apply Mt) w' hk)) ?_
        refine J.shapeX (xs := pf[i].x.on) (v := u3) (by repeat first | exact Mh | apply Mt) (fun ps a2 l2 cap0 b2 o2 hps hv2 hl2 ha2 => ?_)
        subst hv2
        have hln : ps.length ≤ 1 := by rw [← List.length_map (f := Cel.x), hps]; exact hb5 _ (by rw [← hpf]; exact List.mem_map_of_mem (List.getElem_mem _))
        repeat apply Sq
        apply Pn
        refine Jt (Za Z1A rfl (haf (by omega)) rfl (by omega) (by omega)) rfl ?_
        refine Jt (Z3A (sz := 3) (enc := Cel.cs) (cs := [u1, u2, .slice a2 l2 cap0]) Z2K rfl (by repeat first | exact Mh | apply Mt) (haf (by omega)) (List.getElem?_eq_getElem (by omega : i < pf.length)) (by omega) hq1) rfl ?_
        refine JO.alloc Z41 rfl fun b9 => ?_
        refine JO.m (Z3 rfl rfl (by repeat first | exact .here | apply Ut) (by exact Z19 rfl rfl) (by exact Z19 rfl (List.all_eq_true.2 (by have := pf[i].o; rw [hq1] at this; exact this))) Z3g) (by rfl) ?_
        apply Ni
        repeat first | apply Nx | apply Nb
        refine Sl [0, 3, 9, 47, 48, 49] (.cons rfl (.cons rfl (.cons rfl (.cons rfl (.cons rfl (.cons rfl .nil)))))) ?_
        repeat apply Sq
        apply Pn
        refine Jt (Z0 rfl) rfl ?_
        refine Jt (Z1 Z2R rfl) rfl ?_
        refine Jt (Z4 Zt rfl rfl) rfl ?_
        refine JO.apA (ps) Z1c Cel.hlen (.there .here) hGpf rfl rfl (fun L => Z4Y (a := a2) (len := l2) (cap := cap0) Cel.hlen (by decide) (fun p => p.o) Zn (by repeat first | exact Mh | apply Mt)) (by have := hlpf; (try dsimp only at this); omega) (by have := hlpf; (try dsimp only at this); omega) rfl (fun st2 cap2 hG2 => ?_)
        refine Jt (Z2 rfl) rfl ?_
        apply Ni
        repeat first | apply Nx | apply Nb
        refine Sl [0, 3, 47, 48, 49] (.cons rfl (.cons rfl (.cons rfl (.cons rfl (.cons rfl .nil))))) ?_
        repeat apply Sq
        apply Pn
        refine Jt (ZB (cc := ((i + 1 : Nat) : Int)) rfl rfl (by omega) (by omega) (by omega)) rfl ?_
        refine Jt (Z0 rfl) rfl ?_
        apply Ni
        repeat refine JX.normal_block ?_
        refine JX.roundG (x := (qpf, stpf, cappf, i)) (qpf ++ ps, st2, cap2, i + 1) ?_ ?_ [0, 3, 47, 48, 49] ?_ ?_ ?_ ?_
        · exact ⟨(by show i + 1 ≤ _; omega), hG2, (by show (qpf ++ ps).map Cel.x = _; rw [List.map_append, hmpf, Z3a (by omega)]; simp only [List.map_append, List.map_cons, List.map_nil, List.flatten_append, List.flatten_cons, List.flatten_nil, List.append_nil, List.append_assoc, hps]), (by show (qpf ++ ps).length ≤ _; rw [List.length_append]; have := hlpf; have := hln; (try dsimp only at *); omega)⟩
        · exact (by show pf.length - (i + 1) < pf.length - i; omega)
        · exact (.cons rfl (.cons rfl (.cons rfl (.cons rfl (.cons rfl .nil)))))
        · repeat (first | exact .all | exact .nil | refine Has.own (by repeat first | exact .here | apply Tl.past | apply Tl.there) ?_ | refine Has.cons (by repeat (first | exact .here | apply Pk.past | apply Pk.there)) ?_)
        · exact fun G hG => by repeat (first | exact hG | refine List.mem_cons_of_mem _ ?_)
        · exact fun X w hF => fun w' hk p hp => (List.mem_append.1 hp).elim (fun hp => hF (CelF exE qpf) (by repeat first | exact Mh | apply Mt) w' hk p hp) (fun hp => hF (CelF exE ps) (by repeat first | exact Mh | apply Mt) w' hk p hp)
      ·
        try simp only [dT, dF] at ht50
        repeat apply Sq
        refine J.exit ?_
        repeat first | refine Ht ?_ | refine Ms rfl ?_ | refine Ep ?_
        repeat first | apply Nx | apply Nb
        have hi2 : i = pf.length := by omega
        subst hi2
        rw [List.take_length] at hmpf
        repeat apply Sq
        apply Pn
        refine Jt (Z0 rfl) rfl ?_
        refine Jt (Z5 rfl) rfl ?_
        refine Jt (Z1 Z1t rfl) rfl ?_
        refine Jt (Z4 Z27 rfl rfl) rfl ?_
        refine Jt (Zq Z2n rfl) rfl ?_
        refine Jt (Z0 rfl) rfl ?_
        apply Ni
        repeat first | apply Nx | apply Nb
        refine Sl [0, 3, 61, 62, 63] (.cons rfl (.cons rfl (.cons rfl (.cons rfl (.cons rfl .nil))))) ?_
        repeat apply Sq
        apply Bk
        repeat apply Sq
        refine J.loopH (α := List (Cel exE) × Option (Nat × List Value) × Nat × Nat) (fun z => [(0, .is (.pointer (some ⟨b, 0, none⟩))), (3, .is (sliceO z.2.1 z.1.length z.2.2.1)), (61, .is (.slice ao lo co)), (62, .is (.int .i64 (lo : Nat))), (63, .is (.int .i64 (z.2.2.2 : Nat)))]) (fun z => ownO z.2.1 Z6 [⟨b, Zw, .is (stV S0 vc vn (.slice ar lr cr) (.slice ai li ci) (.slice af lf cf) (.slice aw lw cw) (.slice ag lg cg) (.slice ao lo co) (.slice ax lx cx))⟩]) (fun z => CelF exE z.1) (fun z => z.2.2.2 ≤ po.length ∧ Grows Cel.cs 8 z.1 z.2.1 z.2.2.1 ∧ z.1.map Cel.x = S0.rows.flatten ++ S0.items.map (·.ex) ++ (S0.from_.map (·.on)).flatten ++ (po.take z.2.2.2).map (·.x.ex) ∧ z.1.length ≤ 532 + z.2.2.2) (fun z => po.length - z.2.2.2) (qpf, stpf, cappf, 0) [0, 3, 61, 62, 63] (.cons rfl (.cons rfl (.cons rfl (.cons rfl (.cons rfl .nil))))) rfl (fun X w hF => hF _ (by repeat first | exact Mh | apply Mt)) ⟨Nat.zero_le _, hGpf, (by rw [hmpf, ← hpf]; first | (simp; done) | (simp; rfl)), (by show qpf.length ≤ 532 + 0; have := hlpf; (try dsimp only at this); omega)⟩ fun ⟨qpo, stpo, cappo, i⟩ ⟨hi, hGpo, hmpo, hlpo⟩ => ?_
        try dsimp only
        try dsimp only at stpo
        try dsimp only at cappo
        try dsimp only at i
        try dsimp only at hi
        try dsimp only at hGpo
        try dsimp only at hmpo
        try dsimp only at hlpo
        repeat apply Sq
        apply Pn
        refine Jt (Z1h rfl rfl) rfl ?_
        apply Ni
        repeat first | apply Nx | apply Nb
        refine Sl [0, 3, 61, 62, 63, 64] (.cons rfl (.cons rfl (.cons rfl (.cons rfl (.cons rfl (.cons rfl .nil)))))) ?_
        repeat apply Sq
        refine Cd rfl (fun ht64 => ?_) (fun ht64 => ?_)
        ·
          try simp only [dT, dF] at ht64
          apply Sk
          repeat first | apply Nx | apply Nb
          repeat apply Sq
          apply Bk
          obtain ⟨u1, q1, hq1, hq2, hq3⟩ := Zfo po[i]
          obtain ⟨c1, c2, c3, c4, c5, c6, c7, c8, hcs⟩ := cs8 q1
          rw [hcs] at hq1
          refine J.fact (CelR q1) (fun X w hF _ w' hk => hq3 po w' (List.getElem_mem _) (hF (CelF kyE po) (by repeat first | exact Mh | apply Mt) w' hk)) ?_
          repeat apply Sq
          apply Pn
          refine Jt (Za Z43 rfl (hao (by omega)) rfl (by omega) (by omega)) rfl ?_
          refine Jt (Z3A (sz := 9) (enc := Cel.cs) (cs := [c1, c2, c3, c4, c5, c6, c7, c8, u1]) Z4y rfl (by repeat first | exact Mh | apply Mt) (hao (by omega)) (List.getElem?_eq_getElem (by omega : i < po.length)) (by omega) hq1) rfl ?_
          refine JO.alloc Z7N rfl fun b11 => ?_
          refine JO.m (Z3 rfl rfl (by repeat first | exact .here | apply Ut) (by exact Z19 rfl rfl) (by exact Z19 rfl (List.all_eq_true.2 (by have := po[i].o; rw [hq1] at this; exact this))) Z5x) (by rfl) ?_
          apply Ni
          repeat first | apply Nx | apply Nb
          refine Sl [0, 3, 11, 61, 62, 63] (.cons rfl (.cons rfl (.cons rfl (.cons rfl (.cons rfl (.cons rfl .nil)))))) ?_
          repeat apply Sq
          apply Pn
          refine Jt (Z0 rfl) rfl ?_
          refine Jt (Z1 Z8l rfl) rfl ?_
          refine Jt (ZG (cs := [_, _, _, _, _, _, _, _]) Ze rfl rfl rfl) rfl ?_
          refine Jt (Z2h (p := q1) Z47 ZL rfl (by decide) (by rw [show exE.v q1.cs = .agg #[c1, c2, c3, c4, c5, c6, c7, c8] by rw [hcs]; rfl]; exact rfl)) rfl ?_
          refine JO.apA ([q1]) Z1c Cel.hlen (.there .here) hGpo rfl rfl (srcE q1 Zn) (by have := hlpo; (try dsimp only at this); (try simp only [List.length_singleton]); omega) (by have := hlpo; (try dsimp only at this); (try simp only [List.length_singleton]); omega) rfl (fun st2 cap2 hG2 => ?_)
          refine Jt (Z2 rfl) rfl ?_
          apply Ni
          repeat first | apply Nx | apply Nb
          refine Sl [0, 3, 61, 62, 63] (.cons rfl (.cons rfl (.cons rfl (.cons rfl (.cons rfl .nil))))) ?_
          repeat apply Sq
          apply Pn
          refine Jt (ZB (cc := ((i + 1 : Nat) : Int)) rfl rfl (by omega) (by omega) (by omega)) rfl ?_
          refine Jt (Z0 rfl) rfl ?_
          apply Ni
          repeat refine JX.normal_block ?_
          refine JX.roundG (x := (qpo, stpo, cappo, i)) (qpo ++ [q1], st2, cap2, i + 1) ?_ ?_ [0, 3, 61, 62, 63] ?_ ?_ ?_ ?_
          · exact ⟨(by show i + 1 ≤ _; omega), hG2, (by show (qpo ++ [q1]).map Cel.x = _; rw [List.map_append, hmpo, Z3a (by omega)]; simp only [List.map_append, List.map_cons, List.map_nil, List.append_assoc, hq2]), (by show (qpo ++ [q1]).length ≤ _; rw [List.length_append]; have := hlpo; have := (show [q1].length ≤ 1 from Nat.le_refl 1); (try dsimp only at *); omega)⟩
          · exact (by show po.length - (i + 1) < po.length - i; omega)
          · exact (.cons rfl (.cons rfl (.cons rfl (.cons rfl (.cons rfl .nil)))))
          · repeat (first | exact .all | exact .nil | refine Has.own (by repeat first | exact .here | apply Tl.past | apply Tl.there) ?_ | refine Has.cons (by repeat (first | exact .here | apply Pk.past | apply Pk.there)) ?_)
          · exact fun G hG => by repeat (first | exact hG | refine List.mem_cons_of_mem _ ?_)
          · exact fun X w hF => fun w' hk p hp => (List.mem_append.1 hp).elim (fun hp => hF (CelF exE qpo) (by repeat first | exact Mh | apply Mt) w' hk p hp) (fun hp => by rw [List.mem_singleton.1 hp]; exact hF (CelR q1) (by repeat first | exact Mh | apply Mt) w' hk)
        ·
          try simp only [dT, dF] at ht64
          repeat apply Sq
          refine J.exit ?_
          repeat first | refine Ht ?_ | refine Ms rfl ?_ | refine Ep ?_
          repeat first | apply Nx | apply Nb
          have hi2 : i = po.length := by omega
          subst hi2
          rw [List.take_length] at hmpo
          rw [hGpo.sl.1]
          refine J.freezeOMW (N := 0) (e := Z6) (sz := 8) (Nat.zero_le _) Cel.hlen hGpo .here (fun q hq => ⟨_, List.mem_cons_self, (List.mem_singleton.1 hq).symm⟩) rfl rfl ?_
          refine J.fact (ExsR (S0.rows.flatten ++ S0.items.map (·.ex) ++ (S0.from_.map (·.on)).flatten ++ S0.order.map (·.ex)) (.slice (adO stpo) qpo.length (capO stpo cappo))) (fun X w hF _ w' hk => ⟨_, _, _, rfl, by rw [show (S0.rows.flatten ++ S0.items.map (·.ex) ++ (S0.from_.map (·.on)).flatten ++ S0.order.map (·.ex)) = qpo.map Cel.x from by rw [hmpo, ← hpo]; first | (simp; done) | (simp; rfl)]; exact Cel.kids (hF (RowG Cel.cs 8 qpo (adO stpo) qpo.length) (by repeat first | exact Mh | apply Mt) w' hk) (hF (CelF exE qpo) (by repeat first | exact Mh | apply Mt) w' hk)⟩) ?_
          repeat apply Sq
          refine J.reg0 hmx (by kernel_rfl) (by kernel_rfl) ?_
          refine Rq (Z0 rfl) ?_
          refine Rq (Z0 rfl) ?_
          refine Rq (Z5 rfl) ?_
          refine Rq (Z1 Z24 rfl) ?_
          refine Rq (Z4 Zt rfl rfl) ?_
          refine Rq (Z0 rfl) ?_
          refine Rq (Z5 rfl) ?_
          refine Rq (Z1 Z3i rfl) ?_
          refine Rq (Z4 Zt rfl rfl) ?_
          refine Rq (Z0 rfl) ?_
          refine Rq (Z5 rfl) ?_
          refine Rq (Z1 Z3P rfl) ?_
          refine Rq (Z4 Zt rfl rfl) ?_
          refine Rq (ZF (cs := [_, _, _, _]) Z3V (by omega) (by omega) (.cons rfl (.cons rfl (.cons rfl (.cons rfl .nil)))) rfl rfl rfl) ?_
          refine Rq (ZfR Z1x rfl) ?_
          refine Rq (Z0 rfl) ?_
          apply Rn
          refine FinS.nil0 ?_
          repeat first | apply Nx | apply Nb
          refine Sl [86, 87, 88] (.cons rfl (.cons rfl (.cons rfl .nil))) ?_
          repeat apply Sq
          apply Bk
          repeat apply Sq
          refine J.openNew (s := 86) rfl (fun b86 => ?_)
          refine J.loopF (α := Nat) (fun k => [(86, .is (.slice (some ⟨b86, 0, none⟩) 4 4)), (87, .is (.int .i64 ((4 : Nat) : Int))), (88, .is (.int .i64 (k : Nat)))]) (fun k => k ≤ 4 ∧ ∀ j, j < k → ∀ i, i < ((deepX S0).getD j []).length → ¬ 32 < hgt (((deepX S0).getD j []).getD i ex0)) (fun k => 4 - k) 0 [86, 87, 88] (.cons rfl (.cons rfl (.cons rfl .nil))) ⟨Nat.zero_le _, fun j hj => absurd hj (Nat.not_lt_zero _)⟩ fun k ⟨hk, hall⟩ => ?_
          repeat apply Sq
          apply Pn
          refine Jt (Z1h rfl rfl) rfl ?_
          apply Ni
          repeat first | apply Nx | apply Nb
          refine Sl [86, 87, 88, 89] (.cons rfl (.cons rfl (.cons rfl (.cons rfl .nil)))) ?_
          repeat apply Sq
          refine Cd rfl (fun ht89 => ?_) (fun ht89 => ?_)
          ·
            try simp only [dT, dF] at ht89
            apply Sk
            repeat first | apply Nx | apply Nb
            repeat apply Sq
            apply Bk
            repeat apply Sq
            apply Pn
            refine Jt (Za Z2q rfl rfl rfl (by omega) (by omega)) rfl ?_
            refine Jt (Z6Z (cs := (dvs (.slice (adO stpo) qpo.length (capO stpo cappo)) (.slice aw lw cw) (.slice ag lg cg) (.slice ax lx cx))) (u := (dvs (.slice (adO stpo) qpo.length (capO stpo cappo)) (.slice aw lw cw) (.slice ag lg cg) (.slice ax lx cx)).getD k undef) Zt rfl (by repeat first | exact Mh | apply Mt) (by first | exact Za4 (k := k) (by omega) | (rw [show (0 + 1 * k) = k by omega]; exact Za4 (k := k) (by omega)) | (rw [Nat.mul_one, Int.toNat_natCast, Nat.zero_add]; exact Za4 (k := k) (by omega)))) rfl ?_
            refine Jt (Z2 rfl) rfl ?_
            apply Ni
            repeat first | apply Nx | apply Nb
            refine Sl [13, 86, 87, 88] (.cons rfl (.cons rfl (.cons rfl (.cons rfl .nil)))) ?_
            refine J.shapeK (xs := ((deepX S0).getD k [])) (v := (dvs (.slice (adO stpo) qpo.length (capO stpo cappo)) (.slice aw lw cw) (.slice ag lg cg) (.slice ax lx cx)).getD k undef) (by
                match k, (show k < 4 by omega) with
                | 0, _ => exact (by repeat first | exact Mh | apply Mt)
                | 1, _ => exact (by repeat first | exact Mh | apply Mt)
                | 2, _ => exact (by repeat first | exact Mh | apply Mt)
                | 3, _ => exact (by repeat first | exact Mh | apply Mt)) (fun a l2 cap2 b2 o2 hv hlk ha => ?_)
            have hl3 := ZaI hsm0 k
            rw [hv]
            repeat apply Sq
            apply Pn
            refine Jt (Z0 rfl) rfl ?_
            refine Jt (Zq Zn rfl) rfl ?_
            refine Jt (Z0 rfl) rfl ?_
            apply Ni
            repeat first | apply Nx | apply Nb
            refine Sl [86, 87, 88, 92, 93, 94] (.cons rfl (.cons rfl (.cons rfl (.cons rfl (.cons rfl (.cons rfl .nil)))))) ?_
            repeat apply Sq
            apply Bk
            repeat apply Sq
            refine J.loopF (α := Nat) (fun i => [(86, _), (87, _), (88, _), (92, _), (93, _), (94, .is (.int .i64 (i : Nat)))]) (fun i => i ≤ l2 ∧ ∀ j, j < i → ¬ 32 < hgt (((deepX S0).getD k []).getD j ex0)) (fun i => l2 - i) 0 [86, 87, 88, 92, 93, 94] (.cons rfl (.cons rfl (.cons rfl (.cons rfl (.cons rfl (.cons rfl .nil)))))) ⟨Nat.zero_le _, fun j hj => absurd hj (Nat.not_lt_zero _)⟩ fun i ⟨hi, hin⟩ => ?_
            repeat apply Sq
            apply Pn
            refine Jt (Z1h rfl rfl) rfl ?_
            apply Ni
            repeat first | apply Nx | apply Nb
            refine Sl [86, 87, 88, 92, 93, 94, 95] (.cons rfl (.cons rfl (.cons rfl (.cons rfl (.cons rfl (.cons rfl (.cons rfl .nil))))))) ?_
            repeat apply Sq
            refine Cd rfl (fun ht95 => ?_) (fun ht95 => ?_)
            ·
              try simp only [dT, dF] at ht95
              apply Sk
              repeat first | apply Nx | apply Nb
              repeat apply Sq
              apply Bk
              repeat apply Sq
              apply Pn
              refine Jt (Za Z2z rfl (ha (by omega)) rfl (by omega) (by omega)) rfl ?_
              refine Jt (Z5D (kid := ((deepX S0).getD k []).getD i ex0) Ze rfl (by repeat first | exact Mh | apply Mt) (ha (by omega)) (Z7E (by omega)) (by omega)) rfl ?_
              refine JO.alloc Z16 rfl fun b15 => ?_
              refine JO.m (Z3 rfl rfl (by repeat first | exact .here | apply Ut) (by first | exact cI rfl rfl | exact cE) (by first | exact cI rfl rfl | exact cE | exact cO) Zo) (by rfl) ?_
              apply Ni
              repeat first | apply Nx | apply Nb
              refine Sl [15, 86, 87, 88, 92, 93, 94] (.cons rfl (.cons rfl (.cons rfl (.cons rfl (.cons rfl (.cons rfl (.cons rfl .nil))))))) ?_
              repeat apply Sq
              apply Pn
              refine Jt (Z2M Ze rfl) rfl ?_
              refine Jt (ZK rfl (Z72 4096 (((deepX S0).getD k []).getD i ex0) (hec _ (Z8u (Z7A (by omega)))) (hec _ (Z8u (Z7A (by omega))))) (.one rfl .nil)) rfl ?_
              refine Jt (Z2O rfl rfl) rfl ?_
              apply Ni
              repeat first | apply Nx | apply Nb
              refine Sl [86, 87, 88, 92, 93, 94, 100] (.cons rfl (.cons rfl (.cons rfl (.cons rfl (.cons rfl (.cons rfl (.cons rfl .nil))))))) ?_
              repeat apply Sq
              refine Cd rfl (fun ht100 => ?_) (fun ht100 => ?_)
              ·
                try simp only [dT, dF] at ht100
                repeat apply Sq
                apply Pn
                refine Jt (Z2 rfl) rfl ?_
                apply Ni
                repeat first | apply Nx | apply Nb
                refine Sl [2] (.cons rfl .nil) ?_
                repeat apply Sq
                apply Rt
                repeat first | apply Rp | apply Rb
                exact JX.retL1 (Lr := [_]) (L1 := fun _ : Unit => [⟨b, Zw, .is (stV S0 vc vn (.slice ar lr cr) (.slice ai li ci) (.slice af lf cf) (.slice aw lw cw) (.slice ag lg cg) (.slice ao lo co) (.slice ax lx cx))⟩]) rfl () trivial (.swap _ _ _) rfl rfl hb0 rfl (Sub.isEq (by rw [ZfY (s := S0) (k := k) (i := i) (by omega) (by omega)]))
              ·
                try simp only [dT, dF] at ht100
                apply Sk
                repeat first | apply Nx | apply Nb
                repeat apply Sq
                apply Pn
                refine Jt (ZB (cc := ((i + 1 : Nat) : Int)) rfl rfl (by omega) (by omega) (by omega)) rfl ?_
                refine Jt (Z0 rfl) rfl ?_
                apply Ni
                repeat refine JX.normal_block ?_
                refine JX.roundS (i + 1) ?_ ?_ [86, 87, 88, 92, 93, 94] ?_ ?_ ?_
                · exact ⟨by omega, fun j hj => if h : j = i then by subst h; omega else hin j (by omega)⟩
                · exact (by omega)
                · exact (.cons rfl (.cons rfl (.cons rfl (.cons rfl (.cons rfl (.cons rfl .nil))))))
                · repeat (first | exact .slnil | exact List.Sublist.refl _ | apply List.Sublist.cons_cons | apply List.Sublist.cons)
                · repeat (first | exact .slnil | exact List.Sublist.refl _ | apply List.Sublist.cons_cons | apply List.Sublist.cons)
            ·
              try simp only [dT, dF] at ht95
              repeat apply Sq
              refine J.exit ?_
              repeat first | refine Ht ?_ | refine Ms rfl ?_ | refine Ep ?_
              repeat first | apply Nx | apply Nb
              repeat apply Sq
              apply Pn
              refine Jt (ZB (cc := ((k + 1 : Nat) : Int)) rfl rfl (by omega) (by omega) (by omega)) rfl ?_
              refine Jt (Z0 rfl) rfl ?_
              apply Ni
              repeat refine JX.normal_block ?_
              refine JX.roundS (k + 1) ?_ ?_ [86, 87, 88] ?_ ?_ ?_
              · exact ⟨by omega, fun j hj => if h : j = k then by subst h; intro i2 hi2; exact hin i2 (by omega) else hall j (by omega)⟩
              · exact (by omega)
              · exact (.cons rfl (.cons rfl (.cons rfl .nil)))
              · repeat (first | exact .slnil | exact List.Sublist.refl _ | apply List.Sublist.cons_cons | apply List.Sublist.cons)
              · repeat (first | exact .slnil | exact List.Sublist.refl _ | apply List.Sublist.cons_cons | apply List.Sublist.cons)
          ·
            try simp only [dT, dF] at ht89
            repeat apply Sq
            refine J.exit ?_
            repeat first | refine Ht ?_ | refine Ms rfl ?_ | refine Ep ?_
            repeat first | apply Nx | apply Nb
            repeat apply Sq
            apply Pn
            refine Jt (Z2 rfl) rfl ?_
            apply Ni
            repeat first | apply Nx | apply Nb
            refine Sl [2] (.cons rfl .nil) ?_
            repeat apply Sq
            apply Rt
            repeat first | apply Rp | apply Rb
            exact JX.retL1 (Lr := []) (L1 := fun _ : Unit => [⟨b, Zw, .is (stV S0 vc vn (.slice ar lr cr) (.slice ai li ci) (.slice af lf cf) (.slice aw lw cw) (.slice ag lg cg) (.slice ao lo co) (.slice ax lx cx))⟩]) rfl () trivial (.refl _) rfl rfl hb0 rfl (Sub.isEq (by rw [ZgA (s := S0) (fun j hj => hall j (by omega))]))
end Go.Proofs.YtbedigkncjbggaaGreatDoor
set_option maxRecDepth 20000
namespace Go.Proofs.YtbedigkncjbggaaGreatDoor
open Go Go.Vc
open Go.Pz
abbrev SameX (x : Ex) : Prop := CallTy Tryz.prog Z69 [.rep (ExR x), .rep (ExR x)] (.is (.bool true))
theorem Sub.exsK {L : List Own} {Φ : List (World → Prop)} {kids : List Ex} {a : Option Addr} {len cap : Nat} (h : KidsR kids a len ∈ Φ) : Sub L Φ (.is (.slice a len cap)) (.rep (ExsR kids)) := fun E v w hf e => by
 rw [show v = _ from e]
 exact fun w' hk => ⟨a, len, cap, rfl, hf.2 _ h w' hk⟩
theorem ZaY : VEq Tryz.prog Zbw Z3Y Zc0 ZN := ⟨by kernel_rfl, by kernel_rfl, by kernel_rfl, by kernel_rfl, by kernel_rfl, by kernel_rfl, by kernel_rfl⟩
theorem Z5v (xs : List Ex) (hl : xs.length ≤ 4096) (hk : ∀ x ∈ xs, SameX x) : CallTy Tryz.prog Z5t [.rep (ExsR xs), .rep (ExsR xs)] (.is (.bool true)) :=
 CallTy.of (fn := Tryz.f41) Tryz.func41 (n := 27) rfl rfl rfl (fun _ _ => by kernel_rfl) fun E W => by
 refine J.openExs (s := 0) rfl (fun a len cap b o hlen ha => ?_)
 refine J.openExs (s := 1) rfl (fun a2 len2 cap2 b2 o2 hlen2 ha2 => ?_)
 subst hlen hlen2
 repeat apply Sq
 apply Pn
 refine Jt (Z2 rfl) rfl ?_
 apply Ni
 repeat first | apply Nx | apply Nb
 refine Sl [0, 1] (.cons rfl (.cons rfl .nil)) ?_
 repeat apply Sq
 apply Pn
 refine Jt (Z0 rfl) rfl ?_
 refine Jt (Zq Zn rfl) rfl ?_
 refine Jt (Z0 rfl) rfl ?_
 refine Jt (Zq Zn rfl) rfl ?_
 refine Jt (Z1J rfl rfl) rfl ?_
 apply Ni
 repeat first | apply Nx | apply Nb
 refine Sl [0, 1, 10] (.cons rfl (.cons rfl (.cons rfl .nil))) ?_
 repeat apply Sq
 refine Cd rfl (fun ht10 => ?_) (fun ht10 => ?_)
 ·
  try simp only [dT, dF] at ht10
  repeat apply Sq
  apply Pn
  refine Jt (Z2 rfl) rfl ?_
  apply Ni
  repeat first | apply Nx | apply Nb
  refine Sl [4] (.cons rfl .nil) ?_
  repeat apply Sq
  apply Rt
  repeat first | apply Rp | apply Rb
  exact JX.ret1is rfl rfl (by exact absurd ht10 (by simp))
 ·
  try simp only [dT, dF] at ht10
  apply Sk
  repeat first | apply Nx | apply Nb
  repeat apply Sq
  apply Pn
  refine Jt (Z2 rfl) rfl ?_
  apply Ni
  repeat first | apply Nx | apply Nb
  refine Sl [0, 1, 5] (.cons rfl (.cons rfl (.cons rfl .nil))) ?_
  repeat apply Sq
  apply Bk
  repeat apply Sq
  refine J.loopF (α := Nat) (fun s => [(0, .is (.slice a xs.length cap)), (1, .is (.slice a2 xs.length cap2)), (5, .is (.int .i64 (s : Nat)))]) (fun s => s ≤ xs.length) (fun s => xs.length - s) 0 [0, 1, 5] (.cons rfl (.cons rfl (.cons rfl .nil))) (Nat.zero_le _) fun i hi => ?_
  repeat apply Sq
  apply Pn
  refine Jt (Z0 rfl) rfl ?_
  refine Jt (Z0 rfl) rfl ?_
  refine Jt (Zq Zn rfl) rfl ?_
  refine Jt (Z1h rfl rfl) rfl ?_
  apply Ni
  repeat first | apply Nx | apply Nb
  refine Sl [0, 1, 5, 14] (.cons rfl (.cons rfl (.cons rfl (.cons rfl .nil)))) ?_
  repeat apply Sq
  refine Cd rfl (fun ht14 => ?_) (fun ht14 => ?_)
  ·
   try simp only [dT, dF] at ht14
   apply Sk
   repeat first | apply Nx | apply Nb
   repeat apply Sq
   apply Bk
   repeat apply Sq
   refine J.reg0 hmx (by kernel_rfl) (by kernel_rfl) ?_
   refine Rq (Z0 rfl) ?_
   refine Rq (Z0 rfl) ?_
   refine Rq (Za Z2z rfl (ha (by omega)) rfl (by omega) (by omega)) ?_
   refine Rq (Z5D (i := i) (len := xs.length) (kid := xs.getD i ex0) Ze rfl (by repeat first | exact Mh | apply Mt) (ha (by omega)) (Z7E (by omega)) (by omega)) ?_
   refine Rq (Z0 rfl) ?_
   refine Rq (Z0 rfl) ?_
   refine Rq (Za Z2z rfl (ha2 (by omega)) rfl (by omega) (by omega)) ?_
   refine Rq (Z5D (i := i) (len := xs.length) (kid := xs.getD i ex0) Ze rfl (by repeat first | exact Mh | apply Mt) (ha2 (by omega)) (Z7E (by omega)) (by omega)) ?_
   refine Rq (ZK rfl (hk _ (Z7A (by omega))) (.one rfl (.one rfl .nil))) ?_
   refine Rq (Z3k rfl) ?_
   apply Rn
   refine FinS.nil0 ?_
   repeat first | apply Nx | apply Nb
   refine Sl [0, 1, 5, 26] (.cons rfl (.cons rfl (.cons rfl (.cons rfl .nil)))) ?_
   repeat apply Sq
   refine Cd rfl (fun ht26 => ?_) (fun ht26 => ?_)
   ·
    try simp only [dT, dF] at ht26
    repeat apply Sq
    apply Pn
    refine Jt (Z2 rfl) rfl ?_
    apply Ni
    repeat first | apply Nx | apply Nb
    refine Sl [4] (.cons rfl .nil) ?_
    repeat apply Sq
    apply Rt
    repeat first | apply Rp | apply Rb
    exact JX.ret1is rfl rfl (by exact absurd ht26 (by decide))
   ·
    try simp only [dT, dF] at ht26
    apply Sk
    repeat first | apply Nx | apply Nb
    repeat apply Sq
    apply Pn
    refine Jt (Z0 rfl) rfl ?_
    refine Jt (ZB (cc := ((i + 1 : Nat) : Int)) rfl rfl (by omega) (by omega) (by omega)) rfl ?_
    refine Jt (Z2 rfl) rfl ?_
    apply Ni
    repeat refine JX.normal_block ?_
    refine JX.roundS (i + 1) ?_ ?_ [0, 1, 5] ?_ ?_ ?_
    · exact (by omega)
    · exact (by omega)
    · exact (.cons rfl (.cons rfl (.cons rfl .nil)))
    · repeat (first | exact .slnil | exact List.Sublist.refl _ | apply List.Sublist.cons_cons | apply List.Sublist.cons)
    · repeat (first | exact .slnil | exact List.Sublist.refl _ | apply List.Sublist.cons_cons | apply List.Sublist.cons)
  ·
   try simp only [dT, dF] at ht14
   repeat apply Sq
   refine J.exit ?_
   repeat first | refine Ht ?_ | refine Ms rfl ?_ | refine Ep ?_
   repeat first | apply Nx | apply Nb
   repeat apply Sq
   apply Pn
   refine Jt (Z2 rfl) rfl ?_
   apply Ni
   repeat first | apply Nx | apply Nb
   refine Sl [4] (.cons rfl .nil) ?_
   repeat apply Sq
   apply Rt
   repeat first | apply Rp | apply Rb
   exact JX.ret1is rfl rfl (rfl)
theorem Z8M (x : Ex) (hS : CallTy Tryz.prog Z5t [.rep (ExsR x.KS), .rep (ExsR x.KS)] (.is (.bool true))) : CallTy Tryz.prog Z69 [.rep (ExR x), .rep (ExR x)] (.is (.bool true)) :=
 CallTy.of (fn := Tryz.f17) Tryz.func17 (n := 43) rfl rfl rfl (fun _ _ => by kernel_rfl) fun E W => by
 refine J.openA (s := 0) rfl (fun a len cap b o hlen ha => ?_)
 refine J.openA (s := 1) rfl (fun a2 len2 cap2 b2 o2 hlen2 ha2 => ?_)
 repeat apply Sq
 apply Pn
 refine JO.box rfl rfl fun b2 => ?_
 refine JO.box rfl rfl fun b3 => ?_
 refine Jt (Z2 rfl) rfl ?_
 apply Ni
 repeat first | apply Nx | apply Nb
 refine Sl [2, 3] (.cons rfl (.cons rfl .nil)) ?_
 repeat apply Sq
 refine J.reg0 hmx (by kernel_rfl) (by kernel_rfl) ?_
 refine Rq (Z1 Z5o rfl) ?_
 refine Rq (Z4 ZA rfl rfl) ?_
 refine Rq (Z1 Z5o rfl) ?_
 refine Rq (Z4 ZA rfl rfl) ?_
 refine Rq (Z1J rfl rfl) ?_
 refine Rq (Z0 rfl) ?_
 refine Rg rfl rfl rfl (fun hg => Z1 Z7T (.inl rfl)) ?_
 refine Rg rfl rfl rfl (fun hg => ZG (cs := [_, _, _]) Z5U (.inr ⟨_, rfl, id⟩) rfl rfl) ?_
 refine Rg rfl rfl rfl (fun hg => Z1 Z7T (.inl rfl)) ?_
 refine Rg rfl rfl rfl (fun hg => ZG (cs := [_, _, _]) Z5U (.inr ⟨_, rfl, id⟩) rfl rfl) ?_
 refine Rg rfl rfl rfl (fun hg => ZhF ZaY (.inr ⟨_, rfl, id⟩) (.inr ⟨_, rfl, id⟩)) ?_
 refine Rq (ZM rfl rfl rfl id) ?_
 refine Rq (Z0 rfl) ?_
 refine Rg rfl rfl rfl (fun hg => Z1 Z5s (.inl rfl)) ?_
 refine Rg rfl rfl rfl (fun hg => Z4 Zu (.inr ⟨_, rfl, id⟩) rfl) ?_
 refine Rg rfl rfl rfl (fun hg => Z1 Z5s (.inl rfl)) ?_
 refine Rg rfl rfl rfl (fun hg => Z4 Zu (.inr ⟨_, rfl, id⟩) rfl) ?_
 refine Rg rfl rfl rfl (fun hg => Z3J (.inr ⟨_, rfl, id⟩) (.inr ⟨_, rfl, id⟩)) ?_
 refine Rq (ZM rfl rfl rfl id) ?_
 refine Rq (Z0 rfl) ?_
 refine Rg rfl rfl rfl (fun hg => Z1 Z45 (.inl rfl)) ?_
 refine Rg rfl rfl rfl (fun hg => Z4 Zu (.inr ⟨_, rfl, id⟩) rfl) ?_
 refine Rg rfl rfl rfl (fun hg => Z1 Z45 (.inl rfl)) ?_
 refine Rg rfl rfl rfl (fun hg => Z4 Zu (.inr ⟨_, rfl, id⟩) rfl) ?_
 refine Rg rfl rfl rfl (fun hg => Z3J (.inr ⟨_, rfl, id⟩) (.inr ⟨_, rfl, id⟩)) ?_
 refine Rq (ZM rfl rfl rfl id) ?_
 refine Rq (Z0 rfl) ?_
 refine Rg rfl rfl rfl (fun hg => Z1 Z7Z (.inl rfl)) ?_
 refine Rg rfl rfl rfl (fun hg => Z4 ZA (.inr ⟨_, rfl, id⟩) rfl) ?_
 refine Rg rfl rfl rfl (fun hg => Z1 Z7Z (.inl rfl)) ?_
 refine Rg rfl rfl rfl (fun hg => Z4 ZA (.inr ⟨_, rfl, id⟩) rfl) ?_
 refine Rg rfl rfl rfl (fun hg => Z1J (.inr ⟨_, rfl, id⟩) (.inr ⟨_, rfl, id⟩)) ?_
 refine Rq (ZM rfl rfl rfl id) ?_
 apply Rn
 refine FinS.nil0 ?_
 repeat first | apply Nx | apply Nb
 refine Sl [2, 3, 37] (.cons rfl (.cons rfl (.cons rfl .nil))) ?_
 repeat apply Sq
 refine Cd rfl (fun ht37 => ?_) (fun ht37 => ?_)
 ·
  try simp only [dT, dF] at ht37
  repeat apply Sq
  apply Pn
  refine Jt (Z2 rfl) rfl ?_
  apply Ni
  repeat first | apply Nx | apply Nb
  refine Sl [4] (.cons rfl .nil) ?_
  repeat apply Sq
  apply Rt
  repeat first | apply Rp | apply Rb
  exact JX.ret1is rfl rfl (by exact absurd ht37 (by simp [seq, veq]))
 ·
  try simp only [dT, dF] at ht37
  apply Sk
  repeat first | apply Nx | apply Nb
  repeat apply Sq
  apply Pn
  refine Jt (Z1 Z5n rfl) rfl ?_
  refine Jt (Z4 Zt rfl rfl) rfl ?_
  refine Jt (Z1 Z5n rfl) rfl ?_
  refine Jt (Z4 Zt rfl rfl) rfl ?_
  refine Jt (ZK rfl (hS) (.sub rfl (Sub.exsK (by repeat first | exact Mh | apply Mt)) (.sub rfl (Sub.exsK (by repeat first | exact Mh | apply Mt)) .nil))) rfl ?_
  refine Jt (Z2 rfl) rfl ?_
  apply Ni
  repeat first | apply Nx | apply Nb
  refine Sl [4] (.cons rfl .nil) ?_
  repeat apply Sq
  apply Rt
  repeat first | apply Rp | apply Rb
  exact JX.ret1is rfl rfl (rfl)
theorem Z5V : ∀ (n : Nat) (x : Ex), ect x ≤ n → ect x ≤ 4096 → SameX x
 | 0, x, h, _ => absurd h (by rw [Z4q]; omega)
 | n + 1, x, h, hx => Z8M x (Z5v x.KS (by have := Zcb x.KS; rw [Z4q] at hx; omega) fun y hy => Z5V n y (by have := Z7M hy; rw [Z4q] at h; omega) (by have := Z7M hy; rw [Z4q] at hx; omega))
end Go.Proofs.YtbedigkncjbggaaGreatDoor
