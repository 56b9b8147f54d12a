/- Is a statement too deep. No condition. -/
import Derived.Test.YtbedigkncjbggaaGreatDoorXQ10
import Derived.Test.YtbedigkncjbggaaGreatDoorXG7
import Derived.Test.YtbedigkncjbggaaGreatDoorXQ2
import Derived.Test.YtbedigkncjbggaaGreatDoorXG3
set_option maxRecDepth 20000
namespace Go.Proofs.YtbedigkncjbggaaGreatDoor
open Go Go.Vc
open Go.Pz
theorem Z64 {α : Type} {xs : List α} {i : Nat} (h : i < xs.length) : xs.take (i + 1) = xs.take i ++ [xs[i]] := by simp
theorem Z9C {a b c d : Value} {k : Nat} (h : k < 4) : (dvs a b c d)[k]? = some ((dvs a b c d).getD k undef) := by
 rw [List.getD_eq_getElem?_getD, List.getElem?_eq_getElem (by exact h)]; rfl
theorem Zbf (N b : Nat) (S0 : Pz.St) (vc vn vr vi vf vw vg vo vs : Value) (hsm : SmS S0) (hec : ∀ x ∈ exsOf S0, ect x ≤ 4096) : CallL Tryz.prog Zb4 [⟨b, Zy, .is (stV S0 vc vn vr vi vf vw vg vo vs)⟩] [SlE rwE noS S0.rows vr, SlE itE noS S0.items vi, SlE srE noS S0.from_ vf, SlE exE (FX N) S0.where_ vw, ExsR S0.group vg, SlE kyE noS S0.order vo, ExsR S0.sets vs] [.is (.pointer (some ⟨b, 0, none⟩))] (fun _ : Unit => True) (fun _ => [⟨b, Zy, .is (stV S0 vc vn vr vi vf vw vg vo vs)⟩]) (fun _ => .is (.bool (deepS S0))) :=
CallL.of (fn := Tryz.f29) Tryz.func29 (n := 103) rfl rfl rfl (fun _ _ => by kernel_rfl) fun E W hb0 => by
  have hsm0 := hsm
  obtain ⟨hb1, hb2, hb3, hb4, hb5, hb6, hb7, hb8, hb9, hb10, hb11⟩ := hsm
  refine J.shapeE (xs := S0.rows) (v := vr) (by repeat first | exact Mh | apply Mt) (fun pr ar lr cr br or_ hpr hvr hlr har => ?_)
  refine J.shapeE (xs := S0.items) (v := vi) (by repeat first | exact Mh | apply Mt) (fun pi ai li ci bi oi hpi hvi hli hai => ?_)
  refine J.shapeE (xs := S0.from_) (v := vf) (by repeat first | exact Mh | apply Mt) (fun pf af lf cf bf of_ hpf hvf hlf haf => ?_)
  refine J.shapeE (xs := S0.order) (v := vo) (by repeat first | exact Mh | apply Mt) (fun po ao lo co bo oo hpo hvo hlo hao => ?_)
  refine J.fact (ExsR S0.where_ vw) (fun X w hF _ w' hk => SlE.exs (hF (SlE exE (FX N) S0.where_ vw) (by repeat first | exact Mh | apply Mt) w' hk)) ?_
  refine J.shapeK (xs := S0.where_) (v := vw) (by repeat first | exact Mh | apply Mt) (fun aw lw cw bw ow hvw hlw haw => ?_)
  refine J.shapeK (xs := S0.group) (v := vg) (by repeat first | exact Mh | apply Mt) (fun ag lg cg bg og hvg hlg hag => ?_)
  refine J.shapeK (xs := S0.sets) (v := vs) (by repeat first | exact Mh | apply Mt) (fun ax lx cx bx ox hvx hlx hax => ?_)
  subst hvr hvi hvf hvo hvw hvg hvx
  have nr : pr.length = S0.rows.length := by rw [← hpr, List.length_map]
  have ni : pi.length = S0.items.length := by rw [← hpi, List.length_map]
  have nf : pf.length = S0.from_.length := by rw [← hpf, List.length_map]
  have no : po.length = S0.order.length := by rw [← hpo, List.length_map]
  repeat apply Sq
  apply Pn
  refine Jt (Z2 rfl) rfl ?_
  apply Ni
  repeat first | apply Nx | apply Nb
  refine Sl [0] (.cons rfl .nil) ?_
  repeat apply Sq
  apply Pn
  refine Jt (Z2 rfl) rfl ?_
  apply Ni
  repeat first | apply Nx | apply Nb
  refine Sl [0, 3] (.cons rfl (.cons rfl .nil)) ?_
  repeat apply Sq
  apply Pn
  refine Jt (Z0 rfl) rfl ?_
  refine Jt (Z5 rfl) rfl ?_
  refine Jt (Z1 Z2q rfl) rfl ?_
  refine Jt (Z7 Z2A rfl rfl) rfl ?_
  refine Jt (ZG Z23 rfl) rfl ?_
  refine Jt (Z0 rfl) rfl ?_
  apply Ni
  repeat first | apply Nx | apply Nb
  refine Sl [0, 3, 19, 20, 21] (.cons rfl (.cons rfl (.cons rfl (.cons rfl (.cons rfl .nil))))) ?_
  repeat apply Sq
  apply Bk
  repeat apply Sq
  refine J.loopH (α := List (Cel exE) × Option (Nat × List Value) × Nat × Nat) (fun z => [(0, .is (.pointer (some ⟨b, 0, none⟩))), (3, .is (sliceO z.2.1 z.1.length z.2.2.1)), (19, .is (.slice ar lr cr)), (20, .is (.int .i64 (lr : Nat))), (21, .is (.int .i64 (z.2.2.2 : Nat)))]) (fun z => ownO z.2.1 Z6 [⟨b, Zy, .is (stV S0 vc vn (.slice ar lr cr) (.slice ai li ci) (.slice af lf cf) (.slice aw lw cw) (.slice ag lg cg) (.slice ao lo co) (.slice ax lx cx))⟩]) (fun z => CelF exE z.1) (fun z => z.2.2.2 ≤ pr.length ∧ Grows Cel.cs 8 z.1 z.2.1 z.2.2.1 ∧ z.1.map Cel.x = ((pr.take z.2.2.2).map Cel.x).flatten ∧ z.1.length ≤ 16 * z.2.2.2) (fun z => pr.length - z.2.2.2) ([], none, 0, 0) [0, 3, 19, 20, 21] (.cons rfl (.cons rfl (.cons rfl (.cons rfl (.cons rfl .nil))))) rfl (fun X w hF => fun w' hk => CelF.nil w') ⟨Nat.zero_le _, rfl, rfl, Nat.zero_le _⟩ fun ⟨qpr, stpr, cappr, i⟩ ⟨hi, hGpr, hmpr, hlpr⟩ => ?_
  try dsimp only
  try dsimp only at stpr
  try dsimp only at cappr
  try dsimp only at i
  try dsimp only at hi
  try dsimp only at hGpr
  try dsimp only at hmpr
  try dsimp only at hlpr
  repeat apply Sq
  apply Pn
  refine Jt (Z1Q rfl rfl) rfl ?_
  apply Ni
  repeat first | apply Nx | apply Nb
  refine Sl [0, 3, 19, 20, 21, 22] (.cons rfl (.cons rfl (.cons rfl (.cons rfl (.cons rfl (.cons rfl .nil)))))) ?_
  repeat apply Sq
  refine Cd rfl (fun ht22 => ?_) (fun ht22 => ?_)
  ·
    try simp only [dT, dF] at ht22
    apply Sk
    repeat first | apply Nx | apply Nb
    repeat apply Sq
    apply Bk
    refine J.fact (ExsR pr[i].x (hdv pr[i].cs)) (fun X w hF _ w' hk => Zce (List.getElem_mem _) (hF (CelF rwE pr) (by repeat first | exact Mh | apply Mt) w' hk)) ?_
    refine J.shapeX (xs := pr[i].x) (v := hdv pr[i].cs) (by repeat first | exact Mh | apply Mt) (fun ps a2 l2 cap0 b2 o2 hps hv2 hl2 ha2 => ?_)
    have hln : ps.length ≤ 16 := by rw [← List.length_map (f := Cel.x), hps]; exact hb2 _ (by rw [← hpr]; exact List.mem_map_of_mem (List.getElem_mem _))
    repeat apply Sq
    apply Pn
    refine Jt (Zj Z2B rfl (har (by omega)) rfl (by omega) (by omega)) rfl ?_
    refine Jt (Z1n (sz := 1) (j := 0) (enc := Cel.cs) (u := hdv pr[i].cs) Zv rfl (by repeat first | exact Mh | apply Mt) (har (by omega)) (List.getElem?_eq_getElem (by omega : i < pr.length)) (by omega) (by rw [ZfU]; rfl)) rfl ?_
    refine Jt (Z2 rfl) rfl ?_
    apply Ni
    repeat first | apply Nx | apply Nb
    refine Sl [0, 3, 5, 19, 20, 21] (.cons rfl (.cons rfl (.cons rfl (.cons rfl (.cons rfl (.cons rfl .nil)))))) ?_
    rw [hv2]
    repeat apply Sq
    apply Pn
    refine Jt (Z0 rfl) rfl ?_
    refine Jt (Z0 rfl) rfl ?_
    refine JO.apA (ps) Z2d Cel.hlen .here hGpr rfl rfl (fun L => Zcq (a := a2) (len := l2) (cap := cap0) Cel.hlen (by decide) (fun p => p.o) ZC (by repeat first | exact Mh | apply Mt)) (by have := hlpr; (try dsimp only at this); omega) (by have := hlpr; (try dsimp only at this); omega) rfl (fun st2 cap2 hG2 => ?_)
    refine Jt (Z2 rfl) rfl ?_
    apply Ni
    repeat first | apply Nx | apply Nb
    refine Sl [0, 3, 19, 20, 21] (.cons rfl (.cons rfl (.cons rfl (.cons rfl (.cons rfl .nil))))) ?_
    repeat apply Sq
    apply Pn
    refine Jt (Z17 (cc := ((i + 1 : Nat) : Int)) rfl rfl (by omega) (by omega) (by omega)) rfl ?_
    refine Jt (Z0 rfl) rfl ?_
    apply Ni
    repeat refine JX.normal_block ?_
    refine JX.roundG (x := (qpr, stpr, cappr, i)) (qpr ++ ps, st2, cap2, i + 1) ?_ ?_ [0, 3, 19, 20, 21] ?_ ?_ ?_ ?_
    · exact ⟨(by show i + 1 ≤ _; omega), hG2, (by show (qpr ++ ps).map Cel.x = _; rw [List.map_append, hmpr, Z64 (by omega)]; simp only [List.map_append, List.map_cons, List.map_nil, List.flatten_append, List.flatten_cons, List.flatten_nil, List.append_nil, List.append_assoc, hps]), (by show (qpr ++ ps).length ≤ _; rw [List.length_append]; have := hlpr; have := hln; (try dsimp only at *); omega)⟩
    · exact (by show pr.length - (i + 1) < pr.length - i; omega)
    · exact (.cons rfl (.cons rfl (.cons rfl (.cons rfl (.cons rfl .nil)))))
    · repeat (first | exact .all | exact .nil | refine Has.own (by repeat first | exact .here | apply Tl.past | apply Tl.there) ?_ | refine Has.cons (by repeat (first | exact .here | apply Pk.past | apply Pk.there)) ?_)
    · exact fun G hG => by repeat (first | exact hG | refine List.mem_cons_of_mem _ ?_)
    · exact fun X w hF => fun w' hk p hp => (List.mem_append.1 hp).elim (fun hp => hF (CelF exE qpr) (by repeat first | exact Mh | apply Mt) w' hk p hp) (fun hp => hF (CelF exE ps) (by repeat first | exact Mh | apply Mt) w' hk p hp)
  ·
    try simp only [dT, dF] at ht22
    repeat apply Sq
    refine J.exit ?_
    repeat first | refine Ht ?_ | refine Ms rfl ?_ | refine Ep ?_
    repeat first | apply Nx | apply Nb
    have hi2 : i = pr.length := by omega
    subst hi2
    rw [List.take_length] at hmpr
    rw [hpr] at hmpr
    repeat apply Sq
    apply Pn
    refine Jt (Z0 rfl) rfl ?_
    refine Jt (Z5 rfl) rfl ?_
    refine Jt (Z1 Z21 rfl) rfl ?_
    refine Jt (Z7 Z2f rfl rfl) rfl ?_
    refine Jt (ZG Z2N rfl) rfl ?_
    refine Jt (Z0 rfl) rfl ?_
    apply Ni
    repeat first | apply Nx | apply Nb
    refine Sl [0, 3, 32, 33, 34] (.cons rfl (.cons rfl (.cons rfl (.cons rfl (.cons rfl .nil))))) ?_
    repeat apply Sq
    apply Bk
    repeat apply Sq
    refine J.loopH (α := List (Cel exE) × Option (Nat × List Value) × Nat × Nat) (fun z => [(0, .is (.pointer (some ⟨b, 0, none⟩))), (3, .is (sliceO z.2.1 z.1.length z.2.2.1)), (32, .is (.slice ai li ci)), (33, .is (.int .i64 (li : Nat))), (34, .is (.int .i64 (z.2.2.2 : Nat)))]) (fun z => ownO z.2.1 Z6 [⟨b, Zy, .is (stV S0 vc vn (.slice ar lr cr) (.slice ai li ci) (.slice af lf cf) (.slice aw lw cw) (.slice ag lg cg) (.slice ao lo co) (.slice ax lx cx))⟩]) (fun z => CelF exE z.1) (fun z => z.2.2.2 ≤ pi.length ∧ Grows Cel.cs 8 z.1 z.2.1 z.2.2.1 ∧ z.1.map Cel.x = S0.rows.flatten ++ (pi.take z.2.2.2).map (·.x.ex) ∧ z.1.length ≤ 512 + z.2.2.2) (fun z => pi.length - z.2.2.2) (qpr, stpr, cappr, 0) [0, 3, 32, 33, 34] (.cons rfl (.cons rfl (.cons rfl (.cons rfl (.cons rfl .nil))))) rfl (fun X w hF => hF _ (by repeat first | exact Mh | apply Mt)) ⟨Nat.zero_le _, hGpr, (by rw [hmpr]; simp), (by show qpr.length ≤ 512 + 0; have := hlpr; (try dsimp only at this); omega)⟩ fun ⟨qpi, stpi, cappi, i⟩ ⟨hi, hGpi, hmpi, hlpi⟩ => ?_
    try dsimp only
    try dsimp only at stpi
    try dsimp only at cappi
    try dsimp only at i
    try dsimp only at hi
    try dsimp only at hGpi
    try dsimp only at hmpi
    try dsimp only at hlpi
    repeat apply Sq
    apply Pn
    refine Jt (Z1Q rfl rfl) rfl ?_
    apply Ni
    repeat first | apply Nx | apply Nb
    refine Sl [0, 3, 32, 33, 34, 35] (.cons rfl (.cons rfl (.cons rfl (.cons rfl (.cons rfl (.cons rfl .nil)))))) ?_
    repeat apply Sq
    refine Cd rfl (fun ht35 => ?_) (fun ht35 => ?_)
    ·
      try simp only [dT, dF] at ht35
      apply Sk
      repeat first | apply Nx | apply Nb
      repeat apply Sq
      apply Bk
      obtain ⟨u1, q1, hq1, hq2, hq3⟩ := ZdZ pi[i]
      obtain ⟨c1, c2, c3, c4, c5, c6, c7, c8, hcs⟩ := cs8 q1
      rw [hcs] at hq1
      refine J.fact (CelR q1) (fun X w hF _ w' hk => hq3 pi w' (List.getElem_mem _) (hF (CelF itE pi) (by repeat first | exact Mh | apply Mt) w' hk)) ?_
      repeat apply Sq
      apply Pn
      refine Jt (Zj Z3t rfl (hai (by omega)) rfl (by omega) (by omega)) rfl ?_
      refine Jt (Z4D (sz := 9) (enc := Cel.cs) (cs := [u1, c1, c2, c3, c4, c5, c6, c7, c8]) Z6f rfl (by repeat first | exact Mh | apply Mt) (hai (by omega)) (List.getElem?_eq_getElem (by omega : i < pi.length)) (by omega) hq1) rfl ?_
      refine JO.alloc Z8t rfl fun b7 => ?_
      refine JO.m (Z3 rfl rfl (by repeat first | exact .here | apply Ut) (by exact Z18 rfl rfl) (by exact Z18 rfl (List.all_eq_true.2 (by have := pi[i].o; rw [hq1] at this; exact this))) Z6d) (by rfl) ?_
      apply Ni
      repeat first | apply Nx | apply Nb
      refine Sl [0, 3, 7, 32, 33, 34] (.cons rfl (.cons rfl (.cons rfl (.cons rfl (.cons rfl (.cons rfl .nil)))))) ?_
      repeat apply Sq
      apply Pn
      refine Jt (Z0 rfl) rfl ?_
      refine Jt (Z1 Z7o rfl) rfl ?_
      refine Jt (Z11 (cs := [_, _, _, _, _, _, _, _]) Za rfl rfl rfl) rfl ?_
      refine Jt (Z2s (p := q1) Z5q ZR rfl (by decide) (by rw [show exE.v q1.cs = .agg #[c1, c2, c3, c4, c5, c6, c7, c8] by rw [hcs]; rfl]; exact rfl)) rfl ?_
      refine JO.apA ([q1]) Z2d Cel.hlen (.there .here) hGpi rfl rfl (srcE q1 ZC) (by have := hlpi; (try dsimp only at this); (try simp only [List.length_singleton]); omega) (by have := hlpi; (try dsimp only at this); (try simp only [List.length_singleton]); omega) rfl (fun st2 cap2 hG2 => ?_)
      refine Jt (Z2 rfl) rfl ?_
      apply Ni
      repeat first | apply Nx | apply Nb
      refine Sl [0, 3, 32, 33, 34] (.cons rfl (.cons rfl (.cons rfl (.cons rfl (.cons rfl .nil))))) ?_
      repeat apply Sq
      apply Pn
      refine Jt (Z17 (cc := ((i + 1 : Nat) : Int)) rfl rfl (by omega) (by omega) (by omega)) rfl ?_
      refine Jt (Z0 rfl) rfl ?_
      apply Ni
      repeat refine JX.normal_block ?_
      refine JX.roundG (x := (qpi, stpi, cappi, i)) (qpi ++ [q1], st2, cap2, i + 1) ?_ ?_ [0, 3, 32, 33, 34] ?_ ?_ ?_ ?_
      · exact ⟨(by show i + 1 ≤ _; omega), hG2, (by show (qpi ++ [q1]).map Cel.x = _; rw [List.map_append, hmpi, Z64 (by omega)]; simp only [List.map_append, List.map_cons, List.map_nil, List.append_assoc, hq2]), (by show (qpi ++ [q1]).length ≤ _; rw [List.length_append]; have := hlpi; have := (show [q1].length ≤ 1 from Nat.le_refl 1); (try dsimp only at *); omega)⟩
      · exact (by show pi.length - (i + 1) < pi.length - i; omega)
      · exact (.cons rfl (.cons rfl (.cons rfl (.cons rfl (.cons rfl .nil)))))
      · repeat (first | exact .all | exact .nil | refine Has.own (by repeat first | exact .here | apply Tl.past | apply Tl.there) ?_ | refine Has.cons (by repeat (first | exact .here | apply Pk.past | apply Pk.there)) ?_)
      · exact fun G hG => by repeat (first | exact hG | refine List.mem_cons_of_mem _ ?_)
      · exact fun X w hF => fun w' hk p hp => (List.mem_append.1 hp).elim (fun hp => hF (CelF exE qpi) (by repeat first | exact Mh | apply Mt) w' hk p hp) (fun hp => by rw [List.mem_singleton.1 hp]; exact hF (CelR q1) (by repeat first | exact Mh | apply Mt) w' hk)
    ·
      try simp only [dT, dF] at ht35
      repeat apply Sq
      refine J.exit ?_
      repeat first | refine Ht ?_ | refine Ms rfl ?_ | refine Ep ?_
      repeat first | apply Nx | apply Nb
      have hi2 : i = pi.length := by omega
      subst hi2
      rw [List.take_length] at hmpi
      repeat apply Sq
      apply Pn
      refine Jt (Z0 rfl) rfl ?_
      refine Jt (Z5 rfl) rfl ?_
      refine Jt (Z1 Z2r rfl) rfl ?_
      refine Jt (Z7 Z2X rfl rfl) rfl ?_
      refine Jt (ZG Z2U rfl) rfl ?_
      refine Jt (Z0 rfl) rfl ?_
      apply Ni
      repeat first | apply Nx | apply Nb
      refine Sl [0, 3, 47, 48, 49] (.cons rfl (.cons rfl (.cons rfl (.cons rfl (.cons rfl .nil))))) ?_
      repeat apply Sq
      apply Bk
      repeat apply Sq
      refine J.loopH (α := List (Cel exE) × Option (Nat × List Value) × Nat × Nat) (fun z => [(0, .is (.pointer (some ⟨b, 0, none⟩))), (3, .is (sliceO z.2.1 z.1.length z.2.2.1)), (47, .is (.slice af lf cf)), (48, .is (.int .i64 (lf : Nat))), (49, .is (.int .i64 (z.2.2.2 : Nat)))]) (fun z => ownO z.2.1 Z6 [⟨b, Zy, .is (stV S0 vc vn (.slice ar lr cr) (.slice ai li ci) (.slice af lf cf) (.slice aw lw cw) (.slice ag lg cg) (.slice ao lo co) (.slice ax lx cx))⟩]) (fun z => CelF exE z.1) (fun z => z.2.2.2 ≤ pf.length ∧ Grows Cel.cs 8 z.1 z.2.1 z.2.2.1 ∧ z.1.map Cel.x = S0.rows.flatten ++ S0.items.map (·.ex) ++ ((pf.take z.2.2.2).map (·.x.on)).flatten ∧ z.1.length ≤ 528 + z.2.2.2) (fun z => pf.length - z.2.2.2) (qpi, stpi, cappi, 0) [0, 3, 47, 48, 49] (.cons rfl (.cons rfl (.cons rfl (.cons rfl (.cons rfl .nil))))) rfl (fun X w hF => hF _ (by repeat first | exact Mh | apply Mt)) ⟨Nat.zero_le _, hGpi, (by rw [hmpi, ← hpi]; first | (simp; done) | (simp; rfl)), (by show qpi.length ≤ 528 + 0; have := hlpi; (try dsimp only at this); omega)⟩ fun ⟨qpf, stpf, cappf, i⟩ ⟨hi, hGpf, hmpf, hlpf⟩ => ?_
      try dsimp only
      try dsimp only at stpf
      try dsimp only at cappf
      try dsimp only at i
      try dsimp only at hi
      try dsimp only at hGpf
      try dsimp only at hmpf
      try dsimp only at hlpf
      repeat apply Sq
      apply Pn
      refine Jt (Z1Q rfl rfl) rfl ?_
      apply Ni
      repeat first | apply Nx | apply Nb
      refine Sl [0, 3, 47, 48, 49, 50] (.cons rfl (.cons rfl (.cons rfl (.cons rfl (.cons rfl (.cons rfl .nil)))))) ?_
      repeat apply Sq
      refine Cd rfl (fun ht50 => ?_) (fun ht50 => ?_)
      ·
        try simp only [dT, dF] at ht50
        apply Sk
        repeat first | apply Nx | apply Nb
        repeat apply Sq
        apply Bk
        obtain ⟨u1, u2, u3, hq1, hq3⟩ := Zhd pf[i]
        refine J.fact (ExsR pf[i].x.on u3) (fun X w hF _ w' hk => hq3 pf w' (List.getElem_mem _) (hF (CelF srE pf) (by repeat first | exact Mh | apply Mt) w' hk)) ?_
        refine J.shapeX (xs := pf[i].x.on) (v := u3) (by repeat first | exact Mh | apply Mt) (fun ps a2 l2 cap0 b2 o2 hps hv2 hl2 ha2 => ?_)
        subst hv2
        have hln : ps.length ≤ 1 := by rw [← List.length_map (f := Cel.x), hps]; exact hb5 _ (by rw [← hpf]; exact List.mem_map_of_mem (List.getElem_mem _))
        repeat apply Sq
        apply Pn
        refine Jt (Zj Z8K rfl (haf (by omega)) rfl (by omega) (by omega)) rfl ?_
        refine Jt (Z4D (sz := 3) (enc := Cel.cs) (cs := [u1, u2, .slice a2 l2 cap0]) Z2o rfl (by repeat first | exact Mh | apply Mt) (haf (by omega)) (List.getElem?_eq_getElem (by omega : i < pf.length)) (by omega) hq1) rfl ?_
        refine JO.alloc Z3I rfl fun b9 => ?_
        refine JO.m (Z3 rfl rfl (by repeat first | exact .here | apply Ut) (by exact Z18 rfl rfl) (by exact Z18 rfl (List.all_eq_true.2 (by have := pf[i].o; rw [hq1] at this; exact this))) Z30) (by rfl) ?_
        apply Ni
        repeat first | apply Nx | apply Nb
        refine Sl [0, 3, 9, 47, 48, 49] (.cons rfl (.cons rfl (.cons rfl (.cons rfl (.cons rfl (.cons rfl .nil)))))) ?_
        repeat apply Sq
        apply Pn
        refine Jt (Z0 rfl) rfl ?_
        refine Jt (Z1 Z67 rfl) rfl ?_
        refine Jt (Z7 Zv rfl rfl) rfl ?_
        refine JO.apA (ps) Z2d Cel.hlen (.there .here) hGpf rfl rfl (fun L => Zcq (a := a2) (len := l2) (cap := cap0) Cel.hlen (by decide) (fun p => p.o) ZC (by repeat first | exact Mh | apply Mt)) (by have := hlpf; (try dsimp only at this); omega) (by have := hlpf; (try dsimp only at this); omega) rfl (fun st2 cap2 hG2 => ?_)
        refine Jt (Z2 rfl) rfl ?_
        apply Ni
        repeat first | apply Nx | apply Nb
        refine Sl [0, 3, 47, 48, 49] (.cons rfl (.cons rfl (.cons rfl (.cons rfl (.cons rfl .nil))))) ?_
        repeat apply Sq
        apply Pn
        refine Jt (Z17 (cc := ((i + 1 : Nat) : Int)) rfl rfl (by omega) (by omega) (by omega)) rfl ?_
        refine Jt (Z0 rfl) rfl ?_
        apply Ni
        repeat refine JX.normal_block ?_
        refine JX.roundG (x := (qpf, stpf, cappf, i)) (qpf ++ ps, st2, cap2, i + 1) ?_ ?_ [0, 3, 47, 48, 49] ?_ ?_ ?_ ?_
        · exact ⟨(by show i + 1 ≤ _; omega), hG2, (by show (qpf ++ ps).map Cel.x = _; rw [List.map_append, hmpf, Z64 (by omega)]; simp only [List.map_append, List.map_cons, List.map_nil, List.flatten_append, List.flatten_cons, List.flatten_nil, List.append_nil, List.append_assoc, hps]), (by show (qpf ++ ps).length ≤ _; rw [List.length_append]; have := hlpf; have := hln; (try dsimp only at *); omega)⟩
        · exact (by show pf.length - (i + 1) < pf.length - i; omega)
        · exact (.cons rfl (.cons rfl (.cons rfl (.cons rfl (.cons rfl .nil)))))
        · repeat (first | exact .all | exact .nil | refine Has.own (by repeat first | exact .here | apply Tl.past | apply Tl.there) ?_ | refine Has.cons (by repeat (first | exact .here | apply Pk.past | apply Pk.there)) ?_)
        · exact fun G hG => by repeat (first | exact hG | refine List.mem_cons_of_mem _ ?_)
        · exact fun X w hF => fun w' hk p hp => (List.mem_append.1 hp).elim (fun hp => hF (CelF exE qpf) (by repeat first | exact Mh | apply Mt) w' hk p hp) (fun hp => hF (CelF exE ps) (by repeat first | exact Mh | apply Mt) w' hk p hp)
      ·
        try simp only [dT, dF] at ht50
        repeat apply Sq
        refine J.exit ?_
        repeat first | refine Ht ?_ | refine Ms rfl ?_ | refine Ep ?_
        repeat first | apply Nx | apply Nb
        have hi2 : i = pf.length := by omega
        subst hi2
        rw [List.take_length] at hmpf
        repeat apply Sq
        apply Pn
        refine Jt (Z0 rfl) rfl ?_
        refine Jt (Z5 rfl) rfl ?_
        refine Jt (Z1 Z4F rfl) rfl ?_
        refine Jt (Z7 Zap rfl rfl) rfl ?_
        refine Jt (ZG Z52 rfl) rfl ?_
        refine Jt (Z0 rfl) rfl ?_
        apply Ni
        repeat first | apply Nx | apply Nb
        refine Sl [0, 3, 61, 62, 63] (.cons rfl (.cons rfl (.cons rfl (.cons rfl (.cons rfl .nil))))) ?_
        repeat apply Sq
        apply Bk
        repeat apply Sq
        refine J.loopH (α := List (Cel exE) × Option (Nat × List Value) × Nat × Nat) (fun z => [(0, .is (.pointer (some ⟨b, 0, none⟩))), (3, .is (sliceO z.2.1 z.1.length z.2.2.1)), (61, .is (.slice ao lo co)), (62, .is (.int .i64 (lo : Nat))), (63, .is (.int .i64 (z.2.2.2 : Nat)))]) (fun z => ownO z.2.1 Z6 [⟨b, Zy, .is (stV S0 vc vn (.slice ar lr cr) (.slice ai li ci) (.slice af lf cf) (.slice aw lw cw) (.slice ag lg cg) (.slice ao lo co) (.slice ax lx cx))⟩]) (fun z => CelF exE z.1) (fun z => z.2.2.2 ≤ po.length ∧ Grows Cel.cs 8 z.1 z.2.1 z.2.2.1 ∧ z.1.map Cel.x = S0.rows.flatten ++ S0.items.map (·.ex) ++ (S0.from_.map (·.on)).flatten ++ (po.take z.2.2.2).map (·.x.ex) ∧ z.1.length ≤ 532 + z.2.2.2) (fun z => po.length - z.2.2.2) (qpf, stpf, cappf, 0) [0, 3, 61, 62, 63] (.cons rfl (.cons rfl (.cons rfl (.cons rfl (.cons rfl .nil))))) rfl (fun X w hF => hF _ (by repeat first | exact Mh | apply Mt)) ⟨Nat.zero_le _, hGpf, (by rw [hmpf, ← hpf]; first | (simp; done) | (simp; rfl)), (by show qpf.length ≤ 532 + 0; have := hlpf; (try dsimp only at this); omega)⟩ fun ⟨qpo, stpo, cappo, i⟩ ⟨hi, hGpo, hmpo, hlpo⟩ => ?_
        try dsimp only
        try dsimp only at stpo
        try dsimp only at cappo
        try dsimp only at i
        try dsimp only at hi
        try dsimp only at hGpo
        try dsimp only at hmpo
        try dsimp only at hlpo
        repeat apply Sq
        apply Pn
        refine Jt (Z1Q rfl rfl) rfl ?_
        apply Ni
        repeat first | apply Nx | apply Nb
        refine Sl [0, 3, 61, 62, 63, 64] (.cons rfl (.cons rfl (.cons rfl (.cons rfl (.cons rfl (.cons rfl .nil)))))) ?_
        repeat apply Sq
        refine Cd rfl (fun ht64 => ?_) (fun ht64 => ?_)
        ·
          try simp only [dT, dF] at ht64
          apply Sk
          repeat first | apply Nx | apply Nb
          repeat apply Sq
          apply Bk
          obtain ⟨u1, q1, hq1, hq2, hq3⟩ := Zhu po[i]
          obtain ⟨c1, c2, c3, c4, c5, c6, c7, c8, hcs⟩ := cs8 q1
          rw [hcs] at hq1
          refine J.fact (CelR q1) (fun X w hF _ w' hk => hq3 po w' (List.getElem_mem _) (hF (CelF kyE po) (by repeat first | exact Mh | apply Mt) w' hk)) ?_
          repeat apply Sq
          apply Pn
          refine Jt (Zj Zag rfl (hao (by omega)) rfl (by omega) (by omega)) rfl ?_
          refine Jt (Z4D (sz := 9) (enc := Cel.cs) (cs := [c1, c2, c3, c4, c5, c6, c7, c8, u1]) Z4e rfl (by repeat first | exact Mh | apply Mt) (hao (by omega)) (List.getElem?_eq_getElem (by omega : i < po.length)) (by omega) hq1) rfl ?_
          refine JO.alloc Z7h rfl fun b11 => ?_
          refine JO.m (Z3 rfl rfl (by repeat first | exact .here | apply Ut) (by exact Z18 rfl rfl) (by exact Z18 rfl (List.all_eq_true.2 (by have := po[i].o; rw [hq1] at this; exact this))) Z57) (by rfl) ?_
          apply Ni
          repeat first | apply Nx | apply Nb
          refine Sl [0, 3, 11, 61, 62, 63] (.cons rfl (.cons rfl (.cons rfl (.cons rfl (.cons rfl (.cons rfl .nil)))))) ?_
          repeat apply Sq
          apply Pn
          refine Jt (Z0 rfl) rfl ?_
          refine Jt (Z1 Zb2 rfl) rfl ?_
          refine Jt (Z11 (cs := [_, _, _, _, _, _, _, _]) Za rfl rfl rfl) rfl ?_
          refine Jt (Z2s (p := q1) Z5q ZR rfl (by decide) (by rw [show exE.v q1.cs = .agg #[c1, c2, c3, c4, c5, c6, c7, c8] by rw [hcs]; rfl]; exact rfl)) rfl ?_
          refine JO.apA ([q1]) Z2d Cel.hlen (.there .here) hGpo rfl rfl (srcE q1 ZC) (by have := hlpo; (try dsimp only at this); (try simp only [List.length_singleton]); omega) (by have := hlpo; (try dsimp only at this); (try simp only [List.length_singleton]); omega) rfl (fun st2 cap2 hG2 => ?_)
          refine Jt (Z2 rfl) rfl ?_
          apply Ni
          repeat first | apply Nx | apply Nb
          refine Sl [0, 3, 61, 62, 63] (.cons rfl (.cons rfl (.cons rfl (.cons rfl (.cons rfl .nil))))) ?_
          repeat apply Sq
          apply Pn
          refine Jt (Z17 (cc := ((i + 1 : Nat) : Int)) rfl rfl (by omega) (by omega) (by omega)) rfl ?_
          refine Jt (Z0 rfl) rfl ?_
          apply Ni
          repeat refine JX.normal_block ?_
          refine JX.roundG (x := (qpo, stpo, cappo, i)) (qpo ++ [q1], st2, cap2, i + 1) ?_ ?_ [0, 3, 61, 62, 63] ?_ ?_ ?_ ?_
          · exact ⟨(by show i + 1 ≤ _; omega), hG2, (by show (qpo ++ [q1]).map Cel.x = _; rw [List.map_append, hmpo, Z64 (by omega)]; simp only [List.map_append, List.map_cons, List.map_nil, List.append_assoc, hq2]), (by show (qpo ++ [q1]).length ≤ _; rw [List.length_append]; have := hlpo; have := (show [q1].length ≤ 1 from Nat.le_refl 1); (try dsimp only at *); omega)⟩
          · exact (by show po.length - (i + 1) < po.length - i; omega)
          · exact (.cons rfl (.cons rfl (.cons rfl (.cons rfl (.cons rfl .nil)))))
          · repeat (first | exact .all | exact .nil | refine Has.own (by repeat first | exact .here | apply Tl.past | apply Tl.there) ?_ | refine Has.cons (by repeat (first | exact .here | apply Pk.past | apply Pk.there)) ?_)
          · exact fun G hG => by repeat (first | exact hG | refine List.mem_cons_of_mem _ ?_)
          · exact fun X w hF => fun w' hk p hp => (List.mem_append.1 hp).elim (fun hp => hF (CelF exE qpo) (by repeat first | exact Mh | apply Mt) w' hk p hp) (fun hp => by rw [List.mem_singleton.1 hp]; exact hF (CelR q1) (by repeat first | exact Mh | apply Mt) w' hk)
        ·
          try simp only [dT, dF] at ht64
          repeat apply Sq
          refine J.exit ?_
          repeat first | refine Ht ?_ | refine Ms rfl ?_ | refine Ep ?_
          repeat first | apply Nx | apply Nb
          have hi2 : i = po.length := by omega
          subst hi2
          rw [List.take_length] at hmpo
          rw [hGpo.sl.1]
          refine J.freezeOMW (N := 0) (e := Z6) (sz := 8) (Nat.zero_le _) Cel.hlen hGpo .here (fun q hq => ⟨_, List.mem_cons_self, (List.mem_singleton.1 hq).symm⟩) rfl rfl ?_
          refine J.fact (ExsR (S0.rows.flatten ++ S0.items.map (·.ex) ++ (S0.from_.map (·.on)).flatten ++ S0.order.map (·.ex)) (.slice (adO stpo) qpo.length (capO stpo cappo))) (fun X w hF _ w' hk => ⟨_, _, _, rfl, by rw [show (S0.rows.flatten ++ S0.items.map (·.ex) ++ (S0.from_.map (·.on)).flatten ++ S0.order.map (·.ex)) = qpo.map Cel.x from by rw [hmpo, ← hpo]; first | (simp; done) | (simp; rfl)]; exact Cel.kids (hF (RowG Cel.cs 8 qpo (adO stpo) qpo.length) (by repeat first | exact Mh | apply Mt) w' hk) (hF (CelF exE qpo) (by repeat first | exact Mh | apply Mt) w' hk)⟩) ?_
          repeat apply Sq
          refine J.reg0 hmx (by kernel_rfl) (by kernel_rfl) ?_
          refine Rq (Z0 rfl) ?_
          refine Rq (Z0 rfl) ?_
          refine Rq (Z5 rfl) ?_
          refine Rq (Z1 Z1s rfl) ?_
          refine Rq (Z7 Zv rfl rfl) ?_
          refine Rq (Z0 rfl) ?_
          refine Rq (Z5 rfl) ?_
          refine Rq (Z1 Z7B rfl) ?_
          refine Rq (Z7 Zv rfl rfl) ?_
          refine Rq (Z0 rfl) ?_
          refine Rq (Z5 rfl) ?_
          refine Rq (Z1 Z2H rfl) ?_
          refine Rq (Z7 Zv rfl rfl) ?_
          refine Rq (ZJ (cs := [_, _, _, _]) Z3A (by omega) (by omega) (.cons rfl (.cons rfl (.cons rfl (.cons rfl .nil)))) rfl rfl rfl) ?_
          refine Rq (ZdV Z23 rfl) ?_
          refine Rq (Z0 rfl) ?_
          apply Rn
          refine FinS.nil0 ?_
          repeat first | apply Nx | apply Nb
          refine Sl [86, 87, 88] (.cons rfl (.cons rfl (.cons rfl .nil))) ?_
          repeat apply Sq
          apply Bk
          repeat apply Sq
          refine J.openNew (s := 86) rfl (fun b86 => ?_)
          refine J.loopF (α := Nat) (fun k => [(86, .is (.slice (some ⟨b86, 0, none⟩) 4 4)), (87, .is (.int .i64 ((4 : Nat) : Int))), (88, .is (.int .i64 (k : Nat)))]) (fun k => k ≤ 4 ∧ ∀ j, j < k → ∀ i, i < ((deepX S0).getD j []).length → ¬ 32 < hgt (((deepX S0).getD j []).getD i ex0)) (fun k => 4 - k) 0 [86, 87, 88] (.cons rfl (.cons rfl (.cons rfl .nil))) ⟨Nat.zero_le _, fun j hj => absurd hj (Nat.not_lt_zero _)⟩ fun k ⟨hk, hall⟩ => ?_
          repeat apply Sq
          apply Pn
          refine Jt (Z1Q rfl rfl) rfl ?_
          apply Ni
          repeat first | apply Nx | apply Nb
          refine Sl [86, 87, 88, 89] (.cons rfl (.cons rfl (.cons rfl (.cons rfl .nil)))) ?_
          repeat apply Sq
          refine Cd rfl (fun ht89 => ?_) (fun ht89 => ?_)
          ·
            try simp only [dT, dF] at ht89
            apply Sk
            repeat first | apply Nx | apply Nb
            repeat apply Sq
            apply Bk
            repeat apply Sq
            apply Pn
            refine Jt (Zj Z2B rfl rfl rfl (by omega) (by omega)) rfl ?_
            refine Jt (Z6v (cs := (dvs (.slice (adO stpo) qpo.length (capO stpo cappo)) (.slice aw lw cw) (.slice ag lg cg) (.slice ax lx cx))) (u := (dvs (.slice (adO stpo) qpo.length (capO stpo cappo)) (.slice aw lw cw) (.slice ag lg cg) (.slice ax lx cx)).getD k undef) Zv rfl (by repeat first | exact Mh | apply Mt) (by first | exact Z9C (k := k) (by omega) | (rw [show (0 + 1 * k) = k by omega]; exact Z9C (k := k) (by omega)) | (rw [Nat.mul_one, Int.toNat_natCast, Nat.zero_add]; exact Z9C (k := k) (by omega)))) rfl ?_
            refine Jt (Z2 rfl) rfl ?_
            apply Ni
            repeat first | apply Nx | apply Nb
            refine Sl [13, 86, 87, 88] (.cons rfl (.cons rfl (.cons rfl (.cons rfl .nil)))) ?_
            refine J.shapeK (xs := ((deepX S0).getD k [])) (v := (dvs (.slice (adO stpo) qpo.length (capO stpo cappo)) (.slice aw lw cw) (.slice ag lg cg) (.slice ax lx cx)).getD k undef) (by
                match k, (show k < 4 by omega) with
                | 0, _ => exact (by repeat first | exact Mh | apply Mt)
                | 1, _ => exact (by repeat first | exact Mh | apply Mt)
                | 2, _ => exact (by repeat first | exact Mh | apply Mt)
                | 3, _ => exact (by repeat first | exact Mh | apply Mt)) (fun a l2 cap2 b2 o2 hv hlk ha => ?_)
            have hl3 := ZeD hsm0 k
            rw [hv]
            repeat apply Sq
            apply Pn
            refine Jt (Z0 rfl) rfl ?_
            refine Jt (ZG ZC rfl) rfl ?_
            refine Jt (Z0 rfl) rfl ?_
            apply Ni
            repeat first | apply Nx | apply Nb
            refine Sl [86, 87, 88, 92, 93, 94] (.cons rfl (.cons rfl (.cons rfl (.cons rfl (.cons rfl (.cons rfl .nil)))))) ?_
            repeat apply Sq
            apply Bk
            repeat apply Sq
            refine J.loopF (α := Nat) (fun i => [(86, _), (87, _), (88, _), (92, _), (93, _), (94, .is (.int .i64 (i : Nat)))]) (fun i => i ≤ l2 ∧ ∀ j, j < i → ¬ 32 < hgt (((deepX S0).getD k []).getD j ex0)) (fun i => l2 - i) 0 [86, 87, 88, 92, 93, 94] (.cons rfl (.cons rfl (.cons rfl (.cons rfl (.cons rfl (.cons rfl .nil)))))) ⟨Nat.zero_le _, fun j hj => absurd hj (Nat.not_lt_zero _)⟩ fun i ⟨hi, hin⟩ => ?_
            repeat apply Sq
            apply Pn
            refine Jt (Z1Q rfl rfl) rfl ?_
            apply Ni
            repeat first | apply Nx | apply Nb
            refine Sl [86, 87, 88, 92, 93, 94, 95] (.cons rfl (.cons rfl (.cons rfl (.cons rfl (.cons rfl (.cons rfl (.cons rfl .nil))))))) ?_
            repeat apply Sq
            refine Cd rfl (fun ht95 => ?_) (fun ht95 => ?_)
            ·
              try simp only [dT, dF] at ht95
              apply Sk
              repeat first | apply Nx | apply Nb
              repeat apply Sq
              apply Bk
              repeat apply Sq
              apply Pn
              refine Jt (Zj Z1f rfl (ha (by omega)) rfl (by omega) (by omega)) rfl ?_
              refine Jt (Z27 (kid := ((deepX S0).getD k []).getD i ex0) Za rfl (by repeat first | exact Mh | apply Mt) (ha (by omega)) (Z7k (by omega)) (by omega)) rfl ?_
              refine JO.alloc ZZ rfl fun b15 => ?_
              refine JO.m (Z3 rfl rfl (by repeat first | exact .here | apply Ut) (by first | exact cI rfl rfl | exact cE) (by first | exact cI rfl rfl | exact cE | exact cO) Zn) (by rfl) ?_
              apply Ni
              repeat first | apply Nx | apply Nb
              refine Sl [15, 86, 87, 88, 92, 93, 94] (.cons rfl (.cons rfl (.cons rfl (.cons rfl (.cons rfl (.cons rfl (.cons rfl .nil))))))) ?_
              repeat apply Sq
              apply Pn
              refine Jt (Z2p Za rfl) rfl ?_
              refine Jt (ZW rfl (Z6M 4096 (((deepX S0).getD k []).getD i ex0) (hec _ (Z7P (Z7a (by omega)))) (hec _ (Z7P (Z7a (by omega))))) (.one rfl .nil)) rfl ?_
              refine Jt (Z2t rfl rfl) rfl ?_
              apply Ni
              repeat first | apply Nx | apply Nb
              refine Sl [86, 87, 88, 92, 93, 94, 100] (.cons rfl (.cons rfl (.cons rfl (.cons rfl (.cons rfl (.cons rfl (.cons rfl .nil))))))) ?_
              repeat apply Sq
              refine Cd rfl (fun ht100 => ?_) (fun ht100 => ?_)
              ·
                try simp only [dT, dF] at ht100
                repeat apply Sq
                apply Pn
                refine Jt (Z2 rfl) rfl ?_
                apply Ni
                repeat first | apply Nx | apply Nb
                refine Sl [2] (.cons rfl .nil) ?_
                repeat apply Sq
                apply Rt
                repeat first | apply Rp | apply Rb
                exact JX.retL1 (Lr := [_]) (L1 := fun _ : Unit => [⟨b, Zy, .is (stV S0 vc vn (.slice ar lr cr) (.slice ai li ci) (.slice af lf cf) (.slice aw lw cw) (.slice ag lg cg) (.slice ao lo co) (.slice ax lx cx))⟩]) rfl () trivial (.swap _ _ _) rfl rfl hb0 rfl (Sub.isEq (by rw [Zev (s := S0) (k := k) (i := i) (by omega) (by omega)]))
              ·
                try simp only [dT, dF] at ht100
                apply Sk
                repeat first | apply Nx | apply Nb
                repeat apply Sq
                apply Pn
                refine Jt (Z17 (cc := ((i + 1 : Nat) : Int)) rfl rfl (by omega) (by omega) (by omega)) rfl ?_
                refine Jt (Z0 rfl) rfl ?_
                apply Ni
                repeat refine JX.normal_block ?_
                refine JX.roundS (i + 1) ?_ ?_ [86, 87, 88, 92, 93, 94] ?_ ?_ ?_
                · exact ⟨by omega, fun j hj => if h : j = i then by subst h; omega else hin j (by omega)⟩
                · exact (by omega)
                · exact (.cons rfl (.cons rfl (.cons rfl (.cons rfl (.cons rfl (.cons rfl .nil))))))
                · repeat (first | exact .slnil | exact List.Sublist.refl _ | apply List.Sublist.cons_cons | apply List.Sublist.cons)
                · repeat (first | exact .slnil | exact List.Sublist.refl _ | apply List.Sublist.cons_cons | apply List.Sublist.cons)
            ·
              try simp only [dT, dF] at ht95
              repeat apply Sq
              refine J.exit ?_
              repeat first | refine Ht ?_ | refine Ms rfl ?_ | refine Ep ?_
              repeat first | apply Nx | apply Nb
              repeat apply Sq
              apply Pn
              refine Jt (Z17 (cc := ((k + 1 : Nat) : Int)) rfl rfl (by omega) (by omega) (by omega)) rfl ?_
              refine Jt (Z0 rfl) rfl ?_
              apply Ni
              repeat refine JX.normal_block ?_
              refine JX.roundS (k + 1) ?_ ?_ [86, 87, 88] ?_ ?_ ?_
              · exact ⟨by omega, fun j hj => if h : j = k then by subst h; intro i2 hi2; exact hin i2 (by omega) else hall j (by omega)⟩
              · exact (by omega)
              · exact (.cons rfl (.cons rfl (.cons rfl .nil)))
              · repeat (first | exact .slnil | exact List.Sublist.refl _ | apply List.Sublist.cons_cons | apply List.Sublist.cons)
              · repeat (first | exact .slnil | exact List.Sublist.refl _ | apply List.Sublist.cons_cons | apply List.Sublist.cons)
          ·
            try simp only [dT, dF] at ht89
            repeat apply Sq
            refine J.exit ?_
            repeat first | refine Ht ?_ | refine Ms rfl ?_ | refine Ep ?_
            repeat first | apply Nx | apply Nb
            repeat apply Sq
            apply Pn
            refine Jt (Z2 rfl) rfl ?_
            apply Ni
            repeat first | apply Nx | apply Nb
            refine Sl [2] (.cons rfl .nil) ?_
            repeat apply Sq
            apply Rt
            repeat first | apply Rp | apply Rb
            exact JX.retL1 (Lr := []) (L1 := fun _ : Unit => [⟨b, Zy, .is (stV S0 vc vn (.slice ar lr cr) (.slice ai li ci) (.slice af lf cf) (.slice aw lw cw) (.slice ag lg cg) (.slice ao lo co) (.slice ax lx cx))⟩]) rfl () trivial (.refl _) rfl rfl hb0 rfl (Sub.isEq (by rw [ZfI (s := S0) (fun j hj => hall j (by omega))]))
end Go.Proofs.YtbedigkncjbggaaGreatDoor
set_option maxRecDepth 20000
namespace Go.Proofs.YtbedigkncjbggaaGreatDoor
open Go Go.Vc
open Go.Pz
abbrev SameX (x : Ex) : Prop := CallTy Tryz.prog Z5m [.rep (ExR x), .rep (ExR x)] (.is (.bool true))
theorem Sub.exsK {L : List Own} {Φ : List (World → Prop)} {kids : List Ex} {a : Option Addr} {len cap : Nat} (h : KidsR kids a len ∈ Φ) : Sub L Φ (.is (.slice a len cap)) (.rep (ExsR kids)) := fun E v w hf e => by
 rw [show v = _ from e]
 exact fun w' hk => ⟨a, len, cap, rfl, hf.2 _ h w' hk⟩
theorem Zad : VEq Tryz.prog Zb8 Z4d Zbn ZH := ⟨by kernel_rfl, by kernel_rfl, by kernel_rfl, by kernel_rfl, by kernel_rfl, by kernel_rfl, by kernel_rfl⟩
theorem Z8l (xs : List Ex) (hl : xs.length ≤ 4096) (hk : ∀ x ∈ xs, SameX x) : CallTy Tryz.prog Z54 [.rep (ExsR xs), .rep (ExsR xs)] (.is (.bool true)) :=
 CallTy.of (fn := Tryz.f41) Tryz.func41 (n := 27) rfl rfl rfl (fun _ _ => by kernel_rfl) fun E W => by
 refine J.openExs (s := 0) rfl (fun a len cap b o hlen ha => ?_)
 refine J.openExs (s := 1) rfl (fun a2 len2 cap2 b2 o2 hlen2 ha2 => ?_)
 subst hlen hlen2
 repeat apply Sq
 apply Pn
 refine Jt (Z2 rfl) rfl ?_
 apply Ni
 repeat first | apply Nx | apply Nb
 refine Sl [0, 1] (.cons rfl (.cons rfl .nil)) ?_
 repeat apply Sq
 apply Pn
 refine Jt (Z0 rfl) rfl ?_
 refine Jt (ZG ZC rfl) rfl ?_
 refine Jt (Z0 rfl) rfl ?_
 refine Jt (ZG ZC rfl) rfl ?_
 refine Jt (Z1C rfl rfl) rfl ?_
 apply Ni
 repeat first | apply Nx | apply Nb
 refine Sl [0, 1, 10] (.cons rfl (.cons rfl (.cons rfl .nil))) ?_
 repeat apply Sq
 refine Cd rfl (fun ht10 => ?_) (fun ht10 => ?_)
 ·
  try simp only [dT, dF] at ht10
  repeat apply Sq
  apply Pn
  refine Jt (Z2 rfl) rfl ?_
  apply Ni
  repeat first | apply Nx | apply Nb
  refine Sl [4] (.cons rfl .nil) ?_
  repeat apply Sq
  apply Rt
  repeat first | apply Rp | apply Rb
  exact JX.ret1is rfl rfl (by exact absurd ht10 (by simp))
 ·
  try simp only [dT, dF] at ht10
  apply Sk
  repeat first | apply Nx | apply Nb
  repeat apply Sq
  apply Pn
  refine Jt (Z2 rfl) rfl ?_
  apply Ni
  repeat first | apply Nx | apply Nb
  refine Sl [0, 1, 5] (.cons rfl (.cons rfl (.cons rfl .nil))) ?_
  repeat apply Sq
  apply Bk
  repeat apply Sq
  refine J.loopF (α := Nat) (fun s => [(0, .is (.slice a xs.length cap)), (1, .is (.slice a2 xs.length cap2)), (5, .is (.int .i64 (s : Nat)))]) (fun s => s ≤ xs.length) (fun s => xs.length - s) 0 [0, 1, 5] (.cons rfl (.cons rfl (.cons rfl .nil))) (Nat.zero_le _) fun i hi => ?_
  repeat apply Sq
  apply Pn
  refine Jt (Z0 rfl) rfl ?_
  refine Jt (Z0 rfl) rfl ?_
  refine Jt (ZG ZC rfl) rfl ?_
  refine Jt (Z1Q rfl rfl) rfl ?_
  apply Ni
  repeat first | apply Nx | apply Nb
  refine Sl [0, 1, 5, 14] (.cons rfl (.cons rfl (.cons rfl (.cons rfl .nil)))) ?_
  repeat apply Sq
  refine Cd rfl (fun ht14 => ?_) (fun ht14 => ?_)
  ·
   try simp only [dT, dF] at ht14
   apply Sk
   repeat first | apply Nx | apply Nb
   repeat apply Sq
   apply Bk
   repeat apply Sq
   refine J.reg0 hmx (by kernel_rfl) (by kernel_rfl) ?_
   refine Rq (Z0 rfl) ?_
   refine Rq (Z0 rfl) ?_
   refine Rq (Zj Z1f rfl (ha (by omega)) rfl (by omega) (by omega)) ?_
   refine Rq (Z27 (i := i) (len := xs.length) (kid := xs.getD i ex0) Za rfl (by repeat first | exact Mh | apply Mt) (ha (by omega)) (Z7k (by omega)) (by omega)) ?_
   refine Rq (Z0 rfl) ?_
   refine Rq (Z0 rfl) ?_
   refine Rq (Zj Z1f rfl (ha2 (by omega)) rfl (by omega) (by omega)) ?_
   refine Rq (Z27 (i := i) (len := xs.length) (kid := xs.getD i ex0) Za rfl (by repeat first | exact Mh | apply Mt) (ha2 (by omega)) (Z7k (by omega)) (by omega)) ?_
   refine Rq (ZW rfl (hk _ (Z7a (by omega))) (.one rfl (.one rfl .nil))) ?_
   refine Rq (Z5B rfl) ?_
   apply Rn
   refine FinS.nil0 ?_
   repeat first | apply Nx | apply Nb
   refine Sl [0, 1, 5, 26] (.cons rfl (.cons rfl (.cons rfl (.cons rfl .nil)))) ?_
   repeat apply Sq
   refine Cd rfl (fun ht26 => ?_) (fun ht26 => ?_)
   ·
    try simp only [dT, dF] at ht26
    repeat apply Sq
    apply Pn
    refine Jt (Z2 rfl) rfl ?_
    apply Ni
    repeat first | apply Nx | apply Nb
    refine Sl [4] (.cons rfl .nil) ?_
    repeat apply Sq
    apply Rt
    repeat first | apply Rp | apply Rb
    exact JX.ret1is rfl rfl (by exact absurd ht26 (by decide))
   ·
    try simp only [dT, dF] at ht26
    apply Sk
    repeat first | apply Nx | apply Nb
    repeat apply Sq
    apply Pn
    refine Jt (Z0 rfl) rfl ?_
    refine Jt (Z17 (cc := ((i + 1 : Nat) : Int)) rfl rfl (by omega) (by omega) (by omega)) rfl ?_
    refine Jt (Z2 rfl) rfl ?_
    apply Ni
    repeat refine JX.normal_block ?_
    refine JX.roundS (i + 1) ?_ ?_ [0, 1, 5] ?_ ?_ ?_
    · exact (by omega)
    · exact (by omega)
    · exact (.cons rfl (.cons rfl (.cons rfl .nil)))
    · repeat (first | exact .slnil | exact List.Sublist.refl _ | apply List.Sublist.cons_cons | apply List.Sublist.cons)
    · repeat (first | exact .slnil | exact List.Sublist.refl _ | apply List.Sublist.cons_cons | apply List.Sublist.cons)
  ·
   try simp only [dT, dF] at ht14
   repeat apply Sq
   refine J.exit ?_
   repeat first | refine Ht ?_ | refine Ms rfl ?_ | refine Ep ?_
   repeat first | apply Nx | apply Nb
   repeat apply Sq
   apply Pn
   refine Jt (Z2 rfl) rfl ?_
   apply Ni
   repeat first | apply Nx | apply Nb
   refine Sl [4] (.cons rfl .nil) ?_
   repeat apply Sq
   apply Rt
   repeat first | apply Rp | apply Rb
   exact JX.ret1is rfl rfl (rfl)
theorem Z8c (x : Ex) (hS : CallTy Tryz.prog Z54 [.rep (ExsR x.KS), .rep (ExsR x.KS)] (.is (.bool true))) : CallTy Tryz.prog Z5m [.rep (ExR x), .rep (ExR x)] (.is (.bool true)) :=
 CallTy.of (fn := Tryz.f17) Tryz.func17 (n := 43) rfl rfl rfl (fun _ _ => by kernel_rfl) fun E W => by
 refine J.openA (s := 0) rfl (fun a len cap b o hlen ha => ?_)
 refine J.openA (s := 1) rfl (fun a2 len2 cap2 b2 o2 hlen2 ha2 => ?_)
 repeat apply Sq
 apply Pn
 refine JO.box rfl rfl fun b2 => ?_
 refine JO.box rfl rfl fun b3 => ?_
 refine Jt (Z2 rfl) rfl ?_
 apply Ni
 repeat first | apply Nx | apply Nb
 refine Sl [2, 3] (.cons rfl (.cons rfl .nil)) ?_
 repeat apply Sq
 refine J.reg0 hmx (by kernel_rfl) (by kernel_rfl) ?_
 refine Rq (Z1 Z4Y rfl) ?_
 refine Rq (Z7 Zz rfl rfl) ?_
 refine Rq (Z1 Z4Y rfl) ?_
 refine Rq (Z7 Zz rfl rfl) ?_
 refine Rq (Z1C rfl rfl) ?_
 refine Rq (Z0 rfl) ?_
 refine Rg rfl rfl rfl (fun hg => Z1 Z7v (.inl rfl)) ?_
 refine Rg rfl rfl rfl (fun hg => Z11 (cs := [_, _, _]) Z5z (.inr ⟨_, rfl, id⟩) rfl rfl) ?_
 refine Rg rfl rfl rfl (fun hg => Z1 Z7v (.inl rfl)) ?_
 refine Rg rfl rfl rfl (fun hg => Z11 (cs := [_, _, _]) Z5z (.inr ⟨_, rfl, id⟩) rfl rfl) ?_
 refine Rg rfl rfl rfl (fun hg => Zgx Zad (.inr ⟨_, rfl, id⟩) (.inr ⟨_, rfl, id⟩)) ?_
 refine Rq (Z10 rfl rfl rfl id) ?_
 refine Rq (Z0 rfl) ?_
 refine Rg rfl rfl rfl (fun hg => Z1 Z4Z (.inl rfl)) ?_
 refine Rg rfl rfl rfl (fun hg => Z7 ZB (.inr ⟨_, rfl, id⟩) rfl) ?_
 refine Rg rfl rfl rfl (fun hg => Z1 Z4Z (.inl rfl)) ?_
 refine Rg rfl rfl rfl (fun hg => Z7 ZB (.inr ⟨_, rfl, id⟩) rfl) ?_
 refine Rg rfl rfl rfl (fun hg => Z84 (.inr ⟨_, rfl, id⟩) (.inr ⟨_, rfl, id⟩)) ?_
 refine Rq (Z10 rfl rfl rfl id) ?_
 refine Rq (Z0 rfl) ?_
 refine Rg rfl rfl rfl (fun hg => Z1 Z3H (.inl rfl)) ?_
 refine Rg rfl rfl rfl (fun hg => Z7 ZB (.inr ⟨_, rfl, id⟩) rfl) ?_
 refine Rg rfl rfl rfl (fun hg => Z1 Z3H (.inl rfl)) ?_
 refine Rg rfl rfl rfl (fun hg => Z7 ZB (.inr ⟨_, rfl, id⟩) rfl) ?_
 refine Rg rfl rfl rfl (fun hg => Z84 (.inr ⟨_, rfl, id⟩) (.inr ⟨_, rfl, id⟩)) ?_
 refine Rq (Z10 rfl rfl rfl id) ?_
 refine Rq (Z0 rfl) ?_
 refine Rg rfl rfl rfl (fun hg => Z1 Z7r (.inl rfl)) ?_
 refine Rg rfl rfl rfl (fun hg => Z7 Zz (.inr ⟨_, rfl, id⟩) rfl) ?_
 refine Rg rfl rfl rfl (fun hg => Z1 Z7r (.inl rfl)) ?_
 refine Rg rfl rfl rfl (fun hg => Z7 Zz (.inr ⟨_, rfl, id⟩) rfl) ?_
 refine Rg rfl rfl rfl (fun hg => Z1C (.inr ⟨_, rfl, id⟩) (.inr ⟨_, rfl, id⟩)) ?_
 refine Rq (Z10 rfl rfl rfl id) ?_
 apply Rn
 refine FinS.nil0 ?_
 repeat first | apply Nx | apply Nb
 refine Sl [2, 3, 37] (.cons rfl (.cons rfl (.cons rfl .nil))) ?_
 repeat apply Sq
 refine Cd rfl (fun ht37 => ?_) (fun ht37 => ?_)
 ·
  try simp only [dT, dF] at ht37
  repeat apply Sq
  apply Pn
  refine Jt (Z2 rfl) rfl ?_
  apply Ni
  repeat first | apply Nx | apply Nb
  refine Sl [4] (.cons rfl .nil) ?_
  repeat apply Sq
  apply Rt
  repeat first | apply Rp | apply Rb
  exact JX.ret1is rfl rfl (by exact absurd ht37 (by simp [seq, veq]))
 ·
  try simp only [dT, dF] at ht37
  apply Sk
  repeat first | apply Nx | apply Nb
  repeat apply Sq
  apply Pn
  refine Jt (Z1 Z50 rfl) rfl ?_
  refine Jt (Z7 Zv rfl rfl) rfl ?_
  refine Jt (Z1 Z50 rfl) rfl ?_
  refine Jt (Z7 Zv rfl rfl) rfl ?_
  refine Jt (ZW rfl (hS) (.sub rfl (Sub.exsK (by repeat first | exact Mh | apply Mt)) (.sub rfl (Sub.exsK (by repeat first | exact Mh | apply Mt)) .nil))) rfl ?_
  refine Jt (Z2 rfl) rfl ?_
  apply Ni
  repeat first | apply Nx | apply Nb
  refine Sl [4] (.cons rfl .nil) ?_
  repeat apply Sq
  apply Rt
  repeat first | apply Rp | apply Rb
  exact JX.ret1is rfl rfl (rfl)
theorem Z5J : ∀ (n : Nat) (x : Ex), ect x ≤ n → ect x ≤ 4096 → SameX x
 | 0, x, h, _ => absurd h (by rw [Z4k]; omega)
 | n + 1, x, h, hx => Z8c x (Z8l x.KS (by have := ZaL x.KS; rw [Z4k] at hx; omega) fun y hy => Z5J n y (by have := Z79 hy; rw [Z4k] at h; omega) (by have := Z79 hy; rw [Z4k] at hx; omega))
end Go.Proofs.YtbedigkncjbggaaGreatDoor
set_option maxRecDepth 20000
namespace Go.Proofs.YtbedigkncjbggaaGreatDoor
open Go Go.Vc
open Go.Pz
theorem J.pureF {P : Program} {c : Ctx} {K : List (Nat × Ty)} {L : List Own} {Φ : List (World → Prop)} {Q : Exit → Act → World → Prop} {y : Code} {F : World → Prop} (h : F ∈ Φ) (hj : (∃ w, F w) → J P c K L Φ y Q) : J P c K L Φ y Q :=
 ⟨fun X a w hs => (hj ⟨w, (hs.f F h).now⟩).out X a w hs⟩
theorem Zi3 {xs : List Ex} {v : Value} {w : World} (h : ExsR xs v w) : ∃ a cap, v = .slice a xs.length cap := by
 obtain ⟨a, len, cap, rfl, hk⟩ := h
 exact ⟨a, cap, by rw [hk.1]⟩
theorem Zg5 {ps : List (Cel rwE)} {l : List (List Ex)} (h : ∃ w, CelF rwE ps w) (hm : ps.map Cel.x = l) {i : Nat} (hi : i < ps.length) (hi' : i < l.length) : ∃ a cap, ps[i].cs = [.slice a (l[i]).length cap] := by
 obtain ⟨w, hw⟩ := h
 subst hm
 obtain ⟨v, h1, h2⟩ := hw _ (List.getElem_mem hi)
 obtain ⟨a, cap, rfl⟩ := Zi3 h2
 exact ⟨a, cap, by rw [h1]; simp⟩
theorem ZcL {ps : List (Cel itE)} {l : List Itm} (h : ∃ w, CelF itE ps w) (hm : ps.map Cel.x = l) {i : Nat} (hi : i < ps.length) (hi' : i < l.length) : (ps[i].cs)[0]? = some (.bool (l[i]).all) := by
 obtain ⟨w, hw⟩ := h
 subst hm
 obtain ⟨es, h1, h2⟩ := hw _ (List.getElem_mem hi)
 rw [h1]; simp
end Go.Proofs.YtbedigkncjbggaaGreatDoor
set_option maxRecDepth 20000
namespace Go.Proofs.YtbedigkncjbggaaGreatDoor
open Go Go.Vc
open Go.Pz
end Go.Proofs.YtbedigkncjbggaaGreatDoor
set_option maxRecDepth 20000
namespace Go.Proofs.YtbedigkncjbggaaGreatDoor
open Go Go.Vc
abbrev sv (s : ByteArray) (i : Nat) : Value := .agg #[.string s, .int .i64 (i : Int)]
def or32 (c : Int) : Int := IntKind.u8.wrap (BitVec.ofInt IntKind.u8.bits c ||| BitVec.ofInt IntKind.u8.bits 32).toNat
def letterF (c : Int) : Bool := (c == 95) || (decide (97 ≤ or32 c) && decide (or32 c ≤ 122))
def digitF (c : Int) : Bool := decide (48 ≤ c) && decide (c ≤ 57)
def letB (b : UInt8) : Bool := letterF b.toNat
def digB (b : UInt8) : Bool := digitF b.toNat
def wordB (b : UInt8) : Bool := letB b || digB b
def isSp (b : UInt8) : Bool := decide (0 ≤ Lib.indexByte [32, 9, 10, 13] b)
def runN (p : UInt8 → Bool) : List UInt8 → Nat
 | [] => 0
 | b :: l => if p b then runN p l + 1 else 0
theorem Z4s (p : UInt8 → Bool) : ∀ l : List UInt8, runN p l ≤ l.length
  | [] => Nat.le_refl _
  | b :: l => by
    have := Z4s p l
    unfold runN
    split <;> simp <;> omega
theorem ZbA {p : UInt8 → Bool} {s : ByteArray} {i : Nat} (h : i < s.size → p (by_ s i) = false) : runN p (dr s i) = 0 := by
 by_cases hi : i < s.size
 · rw [Z2n hi, runN, if_neg (by rw [h hi]; simp)]
 · rw [Z7I (by omega)]; rfl
theorem ZdY {p : UInt8 → Bool} {s : ByteArray} {i : Nat} (hi : i < s.size) (h : p (by_ s i) = true) : runN p (dr s i) = runN p (dr s (i + 1)) + 1 := by
 rw [Z2n hi, runN, if_pos h]
theorem ZdQ {p : UInt8 → Bool} {s : ByteArray} {i : Nat} (hi : i ≤ s.size) : i + runN p (dr s i) ≤ s.size := by
 have := Z4s p (dr s i)
 rw [Z7L] at this
 omega
theorem Zg4 (s : ByteArray) (i : Nat) : (sb s i).toNat.toUInt8 = by_ s i := by
 rw [Zi6]
 simp
def kwB : ByteArray := ⟨#[32, 65, 78, 68, 32, 65, 83, 32, 65, 83, 67, 32, 66, 69, 71, 73, 78, 32, 66, 79, 79, 76, 32, 66, 89, 32, 67, 79, 77, 77, 73, 84, 32, 67, 79, 85, 78, 84, 32, 67, 82, 69, 65, 84, 69, 32, 68, 69, 76, 69, 84, 69, 32, 68, 69, 83, 67, 32, 70, 65, 76, 83, 69, 32, 70, 82, 79, 77, 32, 71, 82, 79, 85, 80, 32, 72, 65, 83, 72, 32, 73, 78, 68, 69, 88, 32, 73, 78, 78, 69, 82, 32, 73, 78, 83, 69, 82, 84, 32, 73, 78, 84, 32, 73, 78, 84, 79, 32, 73, 83, 32, 74, 79, 73, 78, 32, 75, 69, 89, 32, 76, 73, 77, 73, 84, 32, 77, 65, 88, 32, 77, 73, 78, 32, 78, 79, 84, 32, 78, 85, 76, 76, 32, 79, 78, 32, 79, 82, 32, 79, 82, 68, 69, 82, 32, 80, 82, 73, 77, 65, 82, 89, 32, 82, 79, 76, 76, 66, 65, 67, 75, 32, 83, 69, 76, 69, 67, 84, 32, 83, 69, 84, 32, 83, 85, 77, 32, 84, 65, 66, 76, 69, 32, 84, 69, 88, 84, 32, 84, 82, 85, 69, 32, 85, 78, 73, 81, 85, 69, 32, 85, 80, 68, 65, 84, 69, 32, 85, 83, 73, 78, 71, 32, 86, 65, 76, 85, 69, 83, 32, 87, 72, 69, 82, 69, 32]⟩
def sgB : ByteArray := ⟨#[32, 60, 62, 32, 60, 61, 32, 62, 61, 32, 40, 32, 41, 32, 44, 32, 59, 32, 42, 32, 43, 32, 45, 32, 47, 32, 37, 32, 61, 32, 60, 32, 62, 32, 46, 32]⟩
abbrev sp1 : ByteArray := ⟨#[32]⟩
abbrev bl (l : List UInt8) : ByteArray := ⟨l.toArray⟩
theorem Z6P (l : List UInt8) : (bl l).size = l.length := by show l.toArray.size = _; simp
theorem Z5i (l : List UInt8) : (bl l).data.toList = l := by simp
theorem Zi2 (s : ByteArray) : bl s.data.toList = s := by cases s; simp
theorem ZdA (s : ByteArray) (n k : Nat) : s.extract n (n + k) = bl ((dr s n).take k) := by
 rw [← Z1i, Zi2]
theorem ZaH (a b : ByteArray) : (a ++ b).data.toList = a.data.toList ++ b.data.toList := by
 rw [ByteArray.data_append, Array.toList_append]
def padL (l : List UInt8) : List UInt8 := 32 :: l ++ [32]
theorem Z5G (a : ByteArray) : ((sp1 ++ a) ++ sp1).data.toList = padL a.data.toList := by
 rw [ZaH, ZaH]; rfl
def wordL (w : List UInt8) : T3 × Int :=
 if Lib.contains kwB.data.toList (padL (Lib.toUpperA w)) then (⟨1, bl (Lib.toUpperA w), 0⟩, 0)
 else if decide (32 < (w.length : Int)) then (t3D, 30) else (⟨2, bl (Lib.toLowerA w), 0⟩, 0)
def numStep (a : Int × Int) (b : UInt8) : Int × Int :=
  (IntKind.i64.wrap (IntKind.i64.wrap (10 * a.1) + IntKind.i64.wrap (IntKind.u8.wrap ((b.toNat : Int) - 48))),
   if decide ((IntKind.i64.wrap ((IntKind.i64.wrap (9223372036854775807 - IntKind.i64.wrap (IntKind.u8.wrap ((b.toNat : Int) - 48)))).tdiv 10)) < a.1) then 35 else a.2)
def headP (p : UInt8 → Bool) : List UInt8 → Bool
 | [] => false
 | b :: _ => p b
def numE (l : List UInt8) : Int := if headP letB (l.drop (runN digB l)) then 30 else ((l.take (runN digB l)).foldl numStep (0, 0)).2
def numL (l : List UInt8) : T3 × Int :=
 if (numE l != 0) then (t3D, numE l) else (⟨3, ⟨#[]⟩, ((l.take (runN digB l)).foldl numStep (0, 0)).1⟩, 0)
def endT (acc : List UInt8) : T3 × Int := if decide (64 < (acc.length : Int)) then (t3D, 30) else (⟨4, bl acc, 0⟩, 0)
def textL : List UInt8 → List UInt8 → (T3 × Int) × Nat
 | [], _ => ((t3D, 30), 0)
 | [b], acc => if b == 39 then (endT acc, 1) else ((t3D, 30), 1)
 | b :: c :: l, acc => if b == 39 then (if c != 39 then (endT acc, 1) else ((textL l (acc ++ [c])).1, (textL l (acc ++ [c])).2 + 2)) else ((textL (c :: l) (acc ++ [b])).1, (textL (c :: l) (acc ++ [b])).2 + 1)
def tryL (l : List UInt8) (q : Nat) : Bool := decide (q ≤ l.length) && Lib.contains sgB.data.toList (padL (l.take q))
def signL (l : List UInt8) : (T3 × Int) × Nat := if tryL l 2 then ((⟨5, bl (l.take 2), 0⟩, 0), 2) else if tryL l 1 then ((⟨5, bl (l.take 1), 0⟩, 0), 1) else ((t3D, 30), 0)
def stepL : List UInt8 → (T3 × Int) × Nat
 | [] => ((t3D, 30), 0)
 | b :: l => if letB b then (wordL ((b :: l).take (runN wordB (b :: l))), runN wordB (b :: l))
  else if digB b then (numL (b :: l), runN digB (b :: l))
  else if b == 39 then ((textL l []).1, (textL l []).2 + 1)
  else signL (b :: l)
def allG : Nat → List UInt8 → List T3 × Int
  | 0, _ => ([], 0)
  | f + 1, l => match l.drop (runN isSp l) with
    | [] => ([], 0)
    | b :: r => if ((stepL (b :: r)).1.2 != 0) then ([], (stepL (b :: r)).1.2)
      else if ((allG f ((b :: r).drop (stepL (b :: r)).2)).2 != 0) then ([], (allG f ((b :: r).drop (stepL (b :: r)).2)).2)
      else ((stepL (b :: r)).1.1 :: (allG f ((b :: r).drop (stepL (b :: r)).2)).1, 0)
def lexL (l : List UInt8) : List T3 × Int := if decide (2048 < (l.length : Int)) then ([], 30) else allG (l.length + 1) l
theorem ZcC (w : List UInt8) : (Lib.toUpperA w).length = w.length := by simp [Lib.toUpperA]
theorem Zcf {a : ByteArray} (h : a.size ≤ 2048) : sp1.size + a.size ≤ 9223372036854775807 := by
 have : sp1.size = 1 := rfl
 omega
theorem Zcy {a : ByteArray} (h : a.size ≤ 2048) : (sp1 ++ a).size + sp1.size ≤ 9223372036854775807 := by
 have : sp1.size = 1 := rfl
 rw [ByteArray.size_append]
 omega
theorem Z4x (s : ByteArray) (n k : Nat) : (s.extract n (n + k)).size ≤ s.size := by
 rw [ZdA, Z6P, List.length_take, Z7L]
 omega
theorem Z9x : ∀ n : Nat, n < 256 → (letterF n || digitF n) = true → n < 128 := by decide +kernel
theorem Zdm {b : UInt8} (h : wordB b = true) : b.toNat < 128 := Z9x b.toNat b.toNat_lt h
theorem Zcr (p : UInt8 → Bool) : ∀ l : List UInt8, ∀ b ∈ l.take (runN p l), p b = true
  | [], b, h => by simp [runN] at h
  | c :: l, b, h => by
    unfold runN at h
    by_cases hc : p c = true
    · rw [if_pos hc, List.take_succ_cons] at h
      rcases List.mem_cons.1 h with rfl | h
      · exact hc
      · exact Zcr p l b h
    · rw [if_neg hc] at h
      simp at h
theorem Z9T (s : ByteArray) (n : Nat) : ∀ (j : Nat) (b : UInt8), (s.extract n (n + runN wordB (dr s n))).data.toList[j]? = some b → b.toNat < 128 := fun j b h => by
 rw [Z1i] at h
 exact Zdm (Zcr wordB _ b (List.mem_of_getElem? h))
end Go.Proofs.YtbedigkncjbggaaGreatDoor
set_option maxRecDepth 20000
namespace Go.Proofs.YtbedigkncjbggaaGreatDoor
open Go Go.Vc
abbrev AB : UInt8 → Ty := fun b => .is (.int .u8 b.toNat)
abbrev RBB (p : UInt8 → Bool) : UInt8 → Ty := fun b => .is (.bool (p b))
abbrev TT : World → Prop := fun _ => True
theorem Z61 {a b : Bool} (h : (a && b) = true) : a = true ∧ b = true := by simpa using h
theorem Z5p (c : Int) : CallTy Tryz.prog ZaE [.is (.int .u8 c)] (.is (.bool (letterF c))) :=
 CallTy.of (fn := Tryz.f98) Tryz.func98 (n := 15) rfl rfl rfl (fun _ _ => by kernel_rfl) fun E W => by
 repeat apply Sq
 apply Pn
 refine Jt (Z2 rfl) rfl ?_
 apply Ni
 repeat first | apply Nx | apply Nb
 refine Sl [0] (.cons rfl .nil) ?_
 repeat apply Sq
 refine J.reg0 hmx (by kernel_rfl) (by kernel_rfl) ?_
 refine Rq (Z0 rfl) ?_
 refine Rq (Z1p rfl rfl) ?_
 refine Rq (Z0 rfl) ?_
 refine Rg rfl rfl rfl (fun hg => Z0 (.inl rfl)) ?_
 refine Rg rfl rfl rfl (fun hg => ZfV (.inr ⟨_, rfl, id⟩) (.inl rfl)) ?_
 refine Rg rfl rfl rfl (fun hg => Zbc (.inr ⟨_, rfl, id⟩) (.inl rfl)) ?_
 refine Rg rfl rfl rfl (fun hg => Z0 (.inr ⟨_, rfl, id⟩)) ?_
 refine RT.gg rfl rfl rfl (fun hg => (Z0 (.inl rfl))) ?_
 refine RT.gg rfl rfl rfl (fun hg => (ZfV (.inr ⟨_, rfl, id⟩) (.inl rfl))) ?_
 refine RT.gg rfl rfl rfl (fun hg => (Z3F (.inr ⟨_, rfl, id⟩) (.inl rfl))) ?_
 refine Rg rfl rfl rfl (fun hg => ZK (.inr ⟨_, rfl, id⟩) (.inl rfl) (.inl rfl) (fun h => ⟨hg, h⟩)) ?_
 refine Rq (Z10 rfl rfl rfl id) ?_
 refine Rq (Z2 rfl) ?_
 apply Rn
 refine FinS.nil0 ?_
 repeat first | apply Nx | apply Nb
 refine Sl [2] (.cons rfl .nil) ?_
 repeat apply Sq
 apply Rt
 repeat first | apply Rp | apply Rb
 exact JX.ret1is rfl rfl (by rfl)
theorem Z6j (c : Int) : CallTy Tryz.prog Z8q [.is (.int .u8 c)] (.is (.bool (digitF c))) :=
 CallTy.of (fn := Tryz.f100) Tryz.func100 (n := 9) rfl rfl rfl (fun _ _ => by kernel_rfl) fun E W => by
 repeat apply Sq
 apply Pn
 refine Jt (Z2 rfl) rfl ?_
 apply Ni
 repeat first | apply Nx | apply Nb
 refine Sl [0] (.cons rfl .nil) ?_
 repeat apply Sq
 refine J.reg0 hmx (by kernel_rfl) (by kernel_rfl) ?_
 refine Rq (Z0 rfl) ?_
 refine Rq (Zbc rfl rfl) ?_
 refine Rq (Z0 rfl) ?_
 refine Rg rfl rfl rfl (fun hg => Z0 (.inl rfl)) ?_
 refine Rg rfl rfl rfl (fun hg => Z3F (.inr ⟨_, rfl, id⟩) (.inl rfl)) ?_
 refine Rq (ZK rfl rfl rfl id) ?_
 refine Rq (Z2 rfl) ?_
 apply Rn
 refine FinS.nil0 ?_
 repeat first | apply Nx | apply Nb
 refine Sl [2] (.cons rfl .nil) ?_
 repeat apply Sq
 apply Rt
 repeat first | apply Rp | apply Rb
 exact JX.ret1is rfl rfl (by rfl)
theorem Z6m (c : Int) : CallTy Tryz.prog Z3D [.is (.int .u8 c)] (.is (.bool (letterF c || digitF c))) :=
 CallTy.of (fn := Tryz.f140) Tryz.func140 (n := 9) rfl rfl rfl (fun _ _ => by kernel_rfl) fun E W => by
 repeat apply Sq
 apply Pn
 refine Jt (Z2 rfl) rfl ?_
 apply Ni
 repeat first | apply Nx | apply Nb
 refine Sl [0] (.cons rfl .nil) ?_
 repeat apply Sq
 refine J.reg0 hmx (by kernel_rfl) (by kernel_rfl) ?_
 refine Rq (Z0 rfl) ?_
 refine Rq (ZW rfl (Z5p c) (.one rfl .nil)) ?_
 refine Rq (Z0 rfl) ?_
 refine Rg rfl rfl rfl (fun hg => Z0 (.inl rfl)) ?_
 refine Rg rfl rfl rfl (fun hg => ZW (.inl rfl) (Z6j c) (.one (.inr ⟨_, rfl, id⟩) .nil)) ?_
 refine Rq (Z10 rfl rfl rfl id) ?_
 refine Rq (Z2 rfl) ?_
 apply Rn
 refine FinS.nil0 ?_
 repeat first | apply Nx | apply Nb
 refine Sl [2] (.cons rfl .nil) ?_
 repeat apply Sq
 apply Rt
 repeat first | apply Rp | apply Rb
 exact JX.ret1is rfl rfl (by rfl)
theorem Zgr : Fn1 Tryz.prog (.func (.func Z3D) ([] : List Value).toArray ([] : List Value).toArray) TT AB (RBB wordB) :=
 Fn1.of (TF := []) (TC := []) (fun b => Z6m b.toNat) (fun _ _ _ => trivial) (fun _ _ _ => trivial) 0
theorem ZfJ : Fn1 Tryz.prog (.func (.func Z8q) ([] : List Value).toArray ([] : List Value).toArray) TT AB (RBB digB) :=
 Fn1.of (TF := []) (TC := []) (fun b => Z6j b.toNat) (fun _ _ _ => trivial) (fun _ _ _ => trivial) 0
theorem Z3V (s : ByteArray) (n : Nat) (hn : n ≤ s.size) (hs : s.size ≤ 9223372036854775806) : CallM Tryz.prog Z6x ZY (sv s n) [] [] (sv s (n + runN isSp (dr s n))) (.is (.tuple #[])) :=
CallM.of (fn := Tryz.f56) Tryz.func56 (n := 32) rfl rfl rfl (fun _ _ => by kernel_rfl) fun E W b0 => by
 repeat apply Sq
 apply Bk
 repeat apply Sq
 refine J.loopG (α := Nat) (fun i => [(0, .is (.pointer (some ⟨b0, 0, none⟩)))]) (fun i => [⟨b0, ZY, .is (sv s i)⟩]) (fun i => fun _ => True) (fun i => i ≤ s.size ∧ i + runN isSp (dr s i) = n + runN isSp (dr s n)) (fun i => s.size - i) n [0] (.cons rfl .nil) rfl (fun _ => trivial) ⟨hn, rfl⟩ fun i ⟨hi, hr⟩ => ?_
 try dsimp only
 try dsimp only at hi
 try dsimp only at hr
 repeat apply Sq
 refine J.reg0 hmx (by kernel_rfl) (by kernel_rfl) ?_
 refine Rq (Z0 rfl) ?_
 refine Rq (Z5 rfl) ?_
 refine Rq (Z1 Zc rfl) ?_
 refine Rq (Z7 Zz rfl rfl) ?_
 refine Rq (Z0 rfl) ?_
 refine Rq (Z5 rfl) ?_
 refine Rq (Z1 Zx rfl) ?_
 refine Rq (Z7 ZB rfl rfl) ?_
 refine Rq (Z3q Zo rfl) ?_
 refine Rq (Z1Q rfl rfl) ?_
 refine Rq (Z0 rfl) ?_
 refine Rg rfl rfl rfl (fun hg => Z0 (.inl rfl)) ?_
 refine Rg rfl rfl rfl (fun hg => Z5 (.inr ⟨_, rfl, id⟩)) ?_
 refine Rg rfl rfl rfl (fun hg => Z1 Zx (.inr ⟨_, rfl, id⟩)) ?_
 refine Rg rfl rfl rfl (fun hg => Z7 ZB (.inr ⟨_, rfl, id⟩) rfl) ?_
 refine Rg rfl rfl rfl (fun hg => Z0 (.inl rfl)) ?_
 refine Rg rfl rfl rfl (fun hg => Z5 (.inr ⟨_, rfl, id⟩)) ?_
 refine Rg rfl rfl rfl (fun hg => Z1 Zc (.inr ⟨_, rfl, id⟩)) ?_
 refine Rg rfl rfl rfl (fun hg => Z7 Zz (.inr ⟨_, rfl, id⟩) rfl) ?_
 refine Rg rfl rfl rfl (fun hg => Z2S Zo (.inr ⟨_, rfl, id⟩) (.inr ⟨_, rfl, id⟩) (by have h := hg; simp only [decide_eq_true_eq] at h; omega) (by have h := hg; simp only [decide_eq_true_eq] at h; omega)) ?_
 refine Rg rfl rfl rfl (fun hg => ZW (.inl rfl) (Z7C ⟨#[32, 9, 10, 13]⟩ (sb s i)) (.one (.inl rfl) (.one (.inr ⟨_, rfl, id⟩) .nil))) ?_
 refine Rg rfl rfl rfl (fun hg => Zbc (.inr ⟨_, rfl, id⟩) (.inl rfl)) ?_
 refine Rq (ZK rfl rfl rfl id) ?_
 apply Rn
 refine FinS.nil0 ?_
 repeat first | apply Nx | apply Nb
 refine Sl [0, 24] (.cons rfl (.cons rfl .nil)) ?_
 repeat apply Sq
 refine Cd rfl (fun ht24 => ?_) (fun ht24 => ?_)
 ·
  try simp only [dT, dF] at ht24
  apply Sk
  repeat first | apply Nx | apply Nb
  repeat apply Sq
  apply Bk
  have hlt : i < s.size := by have h := (Z61 ht24).1; simp only [decide_eq_true_eq] at h; omega
  repeat apply Sq
  apply Pn
  refine Jt (Z0 rfl) rfl ?_
  refine Jt (Z5 rfl) rfl ?_
  refine Jt (Z1 Zc rfl) rfl ?_
  refine Jt (Z7 Zz rfl rfl) rfl ?_
  refine Jt (Z17 (cc := ((i + 1 : Nat) : Int)) rfl rfl (by omega) (by omega) (by omega)) rfl ?_
  refine Jt (Z5 rfl) rfl ?_
  refine Jt (Z1 Zc rfl) rfl ?_
  refine JO.m (Zf (cs' := [_, _]) rfl rfl (by repeat first | exact .here | apply Ut) rfl rfl rfl rfl Z2K) (by rfl) ?_
  apply Ni
  repeat refine JX.normal_block ?_
  refine JX.roundG (x := i) (i + 1) ?_ ?_ [0] ?_ ?_ ?_ ?_
  · exact ⟨by omega, by rw [← hr, ZdY (by omega) (Z61 (show (decide ((i : Int) < s.size) && isSp (by_ s i)) = true by rw [← Zg4]; exact ht24)).2]; omega⟩
  · exact (by omega)
  · exact (.cons rfl .nil)
  · repeat (first | exact .all | exact .nil | refine Has.own (by repeat first | exact .here | apply Tl.past | apply Tl.there) ?_ | refine Has.cons (by repeat (first | exact .here | apply Pk.past | apply Pk.there)) ?_)
  · exact fun G hG => by repeat (first | exact hG | refine List.mem_cons_of_mem _ ?_)
  · exact fun _ _ _ => fun _ _ => trivial
 ·
  try simp only [dT, dF] at ht24
  repeat apply Sq
  refine J.exit ?_
  repeat first | refine Ht ?_ | refine Ms rfl ?_ | refine Ep ?_
  repeat first | apply Nx | apply Nb
  exact JX.normal_ret (JX.retM0e rfl HasOwn.mem (by rw [← hr, ZbA fun h => by have h2 : (decide ((i : Int) < s.size) && isSp (by_ s i)) = false := (by rw [← Zg4]; exact ht24); simpa [h] using h2]; rfl))
theorem Z4n (p : UInt8 → Bool) (fv : Value) (hf : Fn1 Tryz.prog fv TT AB (RBB p)) (s : ByteArray) (n : Nat) (hn : n ≤ s.size) (hs : s.size ≤ 9223372036854775806) : CallM Tryz.prog Z7G ZY (sv s n) [] [.rep (FunR fv TT)] (sv s (n + runN p (dr s n))) (.is (.string (s.extract n (n + runN p (dr s n))))) :=
CallM.of (fn := Tryz.f139) Tryz.func139 (n := 50) rfl rfl rfl (fun _ _ => by kernel_rfl) fun E W b0 => by
 refine J.openFun (s := 1) rfl ?_
 repeat apply Sq
 apply Pn
 refine Jt (Z2 rfl) rfl ?_
 apply Ni
 repeat first | apply Nx | apply Nb
 refine Sl [0, 1] (.cons rfl (.cons rfl .nil)) ?_
 repeat apply Sq
 apply Pn
 refine Jt (Z0 rfl) rfl ?_
 refine Jt (Z5 rfl) rfl ?_
 refine Jt (Z1 Zc rfl) rfl ?_
 refine Jt (Z7 Zz rfl rfl) rfl ?_
 refine Jt (Z2 rfl) rfl ?_
 apply Ni
 repeat first | apply Nx | apply Nb
 refine Sl [0, 1, 5] (.cons rfl (.cons rfl (.cons rfl .nil))) ?_
 repeat apply Sq
 apply Bk
 repeat apply Sq
 refine J.loopG (α := Nat) (fun i => [(0, .is (.pointer (some ⟨b0, 0, none⟩))), (1, .is fv), (5, .is (.int .i64 (n : Int)))]) (fun i => [⟨b0, ZY, .is (sv s i)⟩]) (fun i => fun _ => True) (fun i => i ≤ s.size ∧ i + runN p (dr s i) = n + runN p (dr s n)) (fun i => s.size - i) n [0, 1, 5] (.cons rfl (.cons rfl (.cons rfl .nil))) rfl (fun _ => trivial) ⟨hn, rfl⟩ fun i ⟨hi, hr⟩ => ?_
 try dsimp only
 try dsimp only at hi
 try dsimp only at hr
 repeat apply Sq
 refine J.reg0 hmx (by kernel_rfl) (by kernel_rfl) ?_
 refine Rq (Z0 rfl) ?_
 refine Rq (Z5 rfl) ?_
 refine Rq (Z1 Zc rfl) ?_
 refine Rq (Z7 Zz rfl rfl) ?_
 refine Rq (Z0 rfl) ?_
 refine Rq (Z5 rfl) ?_
 refine Rq (Z1 Zx rfl) ?_
 refine Rq (Z7 ZB rfl rfl) ?_
 refine Rq (Z3q Zo rfl) ?_
 refine Rq (Z1Q rfl rfl) ?_
 refine Rq (Z0 rfl) ?_
 refine Rg rfl rfl rfl (fun hg => Z0 (.inl rfl)) ?_
 refine Rg rfl rfl rfl (fun hg => Z0 (.inl rfl)) ?_
 refine Rg rfl rfl rfl (fun hg => Z5 (.inr ⟨_, rfl, id⟩)) ?_
 refine Rg rfl rfl rfl (fun hg => Z1 Zx (.inr ⟨_, rfl, id⟩)) ?_
 refine Rg rfl rfl rfl (fun hg => Z7 ZB (.inr ⟨_, rfl, id⟩) rfl) ?_
 refine Rg rfl rfl rfl (fun hg => Z0 (.inl rfl)) ?_
 refine Rg rfl rfl rfl (fun hg => Z5 (.inr ⟨_, rfl, id⟩)) ?_
 refine Rg rfl rfl rfl (fun hg => Z1 Zc (.inr ⟨_, rfl, id⟩)) ?_
 refine Rg rfl rfl rfl (fun hg => Z7 Zz (.inr ⟨_, rfl, id⟩) rfl) ?_
 refine Rg rfl rfl rfl (fun hg => Z2S Zo (.inr ⟨_, rfl, id⟩) (.inr ⟨_, rfl, id⟩) (by have h := hg; simp only [decide_eq_true_eq] at h; omega) (by have h := hg; simp only [decide_eq_true_eq] at h; omega)) ?_
 refine Rg rfl rfl rfl (fun hg => Zff (by_ s i) (.inr ⟨_, rfl, id⟩) hf (by repeat first | exact Mh | apply Mt) (.inr ⟨_, rfl, id⟩)) ?_
 refine Rq (ZK rfl rfl rfl id) ?_
 apply Rn
 refine FinS.nil0 ?_
 repeat first | apply Nx | apply Nb
 refine Sl [0, 1, 5, 32] (.cons rfl (.cons rfl (.cons rfl (.cons rfl .nil)))) ?_
 repeat apply Sq
 refine Cd rfl (fun ht32 => ?_) (fun ht32 => ?_)
 ·
  try simp only [dT, dF] at ht32
  apply Sk
  repeat first | apply Nx | apply Nb
  repeat apply Sq
  apply Bk
  have hlt : i < s.size := by have h := (Z61 ht32).1; simp only [decide_eq_true_eq] at h; omega
  repeat apply Sq
  apply Pn
  refine Jt (Z0 rfl) rfl ?_
  refine Jt (Z5 rfl) rfl ?_
  refine Jt (Z1 Zc rfl) rfl ?_
  refine Jt (Z7 Zz rfl rfl) rfl ?_
  refine Jt (Z17 (cc := ((i + 1 : Nat) : Int)) rfl rfl (by omega) (by omega) (by omega)) rfl ?_
  refine Jt (Z5 rfl) rfl ?_
  refine Jt (Z1 Zc rfl) rfl ?_
  refine JO.m (Zf (cs' := [_, _]) rfl rfl (by repeat first | exact .here | apply Ut) rfl rfl rfl rfl Z2K) (by rfl) ?_
  apply Ni
  repeat refine JX.normal_block ?_
  refine JX.roundG (x := i) (i + 1) ?_ ?_ [0, 1, 5] ?_ ?_ ?_ ?_
  · exact ⟨by omega, by rw [← hr, ZdY (by omega) (Z61 (show (decide ((i : Int) < s.size) && p (by_ s i)) = true from ht32)).2]; omega⟩
  · exact (by omega)
  · exact (.cons rfl (.cons rfl (.cons rfl .nil)))
  · repeat (first | exact .all | exact .nil | refine Has.own (by repeat first | exact .here | apply Tl.past | apply Tl.there) ?_ | refine Has.cons (by repeat (first | exact .here | apply Pk.past | apply Pk.there)) ?_)
  · exact fun G hG => by repeat (first | exact hG | refine List.mem_cons_of_mem _ ?_)
  · exact fun _ _ _ => fun _ _ => trivial
 ·
  try simp only [dT, dF] at ht32
  repeat apply Sq
  refine J.exit ?_
  repeat first | refine Ht ?_ | refine Ms rfl ?_ | refine Ep ?_
  repeat first | apply Nx | apply Nb
  have he : i = n + runN p (dr s n) := by rw [← hr, ZbA fun h => by have h2 : (decide ((i : Int) < s.size) && p (by_ s i)) = false := ht32; simpa [h] using h2]; rfl
  have hni : n ≤ i := by omega
  repeat apply Sq
  refine J.reg0 hmx (by kernel_rfl) (by kernel_rfl) ?_
  refine Rq (Z0 rfl) ?_
  refine Rq (Z5 rfl) ?_
  refine Rq (Z1 Zx rfl) ?_
  refine Rq (Z7 ZB rfl rfl) ?_
  refine Rq (Z0 rfl) ?_
  refine Rq (Z0 rfl) ?_
  refine Rq (Z5 rfl) ?_
  refine Rq (Z1 Zc rfl) ?_
  refine Rq (Z7 Zz rfl rfl) ?_
  refine Rq (Z7Z Zo rfl rfl rfl (by omega) (by omega) (by omega)) ?_
  refine Rq (Z2 rfl) ?_
  apply Rn
  refine FinS.nil0 ?_
  repeat first | apply Nx | apply Nb
  refine Sl [4] (.cons rfl .nil) ?_
  repeat apply Sq
  apply Rt
  repeat first | apply Rp | apply Rb
  exact JX.retM1e rfl HasOwn.mem rfl (by rw [he]; rfl) (by rw [he])
end Go.Proofs.YtbedigkncjbggaaGreatDoor
