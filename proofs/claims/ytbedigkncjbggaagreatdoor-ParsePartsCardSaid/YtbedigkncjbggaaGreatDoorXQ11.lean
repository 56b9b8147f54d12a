/- All expressions of a statement; a statement is the same as itself. No condition. -/
import Derived.Test.YtbedigkncjbggaaGreatDoorXQ10
import Derived.Test.YtbedigkncjbggaaGreatDoorXG7
set_option maxRecDepth 20000
namespace Go.Proofs.YtbedigkncjbggaaGreatDoor
open Go Go.Vc
open Go.Pz
theorem Zaa : CEq Tryz.prog ZS ZN Z3Y Zdy := ⟨by kernel_rfl, by kernel_rfl, by kernel_rfl, by kernel_rfl, by kernel_rfl, by kernel_rfl, by kernel_rfl⟩
theorem J.pureF {P : Program} {c : Ctx} {K : List (Nat × Ty)} {L : List Own} {Φ : List (World → Prop)} {Q : Exit → Act → World → Prop} {y : Code} {F : World → Prop} (h : F ∈ Φ) (hj : (∃ w, F w) → J P c K L Φ y Q) : J P c K L Φ y Q :=
 ⟨fun X a w hs => (hj ⟨w, (hs.f F h).now⟩).out X a w hs⟩
theorem Zd7 {ps : List (Cel coE)} {l : List Col} (h : ∃ w, CelF coE ps w) (hm : ps.map Cel.x = l) {i : Nat} (hi : i < ps.length) (hi' : i < l.length) : ps[i].cs = [.string (l[i]).nm, .int .i64 (l[i]).ty, .bool (l[i]).nn, .bool (l[i]).un] := by
 obtain ⟨w, hw⟩ := h
 subst hm
 have : ps[i].cs = (ps[i].x).cells := hw _ (List.getElem_mem hi)
 rw [this]; simp [Col.cells]
theorem Zdr {ps : List (Cel stE)} {l : List ByteArray} (h : ∃ w, CelF stE ps w) (hm : ps.map Cel.x = l) {i : Nat} (hi : i < ps.length) (hi' : i < l.length) : ps[i].cs = [.string (l[i])] := by
 obtain ⟨w, hw⟩ := h
 subst hm
 have : ps[i].cs = [.string ps[i].x] := hw _ (List.getElem_mem hi)
 rw [this]; simp
theorem Zh7 {xs : List Ex} {v : Value} {w : World} (h : ExsR xs v w) : ∃ a cap, v = .slice a xs.length cap := by
 obtain ⟨a, len, cap, rfl, hk⟩ := h
 exact ⟨a, cap, by rw [hk.1]⟩
theorem ZdI {ps : List (Cel rwE)} {l : List (List Ex)} (h : ∃ w, CelF rwE ps w) (hm : ps.map Cel.x = l) {i : Nat} (hi : i < ps.length) (hi' : i < l.length) : ∃ a cap, ps[i].cs = [.slice a (l[i]).length cap] := by
 obtain ⟨w, hw⟩ := h
 subst hm
 obtain ⟨v, h1, h2⟩ := hw _ (List.getElem_mem hi)
 obtain ⟨a, cap, rfl⟩ := Zh7 h2
 exact ⟨a, cap, by rw [h1]; simp⟩
theorem Za3 {ps : List (Cel itE)} {l : List Itm} (h : ∃ w, CelF itE ps w) (hm : ps.map Cel.x = l) {i : Nat} (hi : i < ps.length) (hi' : i < l.length) : (ps[i].cs)[0]? = some (.bool (l[i]).all) := by
 obtain ⟨w, hw⟩ := h
 subst hm
 obtain ⟨es, h1, h2⟩ := hw _ (List.getElem_mem hi)
 rw [h1]; simp
theorem Zdb {ps : List (Cel srE)} {l : List Pz.Src} (h : ∃ w, CelF srE ps w) (hm : ps.map Cel.x = l) {i : Nat} (hi : i < ps.length) (hi' : i < l.length) : ∃ a cap, ps[i].cs = [.string (l[i]).tb, .string (l[i]).nm, .slice a (l[i]).on.length cap] := by
 obtain ⟨w, hw⟩ := h
 subst hm
 obtain ⟨v, h1, h2⟩ := hw _ (List.getElem_mem hi)
 obtain ⟨a, cap, rfl⟩ := Zh7 h2
 exact ⟨a, cap, by rw [h1]; simp⟩
theorem Zdh {ps : List (Cel kyE)} {l : List Ky} (h : ∃ w, CelF kyE ps w) (hm : ps.map Cel.x = l) {i : Nat} (hi : i < ps.length) (hi' : i < l.length) : (ps[i].cs)[8]? = some (.bool (l[i]).desc) := by
 obtain ⟨w, hw⟩ := h
 subst hm
 obtain ⟨es, h1, h2⟩ := hw _ (List.getElem_mem hi)
 have h8 := Z8y h2
 rw [h1, List.getElem?_append_right (by omega), h8]; simp
theorem Z8Z (N : Nat) (S0 : Pz.St) (hsm : SmS S0) : CallTy Tryz.prog ZcK [.rep (StR N S0)] (.rep (ExsR (exsOf S0))) :=
  CallTy.of (fn := Tryz.f18) Tryz.func18 (n := 81) rfl rfl rfl (fun _ _ => by kernel_rfl) fun E W => by
  refine J.openSt (s := 0) rfl (fun vc vn vr vi vf vw vg vo vs => ?_)
  have hsm0 := hsm
  obtain ⟨hb1, hb2, hb3, hb4, hb5, hb6, hb7, hb8, hb9, hb10, hb11⟩ := hsm
  refine J.shapeE (xs := S0.rows) (v := vr) (by repeat first | exact Mh | apply Mt) (fun pr ar lr cr br or_ hpr hvr hlr har => ?_)
  refine J.shapeE (xs := S0.items) (v := vi) (by repeat first | exact Mh | apply Mt) (fun pi ai li ci bi oi hpi hvi hli hai => ?_)
  refine J.shapeE (xs := S0.from_) (v := vf) (by repeat first | exact Mh | apply Mt) (fun pf af lf cf bf of_ hpf hvf hlf haf => ?_)
  refine J.shapeE (xs := S0.order) (v := vo) (by repeat first | exact Mh | apply Mt) (fun po ao lo co bo oo hpo hvo hlo hao => ?_)
  refine J.fact (ExsR S0.where_ vw) (fun X w hF _ w' hk => SlE.exs (hF (SlE exE (FX N) S0.where_ vw) (by repeat first | exact Mh | apply Mt) w' hk)) ?_
  refine J.shapeX (xs := S0.where_) (v := vw) (by repeat first | exact Mh | apply Mt) (fun pw aw lw cw bw ow hpw hvw hlw haw => ?_)
  refine J.shapeX (xs := S0.group) (v := vg) (by repeat first | exact Mh | apply Mt) (fun pg ag lg cg bg og hpg hvg hlg hag => ?_)
  refine J.shapeX (xs := S0.sets) (v := vs) (by repeat first | exact Mh | apply Mt) (fun px ax lx cx bx ox hpx hvx hlx hax => ?_)
  subst hvr hvi hvf hvo hvw hvg hvx
  have nr : pr.length = S0.rows.length := by rw [← hpr, List.length_map]
  have ni : pi.length = S0.items.length := by rw [← hpi, List.length_map]
  have nf : pf.length = S0.from_.length := by rw [← hpf, List.length_map]
  have no : po.length = S0.order.length := by rw [← hpo, List.length_map]
  have nw : pw.length = S0.where_.length := by rw [← hpw, List.length_map]
  have ng : pg.length = S0.group.length := by rw [← hpg, List.length_map]
  have nx : px.length = S0.sets.length := by rw [← hpx, List.length_map]
  repeat apply Sq
  apply Pn
  refine JO.box rfl rfl fun b1 => ?_
  refine Jt (Z2 rfl) rfl ?_
  apply Ni
  repeat first | apply Nx | apply Nb
  refine Sl [1] (.cons rfl .nil) ?_
  repeat apply Sq
  apply Pn
  refine Jt (Z2 rfl) rfl ?_
  apply Ni
  repeat first | apply Nx | apply Nb
  refine Sl [1, 3] (.cons rfl (.cons rfl .nil)) ?_
  repeat apply Sq
  apply Pn
  refine Jt (Z2 rfl) rfl ?_
  apply Ni
  repeat first | apply Nx | apply Nb
  refine Sl [1, 3, 4] (.cons rfl (.cons rfl (.cons rfl .nil))) ?_
  repeat apply Sq
  apply Bk
  repeat apply Sq
  refine J.loopH (α := List (Cel exE) × Option (Nat × List Value) × Nat × Nat) (fun z => [(1, .is (.pointer (some ⟨b1, 0, none⟩))), (3, .is (sliceO z.2.1 z.1.length z.2.2.1)), (4, .is (.int .i64 (z.2.2.2 : Nat)))]) (fun z => ownO z.2.1 Z6 [⟨b1, Zw, .is (stV S0 vc vn (.slice ar lr cr) (.slice ai li ci) (.slice af lf cf) (.slice aw lw cw) (.slice ag lg cg) (.slice ao lo co) (.slice ax lx cx))⟩]) (fun z => CelF exE z.1) (fun z => z.2.2.2 ≤ pr.length ∧ Grows Cel.cs 8 z.1 z.2.1 z.2.2.1 ∧ z.1.map Cel.x = ((pr.take z.2.2.2).map Cel.x).flatten ∧ z.1.length ≤ 16 * z.2.2.2) (fun z => pr.length - z.2.2.2) ([], none, 0, 0) [1, 3, 4] (.cons rfl (.cons rfl (.cons rfl .nil))) rfl (fun X w hF => fun w' hk => CelF.nil w') ⟨Nat.zero_le _, rfl, rfl, Nat.zero_le _⟩ fun ⟨qpr, stpr, cappr, i⟩ ⟨hi, hGpr, hmpr, hlpr⟩ => ?_
  try dsimp only
  try dsimp only at stpr
  try dsimp only at cappr
  try dsimp only at i
  try dsimp only at hi
  try dsimp only at hGpr
  try dsimp only at hmpr
  try dsimp only at hlpr
  repeat apply Sq
  apply Pn
  refine Jt (Z0 rfl) rfl ?_
  refine Jt (Z1 Z1D rfl) rfl ?_
  refine Jt (Z4 Z1v rfl rfl) rfl ?_
  refine Jt (Zq Z1x rfl) rfl ?_
  refine Jt (Z1h rfl rfl) rfl ?_
  apply Ni
  repeat first | apply Nx | apply Nb
  refine Sl [1, 3, 4, 12] (.cons rfl (.cons rfl (.cons rfl (.cons rfl .nil)))) ?_
  repeat apply Sq
  refine Cd rfl (fun ht12 => ?_) (fun ht12 => ?_)
  ·
    try simp only [dT, dF] at ht12
    apply Sk
    repeat first | apply Nx | apply Nb
    repeat apply Sq
    apply Bk
    refine J.fact (ExsR pr[i].x (hdv pr[i].cs)) (fun X w hF _ w' hk => Zdw (List.getElem_mem _) (hF (CelF rwE pr) (by repeat first | exact Mh | apply Mt) w' hk)) ?_
    refine J.shapeX (xs := pr[i].x) (v := hdv pr[i].cs) (by repeat first | exact Mh | apply Mt) (fun ps a2 l2 cap0 b2 o2 hps hv2 hl2 ha2 => ?_)
    have hln : ps.length ≤ 16 := by rw [← List.length_map (f := Cel.x), hps]; exact hb2 _ (by rw [← hpr]; exact List.mem_map_of_mem (List.getElem_mem _))
    repeat apply Sq
    apply Pn
    refine Jt (Z0 rfl) rfl ?_
    refine Jt (Z1 Z1D rfl) rfl ?_
    refine Jt (Z4 Z1v rfl rfl) rfl ?_
    refine Jt (Z0 rfl) rfl ?_
    refine Jt (Za Z2q rfl (har (by omega)) rfl (by omega) (by omega)) rfl ?_
    refine Jt (ZI (sz := 1) (j := 0) (enc := Cel.cs) (u := .slice a2 l2 cap0) Zt rfl (by repeat first | exact Mh | apply Mt) (har (by omega)) (List.getElem?_eq_getElem (by omega : i < pr.length)) (by omega) (by rw [Zh1, hv2]; rfl)) rfl ?_
    refine JO.apA (ps) Z1c Cel.hlen .here hGpr rfl rfl (fun L => Z4Y (a := a2) (len := l2) (cap := cap0) Cel.hlen (by decide) (fun p => p.o) Zn (by repeat first | exact Mh | apply Mt)) (by have := hlpr; (try dsimp only at this); omega) (by have := hlpr; (try dsimp only at this); omega) rfl (fun st2 cap2 hG2 => ?_)
    refine Jt (Z2 rfl) rfl ?_
    apply Ni
    repeat first | apply Nx | apply Nb
    refine Sl [1, 3, 4] (.cons rfl (.cons rfl (.cons rfl .nil))) ?_
    repeat apply Sq
    apply Pn
    refine Jt (Z0 rfl) rfl ?_
    refine Jt (ZB (cc := ((i + 1 : Nat) : Int)) rfl rfl (by omega) (by omega) (by omega)) rfl ?_
    refine Jt (Z2 rfl) rfl ?_
    apply Ni
    repeat refine JX.normal_block ?_
    refine JX.roundG (x := (qpr, stpr, cappr, i)) (qpr ++ ps, st2, cap2, i + 1) ?_ ?_ [1, 3, 4] ?_ ?_ ?_ ?_
    · exact ⟨(by show i + 1 ≤ _; omega), hG2, (by show (qpr ++ ps).map Cel.x = _; rw [List.map_append, hmpr, Z3a (by omega)]; simp only [List.map_append, List.map_cons, List.map_nil, List.flatten_append, List.flatten_cons, List.flatten_nil, List.append_nil, List.append_assoc, hps]), (by show (qpr ++ ps).length ≤ _; rw [List.length_append]; have := hlpr; have := hln; (try dsimp only at *); omega)⟩
    · exact (by show pr.length - (i + 1) < pr.length - i; omega)
    · exact (.cons rfl (.cons rfl (.cons rfl .nil)))
    · repeat (first | exact .all | exact .nil | refine Has.own (by repeat first | exact .here | apply Tl.past | apply Tl.there) ?_ | refine Has.cons (by repeat (first | exact .here | apply Pk.past | apply Pk.there)) ?_)
    · exact fun G hG => by repeat (first | exact hG | refine List.mem_cons_of_mem _ ?_)
    · exact fun X w hF => fun w' hk p hp => (List.mem_append.1 hp).elim (fun hp => hF (CelF exE qpr) (by repeat first | exact Mh | apply Mt) w' hk p hp) (fun hp => hF (CelF exE ps) (by repeat first | exact Mh | apply Mt) w' hk p hp)
  ·
    try simp only [dT, dF] at ht12
    repeat apply Sq
    refine J.exit ?_
    repeat first | refine Ht ?_ | refine Ms rfl ?_ | refine Ep ?_
    repeat first | apply Nx | apply Nb
    have hi2 : i = pr.length := by omega
    subst hi2
    rw [List.take_length] at hmpr
    rw [hpr] at hmpr
    repeat apply Sq
    apply Pn
    refine Jt (Z2 rfl) rfl ?_
    apply Ni
    repeat first | apply Nx | apply Nb
    refine Sl [1, 3, 5] (.cons rfl (.cons rfl (.cons rfl .nil))) ?_
    repeat apply Sq
    apply Bk
    repeat apply Sq
    refine J.loopH (α := List (Cel exE) × Option (Nat × List Value) × Nat × Nat) (fun z => [(1, .is (.pointer (some ⟨b1, 0, none⟩))), (3, .is (sliceO z.2.1 z.1.length z.2.2.1)), (5, .is (.int .i64 (z.2.2.2 : Nat)))]) (fun z => ownO z.2.1 Z6 [⟨b1, Zw, .is (stV S0 vc vn (.slice ar lr cr) (.slice ai li ci) (.slice af lf cf) (.slice aw lw cw) (.slice ag lg cg) (.slice ao lo co) (.slice ax lx cx))⟩]) (fun z => CelF exE z.1) (fun z => z.2.2.2 ≤ pi.length ∧ Grows Cel.cs 8 z.1 z.2.1 z.2.2.1 ∧ z.1.map Cel.x = S0.rows.flatten ++ (pi.take z.2.2.2).map (·.x.ex) ∧ z.1.length ≤ 512 + z.2.2.2) (fun z => pi.length - z.2.2.2) (qpr, stpr, cappr, 0) [1, 3, 5] (.cons rfl (.cons rfl (.cons rfl .nil))) rfl (fun X w hF => hF _ (by repeat first | exact Mh | apply Mt)) ⟨Nat.zero_le _, hGpr, (by rw [hmpr]; simp), (by show qpr.length ≤ 512 + 0; have := hlpr; (try dsimp only at this); omega)⟩ fun ⟨qpi, stpi, cappi, i⟩ ⟨hi, hGpi, hmpi, hlpi⟩ => ?_
    try dsimp only
    try dsimp only at stpi
    try dsimp only at cappi
    try dsimp only at i
    try dsimp only at hi
    try dsimp only at hGpi
    try dsimp only at hmpi
    try dsimp only at hlpi
    repeat apply Sq
    apply Pn
    refine Jt (Z0 rfl) rfl ?_
    refine Jt (Z1 Z1q rfl) rfl ?_
    refine Jt (Z4 Z1u rfl rfl) rfl ?_
    refine Jt (Zq Z1T rfl) rfl ?_
    refine Jt (Z1h rfl rfl) rfl ?_
    apply Ni
    repeat first | apply Nx | apply Nb
    refine Sl [1, 3, 5, 26] (.cons rfl (.cons rfl (.cons rfl (.cons rfl .nil)))) ?_
    repeat apply Sq
    refine Cd rfl (fun ht26 => ?_) (fun ht26 => ?_)
    ·
      try simp only [dT, dF] at ht26
      apply Sk
      repeat first | apply Nx | apply Nb
      repeat apply Sq
      apply Bk
      obtain ⟨u1, q1, hq1, hq2, hq3⟩ := Zf5 pi[i]
      obtain ⟨c1, c2, c3, c4, c5, c6, c7, c8, hcs⟩ := cs8 q1
      refine J.fact (CelR q1) (fun X w hF _ w' hk => hq3 pi w' (List.getElem_mem _) (hF (CelF itE pi) (by repeat first | exact Mh | apply Mt) w' hk)) ?_
      repeat apply Sq
      apply Pn
      refine Jt (Z0 rfl) rfl ?_
      refine Jt (Z1 Z1q rfl) rfl ?_
      refine Jt (Z4 Z1u rfl rfl) rfl ?_
      refine Jt (Z0 rfl) rfl ?_
      refine Jt (Za Z2X rfl (hai (by omega)) rfl (by omega) (by omega)) rfl ?_
      refine Jt (Z1 Z7Q rfl) rfl ?_
      refine Jt (ZaE (sz := 9) (i := i) (j := 1) (n := 8) (enc := Cel.cs) (cs := q1.cs) (by rw [q1.h]; exact Ze) rfl (by repeat first | exact Mh | apply Mt) (hai (by omega)) (List.getElem?_eq_getElem (by omega : i < pi.length)) (by omega) (by rw [hq1]; show (List.drop 1 (u1 :: q1.cs)).take 8 = q1.cs; rw [List.drop_one, List.tail_cons, List.take_of_length_le (by rw [q1.h]; exact Nat.le_refl _)])) rfl ?_
      refine Jt (Z2h (p := q1) Z47 ZL rfl (by decide) rfl) rfl ?_
      refine JO.apA ([q1]) Z1c Cel.hlen .here hGpi rfl rfl (srcE q1 Zn) (by have := hlpi; (try dsimp only at this); (try simp only [List.length_singleton]); omega) (by have := hlpi; (try dsimp only at this); (try simp only [List.length_singleton]); omega) rfl (fun st2 cap2 hG2 => ?_)
      refine Jt (Z2 rfl) rfl ?_
      apply Ni
      repeat first | apply Nx | apply Nb
      refine Sl [1, 3, 5] (.cons rfl (.cons rfl (.cons rfl .nil))) ?_
      repeat apply Sq
      apply Pn
      refine Jt (Z0 rfl) rfl ?_
      refine Jt (ZB (cc := ((i + 1 : Nat) : Int)) rfl rfl (by omega) (by omega) (by omega)) rfl ?_
      refine Jt (Z2 rfl) rfl ?_
      apply Ni
      repeat refine JX.normal_block ?_
      refine JX.roundG (x := (qpi, stpi, cappi, i)) (qpi ++ [q1], st2, cap2, i + 1) ?_ ?_ [1, 3, 5] ?_ ?_ ?_ ?_
      · exact ⟨(by show i + 1 ≤ _; omega), hG2, (by show (qpi ++ [q1]).map Cel.x = _; rw [List.map_append, hmpi, Z3a (by omega)]; simp only [List.map_append, List.map_cons, List.map_nil, List.append_assoc, hq2]), (by show (qpi ++ [q1]).length ≤ _; rw [List.length_append]; have := hlpi; have := (show [q1].length ≤ 1 from Nat.le_refl 1); (try dsimp only at *); omega)⟩
      · exact (by show pi.length - (i + 1) < pi.length - i; omega)
      · exact (.cons rfl (.cons rfl (.cons rfl .nil)))
      · repeat (first | exact .all | exact .nil | refine Has.own (by repeat first | exact .here | apply Tl.past | apply Tl.there) ?_ | refine Has.cons (by repeat (first | exact .here | apply Pk.past | apply Pk.there)) ?_)
      · exact fun G hG => by repeat (first | exact hG | refine List.mem_cons_of_mem _ ?_)
      · exact fun X w hF => fun w' hk p hp => (List.mem_append.1 hp).elim (fun hp => hF (CelF exE qpi) (by repeat first | exact Mh | apply Mt) w' hk p hp) (fun hp => by rw [List.mem_singleton.1 hp]; exact hF (CelR q1) (by repeat first | exact Mh | apply Mt) w' hk)
    ·
      try simp only [dT, dF] at ht26
      repeat apply Sq
      refine J.exit ?_
      repeat first | refine Ht ?_ | refine Ms rfl ?_ | refine Ep ?_
      repeat first | apply Nx | apply Nb
      have hi2 : i = pi.length := by omega
      subst hi2
      rw [List.take_length] at hmpi
      repeat apply Sq
      apply Pn
      refine Jt (Z2 rfl) rfl ?_
      apply Ni
      repeat first | apply Nx | apply Nb
      refine Sl [1, 3, 6] (.cons rfl (.cons rfl (.cons rfl .nil))) ?_
      repeat apply Sq
      apply Bk
      repeat apply Sq
      refine J.loopH (α := List (Cel exE) × Option (Nat × List Value) × Nat × Nat) (fun z => [(1, .is (.pointer (some ⟨b1, 0, none⟩))), (3, .is (sliceO z.2.1 z.1.length z.2.2.1)), (6, .is (.int .i64 (z.2.2.2 : Nat)))]) (fun z => ownO z.2.1 Z6 [⟨b1, Zw, .is (stV S0 vc vn (.slice ar lr cr) (.slice ai li ci) (.slice af lf cf) (.slice aw lw cw) (.slice ag lg cg) (.slice ao lo co) (.slice ax lx cx))⟩]) (fun z => CelF exE z.1) (fun z => z.2.2.2 ≤ pf.length ∧ Grows Cel.cs 8 z.1 z.2.1 z.2.2.1 ∧ z.1.map Cel.x = S0.rows.flatten ++ S0.items.map (·.ex) ++ ((pf.take z.2.2.2).map (·.x.on)).flatten ∧ z.1.length ≤ 528 + z.2.2.2) (fun z => pf.length - z.2.2.2) (qpi, stpi, cappi, 0) [1, 3, 6] (.cons rfl (.cons rfl (.cons rfl .nil))) rfl (fun X w hF => hF _ (by repeat first | exact Mh | apply Mt)) ⟨Nat.zero_le _, hGpi, (by rw [hmpi, ← hpi]; first | (simp; done) | (simp; rfl)), (by show qpi.length ≤ 528 + 0; have := hlpi; (try dsimp only at this); omega)⟩ fun ⟨qpf, stpf, cappf, i⟩ ⟨hi, hGpf, hmpf, hlpf⟩ => ?_
      try dsimp only
      try dsimp only at stpf
      try dsimp only at cappf
      try dsimp only at i
      try dsimp only at hi
      try dsimp only at hGpf
      try dsimp only at hmpf
      try dsimp only at hlpf
      repeat apply Sq
      apply Pn
      refine Jt (Z0 rfl) rfl ?_
      refine Jt (Z1 Z11 rfl) rfl ?_
      refine Jt (Z4 ZR rfl rfl) rfl ?_
      refine Jt (Zq Z1S rfl) rfl ?_
      refine Jt (Z1h rfl rfl) rfl ?_
      apply Ni
      repeat first | apply Nx | apply Nb
      refine Sl [1, 3, 6, 42] (.cons rfl (.cons rfl (.cons rfl (.cons rfl .nil)))) ?_
      repeat apply Sq
      refine Cd rfl (fun ht42 => ?_) (fun ht42 => ?_)
      ·
        try simp only [dT, dF] at ht42
        apply Sk
        repeat first | apply Nx | apply Nb
        repeat apply Sq
        apply Bk
        obtain ⟨u1, u2, u3, hq1, hq3⟩ := ZeZ pf[i]
        refine J.fact (ExsR pf[i].x.on u3) (fun X w hF _ w' hk => hq3 pf w' (List.getElem_mem _) (hF (CelF srE pf) (by repeat first | exact Mh | apply Mt) w' hk)) ?_
        refine J.shapeX (xs := pf[i].x.on) (v := u3) (by repeat first | exact Mh | apply Mt) (fun ps a2 l2 cap0 b2 o2 hps hv2 hl2 ha2 => ?_)
        subst hv2
        have hln : ps.length ≤ 1 := by rw [← List.length_map (f := Cel.x), hps]; exact hb5 _ (by rw [← hpf]; exact List.mem_map_of_mem (List.getElem_mem _))
        repeat apply Sq
        apply Pn
        refine Jt (Z0 rfl) rfl ?_
        refine Jt (Z1 Z11 rfl) rfl ?_
        refine Jt (Z4 ZR rfl rfl) rfl ?_
        refine Jt (Z0 rfl) rfl ?_
        refine Jt (Za Z1A rfl (haf (by omega)) rfl (by omega) (by omega)) rfl ?_
        refine Jt (Z1 Z2R rfl) rfl ?_
        refine Jt (ZI (sz := 3) (j := 2) (enc := Cel.cs) (u := .slice a2 l2 cap0) Zt rfl (by repeat first | exact Mh | apply Mt) (haf (by omega)) (List.getElem?_eq_getElem (by omega : i < pf.length)) (by omega) (by rw [hq1]; rfl)) rfl ?_
        refine JO.apA (ps) Z1c Cel.hlen .here hGpf rfl rfl (fun L => Z4Y (a := a2) (len := l2) (cap := cap0) Cel.hlen (by decide) (fun p => p.o) Zn (by repeat first | exact Mh | apply Mt)) (by have := hlpf; (try dsimp only at this); omega) (by have := hlpf; (try dsimp only at this); omega) rfl (fun st2 cap2 hG2 => ?_)
        refine Jt (Z2 rfl) rfl ?_
        apply Ni
        repeat first | apply Nx | apply Nb
        refine Sl [1, 3, 6] (.cons rfl (.cons rfl (.cons rfl .nil))) ?_
        repeat apply Sq
        apply Pn
        refine Jt (Z0 rfl) rfl ?_
        refine Jt (ZB (cc := ((i + 1 : Nat) : Int)) rfl rfl (by omega) (by omega) (by omega)) rfl ?_
        refine Jt (Z2 rfl) rfl ?_
        apply Ni
        repeat refine JX.normal_block ?_
        refine JX.roundG (x := (qpf, stpf, cappf, i)) (qpf ++ ps, st2, cap2, i + 1) ?_ ?_ [1, 3, 6] ?_ ?_ ?_ ?_
        · exact ⟨(by show i + 1 ≤ _; omega), hG2, (by show (qpf ++ ps).map Cel.x = _; rw [List.map_append, hmpf, Z3a (by omega)]; simp only [List.map_append, List.map_cons, List.map_nil, List.flatten_append, List.flatten_cons, List.flatten_nil, List.append_nil, List.append_assoc, hps]), (by show (qpf ++ ps).length ≤ _; rw [List.length_append]; have := hlpf; have := hln; (try dsimp only at *); omega)⟩
        · exact (by show pf.length - (i + 1) < pf.length - i; omega)
        · exact (.cons rfl (.cons rfl (.cons rfl .nil)))
        · repeat (first | exact .all | exact .nil | refine Has.own (by repeat first | exact .here | apply Tl.past | apply Tl.there) ?_ | refine Has.cons (by repeat (first | exact .here | apply Pk.past | apply Pk.there)) ?_)
        · exact fun G hG => by repeat (first | exact hG | refine List.mem_cons_of_mem _ ?_)
        · exact fun X w hF => fun w' hk p hp => (List.mem_append.1 hp).elim (fun hp => hF (CelF exE qpf) (by repeat first | exact Mh | apply Mt) w' hk p hp) (fun hp => hF (CelF exE ps) (by repeat first | exact Mh | apply Mt) w' hk p hp)
      ·
        try simp only [dT, dF] at ht42
        repeat apply Sq
        refine J.exit ?_
        repeat first | refine Ht ?_ | refine Ms rfl ?_ | refine Ep ?_
        repeat first | apply Nx | apply Nb
        have hi2 : i = pf.length := by omega
        subst hi2
        rw [List.take_length] at hmpf
        repeat apply Sq
        apply Pn
        refine Jt (Z2 rfl) rfl ?_
        apply Ni
        repeat first | apply Nx | apply Nb
        refine Sl [1, 3, 7] (.cons rfl (.cons rfl (.cons rfl .nil))) ?_
        repeat apply Sq
        apply Bk
        repeat apply Sq
        refine J.loopH (α := List (Cel exE) × Option (Nat × List Value) × Nat × Nat) (fun z => [(1, .is (.pointer (some ⟨b1, 0, none⟩))), (3, .is (sliceO z.2.1 z.1.length z.2.2.1)), (7, .is (.int .i64 (z.2.2.2 : Nat)))]) (fun z => ownO z.2.1 Z6 [⟨b1, Zw, .is (stV S0 vc vn (.slice ar lr cr) (.slice ai li ci) (.slice af lf cf) (.slice aw lw cw) (.slice ag lg cg) (.slice ao lo co) (.slice ax lx cx))⟩]) (fun z => CelF exE z.1) (fun z => z.2.2.2 ≤ po.length ∧ Grows Cel.cs 8 z.1 z.2.1 z.2.2.1 ∧ z.1.map Cel.x = S0.rows.flatten ++ S0.items.map (·.ex) ++ (S0.from_.map (·.on)).flatten ++ (po.take z.2.2.2).map (·.x.ex) ∧ z.1.length ≤ 532 + z.2.2.2) (fun z => po.length - z.2.2.2) (qpf, stpf, cappf, 0) [1, 3, 7] (.cons rfl (.cons rfl (.cons rfl .nil))) rfl (fun X w hF => hF _ (by repeat first | exact Mh | apply Mt)) ⟨Nat.zero_le _, hGpf, (by rw [hmpf, ← hpf]; first | (simp; done) | (simp; rfl)), (by show qpf.length ≤ 532 + 0; have := hlpf; (try dsimp only at this); omega)⟩ fun ⟨qpo, stpo, cappo, i⟩ ⟨hi, hGpo, hmpo, hlpo⟩ => ?_
        try dsimp only
        try dsimp only at stpo
        try dsimp only at cappo
        try dsimp only at i
        try dsimp only at hi
        try dsimp only at hGpo
        try dsimp only at hmpo
        try dsimp only at hlpo
        repeat apply Sq
        apply Pn
        refine Jt (Z0 rfl) rfl ?_
        refine Jt (Z1 Z1t rfl) rfl ?_
        refine Jt (Z4 Z27 rfl rfl) rfl ?_
        refine Jt (Zq Z2n rfl) rfl ?_
        refine Jt (Z1h rfl rfl) rfl ?_
        apply Ni
        repeat first | apply Nx | apply Nb
        refine Sl [1, 3, 7, 57] (.cons rfl (.cons rfl (.cons rfl (.cons rfl .nil)))) ?_
        repeat apply Sq
        refine Cd rfl (fun ht57 => ?_) (fun ht57 => ?_)
        ·
          try simp only [dT, dF] at ht57
          apply Sk
          repeat first | apply Nx | apply Nb
          repeat apply Sq
          apply Bk
          obtain ⟨u1, q1, hq1, hq2, hq3⟩ := Zfo po[i]
          obtain ⟨c1, c2, c3, c4, c5, c6, c7, c8, hcs⟩ := cs8 q1
          refine J.fact (CelR q1) (fun X w hF _ w' hk => hq3 po w' (List.getElem_mem _) (hF (CelF kyE po) (by repeat first | exact Mh | apply Mt) w' hk)) ?_
          repeat apply Sq
          apply Pn
          refine Jt (Z0 rfl) rfl ?_
          refine Jt (Z1 Z1t rfl) rfl ?_
          refine Jt (Z4 Z27 rfl rfl) rfl ?_
          refine Jt (Z0 rfl) rfl ?_
          refine Jt (Za Z43 rfl (hao (by omega)) rfl (by omega) (by omega)) rfl ?_
          refine Jt (Z1 Z8l rfl) rfl ?_
          refine Jt (ZaE (sz := 9) (i := i) (j := 0) (n := 8) (enc := Cel.cs) (cs := q1.cs) (by rw [q1.h]; exact Ze) rfl (by repeat first | exact Mh | apply Mt) (hao (by omega)) (List.getElem?_eq_getElem (by omega : i < po.length)) (by omega) (by rw [hq1]; show (List.drop 0 (q1.cs ++ [u1])).take 8 = q1.cs; rw [List.drop_zero]; exact List.take_left' q1.h)) rfl ?_
          refine Jt (Z2h (p := q1) Z47 ZL rfl (by decide) rfl) rfl ?_
          refine JO.apA ([q1]) Z1c Cel.hlen .here hGpo rfl rfl (srcE q1 Zn) (by have := hlpo; (try dsimp only at this); (try simp only [List.length_singleton]); omega) (by have := hlpo; (try dsimp only at this); (try simp only [List.length_singleton]); omega) rfl (fun st2 cap2 hG2 => ?_)
          refine Jt (Z2 rfl) rfl ?_
          apply Ni
          repeat first | apply Nx | apply Nb
          refine Sl [1, 3, 7] (.cons rfl (.cons rfl (.cons rfl .nil))) ?_
          repeat apply Sq
          apply Pn
          refine Jt (Z0 rfl) rfl ?_
          refine Jt (ZB (cc := ((i + 1 : Nat) : Int)) rfl rfl (by omega) (by omega) (by omega)) rfl ?_
          refine Jt (Z2 rfl) rfl ?_
          apply Ni
          repeat refine JX.normal_block ?_
          refine JX.roundG (x := (qpo, stpo, cappo, i)) (qpo ++ [q1], st2, cap2, i + 1) ?_ ?_ [1, 3, 7] ?_ ?_ ?_ ?_
          · exact ⟨(by show i + 1 ≤ _; omega), hG2, (by show (qpo ++ [q1]).map Cel.x = _; rw [List.map_append, hmpo, Z3a (by omega)]; simp only [List.map_append, List.map_cons, List.map_nil, List.append_assoc, hq2]), (by show (qpo ++ [q1]).length ≤ _; rw [List.length_append]; have := hlpo; have := (show [q1].length ≤ 1 from Nat.le_refl 1); (try dsimp only at *); omega)⟩
          · exact (by show po.length - (i + 1) < po.length - i; omega)
          · exact (.cons rfl (.cons rfl (.cons rfl .nil)))
          · repeat (first | exact .all | exact .nil | refine Has.own (by repeat first | exact .here | apply Tl.past | apply Tl.there) ?_ | refine Has.cons (by repeat (first | exact .here | apply Pk.past | apply Pk.there)) ?_)
          · exact fun G hG => by repeat (first | exact hG | refine List.mem_cons_of_mem _ ?_)
          · exact fun X w hF => fun w' hk p hp => (List.mem_append.1 hp).elim (fun hp => hF (CelF exE qpo) (by repeat first | exact Mh | apply Mt) w' hk p hp) (fun hp => by rw [List.mem_singleton.1 hp]; exact hF (CelR q1) (by repeat first | exact Mh | apply Mt) w' hk)
        ·
          try simp only [dT, dF] at ht57
          repeat apply Sq
          refine J.exit ?_
          repeat first | refine Ht ?_ | refine Ms rfl ?_ | refine Ep ?_
          repeat first | apply Nx | apply Nb
          have hi2 : i = po.length := by omega
          subst hi2
          rw [List.take_length] at hmpo
          repeat apply Sq
          apply Pn
          refine Jt (Z0 rfl) rfl ?_
          refine Jt (Z1 Z24 rfl) rfl ?_
          refine Jt (Z4 Zt rfl rfl) rfl ?_
          refine JO.apA (pw) Z1c Cel.hlen .here hGpo rfl rfl (fun L => Z4Y (a := aw) (len := lw) (cap := cw) Cel.hlen (by decide) (fun p => p.o) Zn (by repeat first | exact Mh | apply Mt)) (by have := hlpo; (try dsimp only at this); omega) (by have := hlpo; (try dsimp only at this); omega) rfl (fun st4 cap4 hG4 => ?_)
          refine Jt (Z2 rfl) rfl ?_
          apply Ni
          repeat first | apply Nx | apply Nb
          refine Sl [1, 3] (.cons rfl (.cons rfl .nil)) ?_
          repeat apply Sq
          apply Pn
          refine Jt (Z0 rfl) rfl ?_
          refine Jt (Z1 Z3i rfl) rfl ?_
          refine Jt (Z4 Zt rfl rfl) rfl ?_
          refine JO.apA (pg) Z1c Cel.hlen .here hG4 rfl rfl (fun L => Z4Y (a := ag) (len := lg) (cap := cg) Cel.hlen (by decide) (fun p => p.o) Zn (by repeat first | exact Mh | apply Mt)) (by have := hlpo; (try dsimp only at this); simp only [List.length_append]; omega) (by have := hlpo; (try dsimp only at this); simp only [List.length_append]; omega) rfl (fun st5 cap5 hG5 => ?_)
          refine Jt (Z2 rfl) rfl ?_
          apply Ni
          repeat first | apply Nx | apply Nb
          refine Sl [1, 3] (.cons rfl (.cons rfl .nil)) ?_
          repeat apply Sq
          apply Pn
          refine Jt (Z0 rfl) rfl ?_
          refine Jt (Z1 Z3P rfl) rfl ?_
          refine Jt (Z4 Zt rfl rfl) rfl ?_
          refine JO.apA (px) Z1c Cel.hlen .here hG5 rfl rfl (fun L => Z4Y (a := ax) (len := lx) (cap := cx) Cel.hlen (by decide) (fun p => p.o) Zn (by repeat first | exact Mh | apply Mt)) (by have := hlpo; (try dsimp only at this); simp only [List.length_append]; omega) (by have := hlpo; (try dsimp only at this); simp only [List.length_append]; omega) rfl (fun st6 cap6 hG6 => ?_)
          refine Jt (Z2 rfl) rfl ?_
          apply Ni
          repeat first | apply Nx | apply Nb
          refine Sl [2] (.cons rfl .nil) ?_
          repeat apply Sq
          refine J.freezeOMW (N := 0) (e := Z6) (sz := 8) (Nat.zero_le _) Cel.hlen hG6 .here (fun q hq => hq.elim) rfl rfl ?_
          refine J.fact (ExsR (exsOf S0) (sliceO st6 (qpo ++ pw ++ pg ++ px).length cap6)) (fun X w hF _ w' hk => by rw [hG6.sl.1]; exact ⟨_, _, _, rfl, by rw [show exsOf S0 = (qpo ++ pw ++ pg ++ px).map Cel.x from by unfold exsOf; rw [List.map_append, List.map_append, List.map_append, hmpo, hpw, hpg, hpx, ← hpo]; first | (simp; done) | (simp; rfl)]; exact Cel.kids (hF (RowG Cel.cs 8 (qpo ++ pw ++ pg ++ px) (adO st6) (qpo ++ pw ++ pg ++ px).length) (by repeat first | exact Mh | apply Mt) w' hk) (fun p hp => by
                rcases List.mem_append.1 hp with hp | hp
                · rcases List.mem_append.1 hp with hp | hp
                  · rcases List.mem_append.1 hp with hp | hp
                    · exact hF (CelF exE qpo) (by repeat first | exact Mh | apply Mt) w' hk p hp
                    · exact hF (CelF exE pw) (by repeat first | exact Mh | apply Mt) w' hk p hp
                  · exact hF (CelF exE pg) (by repeat first | exact Mh | apply Mt) w' hk p hp
                · exact hF (CelF exE px) (by repeat first | exact Mh | apply Mt) w' hk p hp)⟩) ?_
          apply Rt
          repeat first | apply Rp | apply Rb
          exact JX.ret1sub rfl rfl rfl (Sub.fact (by repeat first | exact Mh | apply Mt))
set_option maxHeartbeats 2000000 in
theorem Zb9 (N N2 : Nat) (S0 : Pz.St) (hsm : SmS S0) : CallTy Tryz.prog Zb5 [.rep (StR N S0), .rep (StR N2 S0)] (.is (.bool true)) :=
  CallTy.of (fn := Tryz.f40) Tryz.func40 (n := 159) rfl rfl rfl (fun _ _ => by kernel_rfl) fun E W => by
  obtain ⟨hb1, hb2, hb3, hb4, hb5, hb6, hb7, hb8, hb9, hb10, hb11⟩ := hsm
  refine J.openSt (s := 0) rfl (fun vc vn vr vi vf vw vg vo vs => ?_)
  refine J.shapeE (xs := S0.cols) (v := vc) (by repeat first | exact Mh | apply Mt) (fun pc ac lc cc bc oc hpc hvc hlc hac => ?_)
  refine J.shapeE (xs := S0.names) (v := vn) (by repeat first | exact Mh | apply Mt) (fun pn an ln cn bn on hpn hvn hln han => ?_)
  refine J.shapeE (xs := S0.rows) (v := vr) (by repeat first | exact Mh | apply Mt) (fun pr ar lr cr br or_ hpr hvr hlr har => ?_)
  refine J.shapeE (xs := S0.items) (v := vi) (by repeat first | exact Mh | apply Mt) (fun pi ai li ci bi oi hpi hvi hli hai => ?_)
  refine J.shapeE (xs := S0.from_) (v := vf) (by repeat first | exact Mh | apply Mt) (fun pf af lf cf bf of_ hpf hvf hlf haf => ?_)
  refine J.shapeE (xs := S0.order) (v := vo) (by repeat first | exact Mh | apply Mt) (fun po ao lo co bo oo hpo hvo hlo hao => ?_)
  refine J.pureF (F := CelF coE pc) (by repeat first | exact Mh | apply Mt) (fun puc => ?_)
  refine J.pureF (F := CelF stE pn) (by repeat first | exact Mh | apply Mt) (fun pun => ?_)
  refine J.pureF (F := CelF rwE pr) (by repeat first | exact Mh | apply Mt) (fun pur => ?_)
  refine J.pureF (F := CelF itE pi) (by repeat first | exact Mh | apply Mt) (fun pui => ?_)
  refine J.pureF (F := CelF srE pf) (by repeat first | exact Mh | apply Mt) (fun puf => ?_)
  refine J.pureF (F := CelF kyE po) (by repeat first | exact Mh | apply Mt) (fun puo => ?_)
  subst hvc hvn hvr hvi hvf hvo
  have nc : pc.length = S0.cols.length := by rw [← hpc, List.length_map]
  have nn : pn.length = S0.names.length := by rw [← hpn, List.length_map]
  have nr : pr.length = S0.rows.length := by rw [← hpr, List.length_map]
  have ni : pi.length = S0.items.length := by rw [← hpi, List.length_map]
  have nf : pf.length = S0.from_.length := by rw [← hpf, List.length_map]
  have no : po.length = S0.order.length := by rw [← hpo, List.length_map]
  refine J.openSt (s := 1) rfl (fun vcz vnz vrz viz vfz vwz vgz voz vsz => ?_)
  refine J.shapeE (xs := S0.cols) (v := vcz) (by repeat first | exact Mh | apply Mt) (fun pcz acz lcz ccz bcz ocz hpcz hvcz hlcz hacz => ?_)
  refine J.shapeE (xs := S0.names) (v := vnz) (by repeat first | exact Mh | apply Mt) (fun pnz anz lnz cnz bnz onz hpnz hvnz hlnz hanz => ?_)
  refine J.shapeE (xs := S0.rows) (v := vrz) (by repeat first | exact Mh | apply Mt) (fun prz arz lrz crz brz orz_ hprz hvrz hlrz harz => ?_)
  refine J.shapeE (xs := S0.items) (v := viz) (by repeat first | exact Mh | apply Mt) (fun piz aiz liz ciz biz oiz hpiz hviz hliz haiz => ?_)
  refine J.shapeE (xs := S0.from_) (v := vfz) (by repeat first | exact Mh | apply Mt) (fun pfz afz lfz cfz bfz ofz_ hpfz hvfz hlfz hafz => ?_)
  refine J.shapeE (xs := S0.order) (v := voz) (by repeat first | exact Mh | apply Mt) (fun poz aoz loz coz boz ooz hpoz hvoz hloz haoz => ?_)
  refine J.pureF (F := CelF coE pcz) (by repeat first | exact Mh | apply Mt) (fun pucz => ?_)
  refine J.pureF (F := CelF stE pnz) (by repeat first | exact Mh | apply Mt) (fun punz => ?_)
  refine J.pureF (F := CelF rwE prz) (by repeat first | exact Mh | apply Mt) (fun purz => ?_)
  refine J.pureF (F := CelF itE piz) (by repeat first | exact Mh | apply Mt) (fun puiz => ?_)
  refine J.pureF (F := CelF srE pfz) (by repeat first | exact Mh | apply Mt) (fun pufz => ?_)
  refine J.pureF (F := CelF kyE poz) (by repeat first | exact Mh | apply Mt) (fun puoz => ?_)
  subst hvcz hvnz hvrz hviz hvfz hvoz
  have ncz : pcz.length = S0.cols.length := by rw [← hpcz, List.length_map]
  have nnz : pnz.length = S0.names.length := by rw [← hpnz, List.length_map]
  have nrz : prz.length = S0.rows.length := by rw [← hprz, List.length_map]
  have niz : piz.length = S0.items.length := by rw [← hpiz, List.length_map]
  have nfz : pfz.length = S0.from_.length := by rw [← hpfz, List.length_map]
  have noz : poz.length = S0.order.length := by rw [← hpoz, List.length_map]
  repeat apply Sq
  apply Pn
  refine JO.box rfl rfl fun b2 => ?_
  refine JO.box rfl rfl fun b3 => ?_
  refine Jt (Z2 rfl) rfl ?_
  apply Ni
  repeat first | apply Nx | apply Nb
  refine Sl [2, 3] (.cons rfl (.cons rfl .nil)) ?_
  repeat apply Sq
  apply Pn
  refine Jt (Z2 rfl) rfl ?_
  apply Ni
  repeat first | apply Nx | apply Nb
  refine Sl [2, 3, 5] (.cons rfl (.cons rfl (.cons rfl .nil))) ?_
  repeat apply Sq
  apply Bk
  repeat apply Sq
  refine J.loopF (α := Nat) (fun k => [(2, _), (3, _), (5, .is (.int .i64 (k : Nat)))]) (fun k => k ≤ lc) (fun k => lc - k) 0 [2, 3, 5] (.cons rfl (.cons rfl (.cons rfl .nil))) (Nat.zero_le _) fun i hi => ?_
  repeat apply Sq
  apply Pn
  refine Jt (Z0 rfl) rfl ?_
  refine Jt (Z1 Z2N rfl) rfl ?_
  refine Jt (Z4 Z2E rfl rfl) rfl ?_
  refine Jt (Zq Z2C rfl) rfl ?_
  refine Jt (Z1h rfl rfl) rfl ?_
  apply Ni
  repeat first | apply Nx | apply Nb
  refine Sl [2, 3, 5, 15] (.cons rfl (.cons rfl (.cons rfl (.cons rfl .nil)))) ?_
  repeat apply Sq
  refine Cd rfl (fun ht15 => ?_) (fun ht15 => ?_)
  ·
    try simp only [dT, dF] at ht15
    apply Sk
    repeat first | apply Nx | apply Nb
    repeat apply Sq
    apply Bk
    have hbi : i < S0.cols.length := by omega
    repeat apply Sq
    refine J.reg0 hmx (by kernel_rfl) (by kernel_rfl) ?_
    refine Rq (Z1 Z2N rfl) ?_
    refine Rq (Z4 Z2E rfl rfl) ?_
    refine Rq (Z0 rfl) ?_
    refine Rq (Za Z63 rfl (hac (by omega)) rfl (by omega) (by omega)) ?_
    refine Rq (Z3A (sz := 4) (i := i) (enc := Cel.cs) (cs := [.string (S0.cols[i]'hbi).nm, .int .i64 (S0.cols[i]'hbi).ty, .bool (S0.cols[i]'hbi).nn, .bool (S0.cols[i]'hbi).un]) Z1F rfl (by repeat first | exact Mh | apply Mt) (hac (by omega)) (List.getElem?_eq_getElem (by omega : i < pc.length)) (by omega) (Zd7 puc hpc _ _)) ?_
    refine Rq (Z1 Z2N rfl) ?_
    refine Rq (Z4 Z2E rfl rfl) ?_
    refine Rq (Z0 rfl) ?_
    refine Rq (Za Z63 rfl (hacz (by omega)) rfl (by omega) (by omega)) ?_
    refine Rq (Z3A (sz := 4) (i := i) (enc := Cel.cs) (cs := [.string (S0.cols[i]'hbi).nm, .int .i64 (S0.cols[i]'hbi).ty, .bool (S0.cols[i]'hbi).nn, .bool (S0.cols[i]'hbi).un]) Z1F rfl (by repeat first | exact Mh | apply Mt) (hacz (by omega)) (List.getElem?_eq_getElem (by omega : i < pcz.length)) (by omega) (Zd7 pucz hpcz _ _)) ?_
    refine Rq (Zij Zaa rfl rfl) ?_
    apply Rn
    refine FinS.nil0 ?_
    repeat first | apply Nx | apply Nb
    refine Sl [2, 3, 5, 28] (.cons rfl (.cons rfl (.cons rfl (.cons rfl .nil)))) ?_
    repeat apply Sq
    refine Cd rfl (fun ht28 => ?_) (fun ht28 => ?_)
    ·
      try simp only [dT, dF] at ht28
      repeat apply Sq
      apply Pn
      refine Jt (Z2 rfl) rfl ?_
      apply Ni
      repeat first | apply Nx | apply Nb
      refine Sl [4] (.cons rfl .nil) ?_
      repeat apply Sq
      apply Rt
      repeat first | apply Rp | apply Rb
      exact JX.ret1is rfl rfl (by exact absurd ht28 (by decide))
    ·
      try simp only [dT, dF] at ht28
      apply Sk
      repeat first | apply Nx | apply Nb
      repeat apply Sq
      apply Pn
      refine Jt (Z0 rfl) rfl ?_
      refine Jt (ZB (cc := ((i + 1 : Nat) : Int)) rfl rfl (by omega) (by omega) (by omega)) rfl ?_
      refine Jt (Z2 rfl) rfl ?_
      apply Ni
      repeat refine JX.normal_block ?_
      refine JX.roundS (i + 1) ?_ ?_ [2, 3, 5] ?_ ?_ ?_
      · exact (by omega)
      · exact (by omega)
      · exact (.cons rfl (.cons rfl (.cons rfl .nil)))
      · repeat (first | exact .slnil | exact List.Sublist.refl _ | apply List.Sublist.cons_cons | apply List.Sublist.cons)
      · repeat (first | exact .slnil | exact List.Sublist.refl _ | apply List.Sublist.cons_cons | apply List.Sublist.cons)
  ·
    try simp only [dT, dF] at ht15
    repeat apply Sq
    refine J.exit ?_
    repeat first | refine Ht ?_ | refine Ms rfl ?_ | refine Ep ?_
    repeat first | apply Nx | apply Nb
    repeat apply Sq
    apply Pn
    refine Jt (Z2 rfl) rfl ?_
    apply Ni
    repeat first | apply Nx | apply Nb
    refine Sl [2, 3, 6] (.cons rfl (.cons rfl (.cons rfl .nil))) ?_
    repeat apply Sq
    apply Bk
    repeat apply Sq
    refine J.loopF (α := Nat) (fun k => [(2, _), (3, _), (6, .is (.int .i64 (k : Nat)))]) (fun k => k ≤ ln) (fun k => ln - k) 0 [2, 3, 6] (.cons rfl (.cons rfl (.cons rfl .nil))) (Nat.zero_le _) fun i hi => ?_
    repeat apply Sq
    apply Pn
    refine Jt (Z0 rfl) rfl ?_
    refine Jt (Z1 Z28 rfl) rfl ?_
    refine Jt (Z4 Z3D rfl rfl) rfl ?_
    refine Jt (Zq Z21 rfl) rfl ?_
    refine Jt (Z1h rfl rfl) rfl ?_
    apply Ni
    repeat first | apply Nx | apply Nb
    refine Sl [2, 3, 6, 33] (.cons rfl (.cons rfl (.cons rfl (.cons rfl .nil)))) ?_
    repeat apply Sq
    refine Cd rfl (fun ht33 => ?_) (fun ht33 => ?_)
    ·
      try simp only [dT, dF] at ht33
      apply Sk
      repeat first | apply Nx | apply Nb
      repeat apply Sq
      apply Bk
      have hbi : i < S0.names.length := by omega
      repeat apply Sq
      refine J.reg0 hmx (by kernel_rfl) (by kernel_rfl) ?_
      refine Rq (Z1 Z28 rfl) ?_
      refine Rq (Z4 Z3D rfl rfl) ?_
      refine Rq (Z0 rfl) ?_
      refine Rq (Za Z33 rfl (han (by omega)) rfl (by omega) (by omega)) ?_
      refine Rq (ZI (sz := 1) (i := i) (j := 0) (enc := @Cel.cs _ stE) (y := pn[i]) (u := .string (S0.names[i]'hbi)) Zu rfl (by repeat first | exact Mh | apply Mt) (han (by omega)) (List.getElem?_eq_getElem (by omega : i < pn.length)) (by omega) (by rw [Zdr pun hpn (by omega) (by omega)]; rfl)) ?_
      refine Rq (Z1 Z28 rfl) ?_
      refine Rq (Z4 Z3D rfl rfl) ?_
      refine Rq (Z0 rfl) ?_
      refine Rq (Za Z33 rfl (hanz (by omega)) rfl (by omega) (by omega)) ?_
      refine Rq (ZI (sz := 1) (i := i) (j := 0) (enc := @Cel.cs _ stE) (y := pnz[i]) (u := .string (S0.names[i]'hbi)) Zu rfl (by repeat first | exact Mh | apply Mt) (hanz (by omega)) (List.getElem?_eq_getElem (by omega : i < pnz.length)) (by omega) (by rw [Zdr punz hpnz (by omega) (by omega)]; rfl)) ?_
      refine Rq (Z3J rfl rfl) ?_
      apply Rn
      refine FinS.nil0 ?_
      repeat first | apply Nx | apply Nb
      refine Sl [2, 3, 6, 46] (.cons rfl (.cons rfl (.cons rfl (.cons rfl .nil)))) ?_
      repeat apply Sq
      refine Cd rfl (fun ht46 => ?_) (fun ht46 => ?_)
      ·
        try simp only [dT, dF] at ht46
        repeat apply Sq
        apply Pn
        refine Jt (Z2 rfl) rfl ?_
        apply Ni
        repeat first | apply Nx | apply Nb
        refine Sl [4] (.cons rfl .nil) ?_
        repeat apply Sq
        apply Rt
        repeat first | apply Rp | apply Rb
        exact JX.ret1is rfl rfl (by exact absurd ht46 (by simp [seq]))
      ·
        try simp only [dT, dF] at ht46
        apply Sk
        repeat first | apply Nx | apply Nb
        repeat apply Sq
        apply Pn
        refine Jt (Z0 rfl) rfl ?_
        refine Jt (ZB (cc := ((i + 1 : Nat) : Int)) rfl rfl (by omega) (by omega) (by omega)) rfl ?_
        refine Jt (Z2 rfl) rfl ?_
        apply Ni
        repeat refine JX.normal_block ?_
        refine JX.roundS (i + 1) ?_ ?_ [2, 3, 6] ?_ ?_ ?_
        · exact (by omega)
        · exact (by omega)
        · exact (.cons rfl (.cons rfl (.cons rfl .nil)))
        · repeat (first | exact .slnil | exact List.Sublist.refl _ | apply List.Sublist.cons_cons | apply List.Sublist.cons)
        · repeat (first | exact .slnil | exact List.Sublist.refl _ | apply List.Sublist.cons_cons | apply List.Sublist.cons)
    ·
      try simp only [dT, dF] at ht33
      repeat apply Sq
      refine J.exit ?_
      repeat first | refine Ht ?_ | refine Ms rfl ?_ | refine Ep ?_
      repeat first | apply Nx | apply Nb
      repeat apply Sq
      apply Pn
      refine Jt (Z2 rfl) rfl ?_
      apply Ni
      repeat first | apply Nx | apply Nb
      refine Sl [2, 3, 7] (.cons rfl (.cons rfl (.cons rfl .nil))) ?_
      repeat apply Sq
      apply Bk
      repeat apply Sq
      refine J.loopF (α := Nat) (fun k => [(2, _), (3, _), (7, .is (.int .i64 (k : Nat)))]) (fun k => k ≤ lr) (fun k => lr - k) 0 [2, 3, 7] (.cons rfl (.cons rfl (.cons rfl .nil))) (Nat.zero_le _) fun i hi => ?_
      repeat apply Sq
      apply Pn
      refine Jt (Z0 rfl) rfl ?_
      refine Jt (Z1 Z1D rfl) rfl ?_
      refine Jt (Z4 Z1v rfl rfl) rfl ?_
      refine Jt (Zq Z1x rfl) rfl ?_
      refine Jt (Z1h rfl rfl) rfl ?_
      apply Ni
      repeat first | apply Nx | apply Nb
      refine Sl [2, 3, 7, 51] (.cons rfl (.cons rfl (.cons rfl (.cons rfl .nil)))) ?_
      repeat apply Sq
      refine Cd rfl (fun ht51 => ?_) (fun ht51 => ?_)
      ·
        try simp only [dT, dF] at ht51
        apply Sk
        repeat first | apply Nx | apply Nb
        repeat apply Sq
        apply Bk
        have hbi : i < S0.rows.length := by omega
        obtain ⟨ax, cx, hcx⟩ := ZdI pur hpr (i := i) (by omega) (by omega)
        obtain ⟨axz, cxz, hcxz⟩ := ZdI purz hprz (i := i) (by omega) (by omega)
        repeat apply Sq
        refine J.reg0 hmx (by kernel_rfl) (by kernel_rfl) ?_
        refine Rq (Z1 Z1D rfl) ?_
        refine Rq (Z4 Z1v rfl rfl) ?_
        refine Rq (Z0 rfl) ?_
        refine Rq (Za Z2q rfl (har (by omega)) rfl (by omega) (by omega)) ?_
        refine Rq (ZI (sz := 1) (i := i) (j := 0) (enc := @Cel.cs _ rwE) (y := pr[i]) (u := .slice ax (S0.rows[i]'hbi).length cx) Zt rfl (by repeat first | exact Mh | apply Mt) (har (by omega)) (List.getElem?_eq_getElem (by omega : i < pr.length)) (by omega) (by rw [hcx]; rfl)) ?_
        refine Rq (Zq Zn rfl) ?_
        refine Rq (Z1 Z1D rfl) ?_
        refine Rq (Z4 Z1v rfl rfl) ?_
        refine Rq (Z0 rfl) ?_
        refine Rq (Za Z2q rfl (harz (by omega)) rfl (by omega) (by omega)) ?_
        refine Rq (ZI (sz := 1) (i := i) (j := 0) (enc := @Cel.cs _ rwE) (y := prz[i]) (u := .slice axz (S0.rows[i]'hbi).length cxz) Zt rfl (by repeat first | exact Mh | apply Mt) (harz (by omega)) (List.getElem?_eq_getElem (by omega : i < prz.length)) (by omega) (by rw [hcxz]; rfl)) ?_
        refine Rq (Zq Zn rfl) ?_
        refine Rq (Z1J rfl rfl) ?_
        apply Rn
        refine FinS.nil0 ?_
        repeat first | apply Nx | apply Nb
        refine Sl [2, 3, 7, 66] (.cons rfl (.cons rfl (.cons rfl (.cons rfl .nil)))) ?_
        repeat apply Sq
        refine Cd rfl (fun ht66 => ?_) (fun ht66 => ?_)
        ·
          try simp only [dT, dF] at ht66
          repeat apply Sq
          apply Pn
          refine Jt (Z2 rfl) rfl ?_
          apply Ni
          repeat first | apply Nx | apply Nb
          refine Sl [4] (.cons rfl .nil) ?_
          repeat apply Sq
          apply Rt
          repeat first | apply Rp | apply Rb
          exact JX.ret1is rfl rfl (by exact absurd ht66 (by simp))
        ·
          try simp only [dT, dF] at ht66
          apply Sk
          repeat first | apply Nx | apply Nb
          repeat apply Sq
          apply Pn
          refine Jt (Z0 rfl) rfl ?_
          refine Jt (ZB (cc := ((i + 1 : Nat) : Int)) rfl rfl (by omega) (by omega) (by omega)) rfl ?_
          refine Jt (Z2 rfl) rfl ?_
          apply Ni
          repeat refine JX.normal_block ?_
          refine JX.roundS (i + 1) ?_ ?_ [2, 3, 7] ?_ ?_ ?_
          · exact (by omega)
          · exact (by omega)
          · exact (.cons rfl (.cons rfl (.cons rfl .nil)))
          · repeat (first | exact .slnil | exact List.Sublist.refl _ | apply List.Sublist.cons_cons | apply List.Sublist.cons)
          · repeat (first | exact .slnil | exact List.Sublist.refl _ | apply List.Sublist.cons_cons | apply List.Sublist.cons)
      ·
        try simp only [dT, dF] at ht51
        repeat apply Sq
        refine J.exit ?_
        repeat first | refine Ht ?_ | refine Ms rfl ?_ | refine Ep ?_
        repeat first | apply Nx | apply Nb
        repeat apply Sq
        apply Pn
        refine Jt (Z2 rfl) rfl ?_
        apply Ni
        repeat first | apply Nx | apply Nb
        refine Sl [2, 3, 8] (.cons rfl (.cons rfl (.cons rfl .nil))) ?_
        repeat apply Sq
        apply Bk
        repeat apply Sq
        refine J.loopF (α := Nat) (fun k => [(2, _), (3, _), (8, .is (.int .i64 (k : Nat)))]) (fun k => k ≤ li) (fun k => li - k) 0 [2, 3, 8] (.cons rfl (.cons rfl (.cons rfl .nil))) (Nat.zero_le _) fun i hi => ?_
        repeat apply Sq
        apply Pn
        refine Jt (Z0 rfl) rfl ?_
        refine Jt (Z1 Z1q rfl) rfl ?_
        refine Jt (Z4 Z1u rfl rfl) rfl ?_
        refine Jt (Zq Z1T rfl) rfl ?_
        refine Jt (Z1h rfl rfl) rfl ?_
        apply Ni
        repeat first | apply Nx | apply Nb
        refine Sl [2, 3, 8, 71] (.cons rfl (.cons rfl (.cons rfl (.cons rfl .nil)))) ?_
        repeat apply Sq
        refine Cd rfl (fun ht71 => ?_) (fun ht71 => ?_)
        ·
          try simp only [dT, dF] at ht71
          apply Sk
          repeat first | apply Nx | apply Nb
          repeat apply Sq
          apply Bk
          have hbi : i < S0.items.length := by omega
          repeat apply Sq
          refine J.reg0 hmx (by kernel_rfl) (by kernel_rfl) ?_
          refine Rq (Z1 Z1q rfl) ?_
          refine Rq (Z4 Z1u rfl rfl) ?_
          refine Rq (Z0 rfl) ?_
          refine Rq (Za Z2X rfl (hai (by omega)) rfl (by omega) (by omega)) ?_
          refine Rq (Z1 Z5m rfl) ?_
          refine Rq (ZI (sz := 9) (i := i) (j := 0) (enc := @Cel.cs _ itE) (y := pi[i]) (u := .bool (S0.items[i]'hbi).all) Z4O rfl (by repeat first | exact Mh | apply Mt) (hai (by omega)) (List.getElem?_eq_getElem (by omega : i < pi.length)) (by omega) (Za3 pui hpi (by omega) (by omega))) ?_
          refine Rq (Z1 Z1q rfl) ?_
          refine Rq (Z4 Z1u rfl rfl) ?_
          refine Rq (Z0 rfl) ?_
          refine Rq (Za Z2X rfl (haiz (by omega)) rfl (by omega) (by omega)) ?_
          refine Rq (Z1 Z5m rfl) ?_
          refine Rq (ZI (sz := 9) (i := i) (j := 0) (enc := @Cel.cs _ itE) (y := piz[i]) (u := .bool (S0.items[i]'hbi).all) Z4O rfl (by repeat first | exact Mh | apply Mt) (haiz (by omega)) (List.getElem?_eq_getElem (by omega : i < piz.length)) (by omega) (Za3 puiz hpiz (by omega) (by omega))) ?_
          refine Rq (Zak Zah rfl rfl) ?_
          apply Rn
          refine FinS.nil0 ?_
          repeat first | apply Nx | apply Nb
          refine Sl [2, 3, 8, 86] (.cons rfl (.cons rfl (.cons rfl (.cons rfl .nil)))) ?_
          repeat apply Sq
          refine Cd rfl (fun ht86 => ?_) (fun ht86 => ?_)
          ·
            try simp only [dT, dF] at ht86
            repeat apply Sq
            apply Pn
            refine Jt (Z2 rfl) rfl ?_
            apply Ni
            repeat first | apply Nx | apply Nb
            refine Sl [4] (.cons rfl .nil) ?_
            repeat apply Sq
            apply Rt
            repeat first | apply Rp | apply Rb
            exact JX.ret1is rfl rfl (by exact absurd ht86 (by simp))
          ·
            try simp only [dT, dF] at ht86
            apply Sk
            repeat first | apply Nx | apply Nb
            repeat apply Sq
            apply Pn
            refine Jt (Z0 rfl) rfl ?_
            refine Jt (ZB (cc := ((i + 1 : Nat) : Int)) rfl rfl (by omega) (by omega) (by omega)) rfl ?_
            refine Jt (Z2 rfl) rfl ?_
            apply Ni
            repeat refine JX.normal_block ?_
            refine JX.roundS (i + 1) ?_ ?_ [2, 3, 8] ?_ ?_ ?_
            · exact (by omega)
            · exact (by omega)
            · exact (.cons rfl (.cons rfl (.cons rfl .nil)))
            · repeat (first | exact .slnil | exact List.Sublist.refl _ | apply List.Sublist.cons_cons | apply List.Sublist.cons)
            · repeat (first | exact .slnil | exact List.Sublist.refl _ | apply List.Sublist.cons_cons | apply List.Sublist.cons)
        ·
          try simp only [dT, dF] at ht71
          repeat apply Sq
          refine J.exit ?_
          repeat first | refine Ht ?_ | refine Ms rfl ?_ | refine Ep ?_
          repeat first | apply Nx | apply Nb
          repeat apply Sq
          apply Pn
          refine Jt (Z2 rfl) rfl ?_
          apply Ni
          repeat first | apply Nx | apply Nb
          refine Sl [2, 3, 9] (.cons rfl (.cons rfl (.cons rfl .nil))) ?_
          repeat apply Sq
          apply Bk
          repeat apply Sq
          refine J.loopF (α := Nat) (fun k => [(2, _), (3, _), (9, .is (.int .i64 (k : Nat)))]) (fun k => k ≤ lf) (fun k => lf - k) 0 [2, 3, 9] (.cons rfl (.cons rfl (.cons rfl .nil))) (Nat.zero_le _) fun i hi => ?_
          repeat apply Sq
          apply Pn
          refine Jt (Z0 rfl) rfl ?_
          refine Jt (Z1 Z11 rfl) rfl ?_
          refine Jt (Z4 ZR rfl rfl) rfl ?_
          refine Jt (Zq Z1S rfl) rfl ?_
          refine Jt (Z1h rfl rfl) rfl ?_
          apply Ni
          repeat first | apply Nx | apply Nb
          refine Sl [2, 3, 9, 91] (.cons rfl (.cons rfl (.cons rfl (.cons rfl .nil)))) ?_
          repeat apply Sq
          refine Cd rfl (fun ht91 => ?_) (fun ht91 => ?_)
          ·
            try simp only [dT, dF] at ht91
            apply Sk
            repeat first | apply Nx | apply Nb
            repeat apply Sq
            apply Bk
            have hbi : i < S0.from_.length := by omega
            obtain ⟨ay, cy, hcy⟩ := Zdb puf hpf (i := i) (by omega) (by omega)
            obtain ⟨ayz, cyz, hcyz⟩ := Zdb pufz hpfz (i := i) (by omega) (by omega)
            repeat apply Sq
            refine J.reg0 hmx (by kernel_rfl) (by kernel_rfl) ?_
            refine Rq (Z1 Z11 rfl) ?_
            refine Rq (Z4 ZR rfl rfl) ?_
            refine Rq (Z0 rfl) ?_
            refine Rq (Za Z1A rfl (haf (by omega)) rfl (by omega) (by omega)) ?_
            refine Rq (Z1 Z6D rfl) ?_
            refine Rq (ZI (sz := 3) (i := i) (j := 0) (enc := @Cel.cs _ srE) (y := pf[i]) (u := .string (S0.from_[i]'hbi).tb) Zu rfl (by repeat first | exact Mh | apply Mt) (haf (by omega)) (List.getElem?_eq_getElem (by omega : i < pf.length)) (by omega) (by rw [hcy]; rfl)) ?_
            refine Rq (Z1 Z11 rfl) ?_
            refine Rq (Z4 ZR rfl rfl) ?_
            refine Rq (Z0 rfl) ?_
            refine Rq (Za Z1A rfl (hafz (by omega)) rfl (by omega) (by omega)) ?_
            refine Rq (Z1 Z6D rfl) ?_
            refine Rq (ZI (sz := 3) (i := i) (j := 0) (enc := @Cel.cs _ srE) (y := pfz[i]) (u := .string (S0.from_[i]'hbi).tb) Zu rfl (by repeat first | exact Mh | apply Mt) (hafz (by omega)) (List.getElem?_eq_getElem (by omega : i < pfz.length)) (by omega) (by rw [hcyz]; rfl)) ?_
            refine Rq (Z3J rfl rfl) ?_
            refine Rq (Z0 rfl) ?_
            refine Rg rfl rfl rfl (fun hg => Z1 Z11 (.inl rfl)) ?_
            refine Rg rfl rfl rfl (fun hg => Z4 ZR (.inr ⟨_, rfl, id⟩) rfl) ?_
            refine Rg rfl rfl rfl (fun hg => Z0 (.inl rfl)) ?_
            refine Rg rfl rfl rfl (fun hg => Za Z1A (.inr ⟨_, rfl, id⟩) (haf (by omega)) (.inr ⟨_, rfl, id⟩) (by omega) (by omega)) ?_
            refine Rg rfl rfl rfl (fun hg => Z1 Z4B (.inr ⟨_, rfl, id⟩)) ?_
            refine Rg rfl rfl rfl (fun hg => ZI (sz := 3) (i := i) (j := 1) (enc := @Cel.cs _ srE) (y := pf[i]) (u := .string (S0.from_[i]'hbi).nm) Zu (.inr ⟨_, rfl, id⟩) (by repeat first | exact Mh | apply Mt) (haf (by omega)) (List.getElem?_eq_getElem (by omega : i < pf.length)) (by omega) (by rw [hcy]; rfl)) ?_
            refine Rg rfl rfl rfl (fun hg => Z1 Z11 (.inl rfl)) ?_
            refine Rg rfl rfl rfl (fun hg => Z4 ZR (.inr ⟨_, rfl, id⟩) rfl) ?_
            refine Rg rfl rfl rfl (fun hg => Z0 (.inl rfl)) ?_
            refine Rg rfl rfl rfl (fun hg => Za Z1A (.inr ⟨_, rfl, id⟩) (hafz (by omega)) (.inr ⟨_, rfl, id⟩) (by omega) (by omega)) ?_
            refine Rg rfl rfl rfl (fun hg => Z1 Z4B (.inr ⟨_, rfl, id⟩)) ?_
            refine Rg rfl rfl rfl (fun hg => ZI (sz := 3) (i := i) (j := 1) (enc := @Cel.cs _ srE) (y := pfz[i]) (u := .string (S0.from_[i]'hbi).nm) Zu (.inr ⟨_, rfl, id⟩) (by repeat first | exact Mh | apply Mt) (hafz (by omega)) (List.getElem?_eq_getElem (by omega : i < pfz.length)) (by omega) (by rw [hcyz]; rfl)) ?_
            refine Rg rfl rfl rfl (fun hg => Z3J (.inr ⟨_, rfl, id⟩) (.inr ⟨_, rfl, id⟩)) ?_
            refine Rq (ZM rfl rfl rfl id) ?_
            refine Rq (Z0 rfl) ?_
            refine Rg rfl rfl rfl (fun hg => Z1 Z11 (.inl rfl)) ?_
            refine Rg rfl rfl rfl (fun hg => Z4 ZR (.inr ⟨_, rfl, id⟩) rfl) ?_
            refine Rg rfl rfl rfl (fun hg => Z0 (.inl rfl)) ?_
            refine Rg rfl rfl rfl (fun hg => Za Z1A (.inr ⟨_, rfl, id⟩) (haf (by omega)) (.inr ⟨_, rfl, id⟩) (by omega) (by omega)) ?_
            refine Rg rfl rfl rfl (fun hg => Z1 Z2R (.inr ⟨_, rfl, id⟩)) ?_
            refine Rg rfl rfl rfl (fun hg => ZI (sz := 3) (i := i) (j := 2) (enc := @Cel.cs _ srE) (y := pf[i]) (u := .slice ay (S0.from_[i]'hbi).on.length cy) Zt (.inr ⟨_, rfl, id⟩) (by repeat first | exact Mh | apply Mt) (haf (by omega)) (List.getElem?_eq_getElem (by omega : i < pf.length)) (by omega) (by rw [hcy]; rfl)) ?_
            refine Rg rfl rfl rfl (fun hg => Zq Zn (.inr ⟨_, rfl, id⟩)) ?_
            refine Rg rfl rfl rfl (fun hg => Z1 Z11 (.inl rfl)) ?_
            refine Rg rfl rfl rfl (fun hg => Z4 ZR (.inr ⟨_, rfl, id⟩) rfl) ?_
            refine Rg rfl rfl rfl (fun hg => Z0 (.inl rfl)) ?_
            refine Rg rfl rfl rfl (fun hg => Za Z1A (.inr ⟨_, rfl, id⟩) (hafz (by omega)) (.inr ⟨_, rfl, id⟩) (by omega) (by omega)) ?_
            refine Rg rfl rfl rfl (fun hg => Z1 Z2R (.inr ⟨_, rfl, id⟩)) ?_
            refine Rg rfl rfl rfl (fun hg => ZI (sz := 3) (i := i) (j := 2) (enc := @Cel.cs _ srE) (y := pfz[i]) (u := .slice ayz (S0.from_[i]'hbi).on.length cyz) Zt (.inr ⟨_, rfl, id⟩) (by repeat first | exact Mh | apply Mt) (hafz (by omega)) (List.getElem?_eq_getElem (by omega : i < pfz.length)) (by omega) (by rw [hcyz]; rfl)) ?_
            refine Rg rfl rfl rfl (fun hg => Zq Zn (.inr ⟨_, rfl, id⟩)) ?_
            refine Rg rfl rfl rfl (fun hg => Z1J (.inr ⟨_, rfl, id⟩) (.inr ⟨_, rfl, id⟩)) ?_
            refine Rq (ZM rfl rfl rfl id) ?_
            apply Rn
            refine FinS.nil0 ?_
            repeat first | apply Nx | apply Nb
            refine Sl [2, 3, 9, 138] (.cons rfl (.cons rfl (.cons rfl (.cons rfl .nil)))) ?_
            repeat apply Sq
            refine Cd rfl (fun ht138 => ?_) (fun ht138 => ?_)
            ·
              try simp only [dT, dF] at ht138
              repeat apply Sq
              apply Pn
              refine Jt (Z2 rfl) rfl ?_
              apply Ni
              repeat first | apply Nx | apply Nb
              refine Sl [4] (.cons rfl .nil) ?_
              repeat apply Sq
              apply Rt
              repeat first | apply Rp | apply Rb
              exact JX.ret1is rfl rfl (by exact absurd ht138 (by simp [seq]))
            ·
              try simp only [dT, dF] at ht138
              apply Sk
              repeat first | apply Nx | apply Nb
              repeat apply Sq
              apply Pn
              refine Jt (Z0 rfl) rfl ?_
              refine Jt (ZB (cc := ((i + 1 : Nat) : Int)) rfl rfl (by omega) (by omega) (by omega)) rfl ?_
              refine Jt (Z2 rfl) rfl ?_
              apply Ni
              repeat refine JX.normal_block ?_
              refine JX.roundS (i + 1) ?_ ?_ [2, 3, 9] ?_ ?_ ?_
              · exact (by omega)
              · exact (by omega)
              · exact (.cons rfl (.cons rfl (.cons rfl .nil)))
              · repeat (first | exact .slnil | exact List.Sublist.refl _ | apply List.Sublist.cons_cons | apply List.Sublist.cons)
              · repeat (first | exact .slnil | exact List.Sublist.refl _ | apply List.Sublist.cons_cons | apply List.Sublist.cons)
          ·
            try simp only [dT, dF] at ht91
            repeat apply Sq
            refine J.exit ?_
            repeat first | refine Ht ?_ | refine Ms rfl ?_ | refine Ep ?_
            repeat first | apply Nx | apply Nb
            repeat apply Sq
            apply Pn
            refine Jt (Z2 rfl) rfl ?_
            apply Ni
            repeat first | apply Nx | apply Nb
            refine Sl [2, 3, 10] (.cons rfl (.cons rfl (.cons rfl .nil))) ?_
            repeat apply Sq
            apply Bk
            repeat apply Sq
            refine J.loopF (α := Nat) (fun k => [(2, _), (3, _), (10, .is (.int .i64 (k : Nat)))]) (fun k => k ≤ lo) (fun k => lo - k) 0 [2, 3, 10] (.cons rfl (.cons rfl (.cons rfl .nil))) (Nat.zero_le _) fun i hi => ?_
            repeat apply Sq
            apply Pn
            refine Jt (Z0 rfl) rfl ?_
            refine Jt (Z1 Z1t rfl) rfl ?_
            refine Jt (Z4 Z27 rfl rfl) rfl ?_
            refine Jt (Zq Z2n rfl) rfl ?_
            refine Jt (Z1h rfl rfl) rfl ?_
            apply Ni
            repeat first | apply Nx | apply Nb
            refine Sl [2, 3, 10, 143] (.cons rfl (.cons rfl (.cons rfl (.cons rfl .nil)))) ?_
            repeat apply Sq
            refine Cd rfl (fun ht143 => ?_) (fun ht143 => ?_)
            ·
              try simp only [dT, dF] at ht143
              apply Sk
              repeat first | apply Nx | apply Nb
              repeat apply Sq
              apply Bk
              have hbi : i < S0.order.length := by omega
              repeat apply Sq
              refine J.reg0 hmx (by kernel_rfl) (by kernel_rfl) ?_
              refine Rq (Z1 Z1t rfl) ?_
              refine Rq (Z4 Z27 rfl rfl) ?_
              refine Rq (Z0 rfl) ?_
              refine Rq (Za Z43 rfl (hao (by omega)) rfl (by omega) (by omega)) ?_
              refine Rq (Z1 Z64 rfl) ?_
              refine Rq (ZI (sz := 9) (i := i) (j := 8) (enc := @Cel.cs _ kyE) (y := po[i]) (u := .bool (S0.order[i]'hbi).desc) Z4O rfl (by repeat first | exact Mh | apply Mt) (hao (by omega)) (List.getElem?_eq_getElem (by omega : i < po.length)) (by omega) (Zdh puo hpo (by omega) (by omega))) ?_
              refine Rq (Z1 Z1t rfl) ?_
              refine Rq (Z4 Z27 rfl rfl) ?_
              refine Rq (Z0 rfl) ?_
              refine Rq (Za Z43 rfl (haoz (by omega)) rfl (by omega) (by omega)) ?_
              refine Rq (Z1 Z64 rfl) ?_
              refine Rq (ZI (sz := 9) (i := i) (j := 8) (enc := @Cel.cs _ kyE) (y := poz[i]) (u := .bool (S0.order[i]'hbi).desc) Z4O rfl (by repeat first | exact Mh | apply Mt) (haoz (by omega)) (List.getElem?_eq_getElem (by omega : i < poz.length)) (by omega) (Zdh puoz hpoz (by omega) (by omega))) ?_
              refine Rq (Zak Zah rfl rfl) ?_
              apply Rn
              refine FinS.nil0 ?_
              repeat first | apply Nx | apply Nb
              refine Sl [2, 3, 10, 158] (.cons rfl (.cons rfl (.cons rfl (.cons rfl .nil)))) ?_
              repeat apply Sq
              refine Cd rfl (fun ht158 => ?_) (fun ht158 => ?_)
              ·
                try simp only [dT, dF] at ht158
                repeat apply Sq
                apply Pn
                refine Jt (Z2 rfl) rfl ?_
                apply Ni
                repeat first | apply Nx | apply Nb
                refine Sl [4] (.cons rfl .nil) ?_
                repeat apply Sq
                apply Rt
                repeat first | apply Rp | apply Rb
                exact JX.ret1is rfl rfl (by exact absurd ht158 (by simp))
              ·
                try simp only [dT, dF] at ht158
                apply Sk
                repeat first | apply Nx | apply Nb
                repeat apply Sq
                apply Pn
                refine Jt (Z0 rfl) rfl ?_
                refine Jt (ZB (cc := ((i + 1 : Nat) : Int)) rfl rfl (by omega) (by omega) (by omega)) rfl ?_
                refine Jt (Z2 rfl) rfl ?_
                apply Ni
                repeat refine JX.normal_block ?_
                refine JX.roundS (i + 1) ?_ ?_ [2, 3, 10] ?_ ?_ ?_
                · exact (by omega)
                · exact (by omega)
                · exact (.cons rfl (.cons rfl (.cons rfl .nil)))
                · repeat (first | exact .slnil | exact List.Sublist.refl _ | apply List.Sublist.cons_cons | apply List.Sublist.cons)
                · repeat (first | exact .slnil | exact List.Sublist.refl _ | apply List.Sublist.cons_cons | apply List.Sublist.cons)
            ·
              try simp only [dT, dF] at ht143
              repeat apply Sq
              refine J.exit ?_
              repeat first | refine Ht ?_ | refine Ms rfl ?_ | refine Ep ?_
              repeat first | apply Nx | apply Nb
              repeat apply Sq
              apply Pn
              refine Jt (Z2 rfl) rfl ?_
              apply Ni
              repeat first | apply Nx | apply Nb
              refine Sl [4] (.cons rfl .nil) ?_
              repeat apply Sq
              apply Rt
              repeat first | apply Rp | apply Rb
              exact JX.ret1is rfl rfl (rfl)
end Go.Proofs.YtbedigkncjbggaaGreatDoor
