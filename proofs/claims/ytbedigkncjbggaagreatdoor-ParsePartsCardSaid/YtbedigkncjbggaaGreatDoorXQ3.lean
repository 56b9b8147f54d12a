/- The parser: NOT, comparisons, IS. No condition. -/
import Derived.Test.YtbedigkncjbggaaGreatDoorXQ2
import Derived.Test.YtbedigkncjbggaaGreatDoorXG7
set_option maxRecDepth 20000
namespace Go.Proofs.YtbedigkncjbggaaGreatDoor
open Go Go.Vc
open Go.Pz
theorem ZeG {e : Ps Ex} {ts : List T3} (h : isT 1 Z29 ts = true) : notP e ts = (notP e ts.tail).map fun z => (nd 4 [z.1], z.2) := by
 obtain ⟨t, r, rfl, _⟩ := Z53 h
 rw [notP, if_pos h]; rfl
theorem Z5g {e : Ps Ex} {ts : List T3} (h : isT 1 Z29 ts = false) : notP e ts = (sumP e ts).bind fun z => cmpP e z.1 z.2 := by
 cases ts with
 | nil => rw [notP]
 | cons t r => rw [notP, if_neg (by rw [h]; decide)]
abbrev cmpV : List Value := [.string s_eq, .string s_ne, .string s_lt, .string s_le, .string s_gt, .string s_ge]
theorem ZiH {i : Nat} (h : i < 6) : cmpV[0 + ((i : Nat) : Int).toNat * 1]? = some (.string (cmpO.getD i (em, 0)).1) := by
  match i, h with
  | 0, _ => rfl
  | 1, _ => rfl
  | 2, _ => rfl
  | 3, _ => rfl
  | 4, _ => rfl
  | 5, _ => rfl
theorem Zj9 {i : Nat} (h : i < 6) : IntKind.i64.wrap (10 + ((i : Nat) : Int)) = (cmpO.getD i (em, 0)).2 := by
  match i, h with
  | 0, _ => rfl
  | 1, _ => rfl
  | 2, _ => rfl
  | 3, _ => rfl
  | 4, _ => rfl
  | 5, _ => rfl
theorem asc {s : ByteArray} (h : s.data.toList.all (fun b => decide (b.toNat < 128)) = true) (j : Nat) (b : UInt8) (hb : s.data.toList[j]? = some b) : b.toNat < 128 := of_decide_eq_true (List.all_eq_true.1 h b (List.mem_of_getElem? hb))
theorem Z5w (T : Tk) (hc : T.ts.length ≤ T.cap) (b : Nat) (ts : List T3) (hts : ts <:+ T.ts) (e : Ps Ex) (he : Dn0 e) (hsum : ∀ us, us <:+ T.ts → us.length ≤ ts.length → CallP Tryz.prog Z2s [PB T b (us)] [T.G, AF] [.is (.pointer (some ⟨b, 0, none⟩))] (sumP e (us) = none) flt (fun z : Ex × List T3 => sumP e (us) = some z) (fun z => [PB T b z.2]) (fun z => .rep (ExR z.1))) (ih : ∀ us, us <:+ T.ts → us.length < ts.length → CallP Tryz.prog Z1H [PB T b (us)] [T.G, AF] [.is (.pointer (some ⟨b, 0, none⟩))] (notP e (us) = none) flt (fun z : Ex × List T3 => notP e (us) = some z) (fun z => [PB T b z.2]) (fun z => .rep (ExR z.1))) : CallP Tryz.prog Z1H [PB T b ts] [T.G, AF] [.is (.pointer (some ⟨b, 0, none⟩))] (notP e ts = none) flt (fun z : Ex × List T3 => notP e ts = some z) (fun z => [PB T b z.2]) (fun z => .rep (ExR z.1)) :=
CallP.of (fn := Tryz.f165) Tryz.func165 (n := 48) rfl rfl rfl (fun _ _ => by kernel_rfl) fun E W hb0 => by
 repeat apply Sq
 apply Pn
 refine JO.alloc Z16 rfl fun b2 => ?_
 apply Ni
 repeat first | apply Nx | apply Nb
 refine Sl [0, 2] (.cons rfl (.cons rfl .nil)) ?_
 repeat apply Sq
 apply Pn
 refine Jt (Z0 rfl) rfl ?_
 refine JO.callK (Lr := [_]) (Zd T hc b ts hts Z29) rfl (.swap _ _ _) (fun F hF => by repeat (first | (rcases Mc.1 hF with rfl | hF; · (repeat first | exact Mh | apply Mt)) | (cases hF; done))) (.one rfl (.one rfl .nil)) ?_
 intro _ _
 try dsimp only [nA, cA]
 apply Ni
 repeat first | apply Nx | apply Nb
 refine Sl [0, 2, 7] (.cons rfl (.cons rfl (.cons rfl .nil))) ?_
 repeat apply Sq
 refine Cd rfl (fun ht7 => ?_) (fun ht7 => ?_)
 ·
  try simp only [dT, dF] at ht7
  have hnn : isT 1 Z29 ts = true := ht7
  rw [ZO hnn]
  repeat apply Sq
  apply Pn
  refine Jt (Z0 rfl) rfl ?_
  refine JO.callPK (Lr := [_]) (ih ts.tail (Zi hts) (Zr hnn).2) rfl (.refl _) (fun F hF => by repeat (first | (rcases Mc.1 hF with rfl | hF; · (repeat first | exact Mh | apply Mt)) | (cases hF; done))) (.one rfl .nil) (fun hbad => ?_) ?_
  · exact JX.pnI (by rw [ZeG hnn, hbad]; rfl)
  intro z hz
  try dsimp only [nA, cA]
  refine Jt (Z3o ZL rfl) rfl ?_
  refine Jt (ZK rfl (Z2g 4 [z.1]) (.one rfl (.one rfl .nil))) rfl ?_
  refine JO.m (Z3 rfl rfl (by repeat first | exact .here | apply Ut) (by first | exact cI rfl rfl | exact cE) (by first | exact cI rfl rfl | exact cE | exact cO) Zo) (by rfl) ?_
  apply Ni
  repeat first | apply Nx | apply Nb
  refine Sl [2] (.cons rfl .nil) ?_
  repeat apply Sq
  apply Rt
  repeat first | apply Rp | apply Rb
  refine JX.toP ?_
  exact JX.retLCs (Lr := [_]) (L1 := fun z : Ex × List T3 => [PB T b z.2]) (R := fun z => .rep (ExR z.1)) rfl (nd 4 [z.1], z.2) (by rw [ZeG hnn, hz]; rfl) (.refl _) rfl rfl hb0 rfl Ze HasOwn.mem Z1s (Sub.refl _)
 ·
  try simp only [dT, dF] at ht7
  apply Sk
  repeat first | apply Nx | apply Nb
  have hnn : isT 1 Z29 ts = false := ht7
  rw [ZQ hnn]
  repeat apply Sq
  apply Pn
  refine Jt (Z0 rfl) rfl ?_
  refine JO.callPK (Lr := [_]) (hsum ts hts (Nat.le_refl _)) rfl (.refl _) (fun F hF => by repeat (first | (rcases Mc.1 hF with rfl | hF; · (repeat first | exact Mh | apply Mt)) | (cases hF; done))) (.one rfl .nil) (fun hbad => ?_) ?_
  · exact JX.pnI (by rw [Z5g hnn, hbad]; rfl)
  intro z1 hz1
  try dsimp only [nA, cA]
  refine JO.alloc Z16 rfl fun b3 => ?_
  refine JO.m (Z3 rfl rfl (by repeat first | exact .here | apply Ut) (by first | exact cI rfl rfl | exact cE) (by first | exact cI rfl rfl | exact cE | exact cO) Zo) (by rfl) ?_
  apply Ni
  repeat first | apply Nx | apply Nb
  refine Sl [0, 2, 3] (.cons rfl (.cons rfl (.cons rfl .nil))) ?_
  repeat apply Sq
  apply Pn
  refine Jt (ZF (cs := [_, _, _, _, _, _]) Z1Y (by omega) (by omega) (.cons rfl (.cons rfl (.cons rfl (.cons rfl (.cons rfl (.cons rfl .nil)))))) rfl rfl rfl) rfl ?_
  refine JO.openNew (s := 14) rfl (fun r14 => ?_)
  refine Jt (Zq Z21 rfl) rfl ?_
  refine Jt (Z0 rfl) rfl ?_
  apply Ni
  repeat first | apply Nx | apply Nb
  refine Sl [0, 2, 3, 14, 15, 16] (.cons rfl (.cons rfl (.cons rfl (.cons rfl (.cons rfl (.cons rfl .nil)))))) ?_
  repeat apply Sq
  apply Bk
  repeat apply Sq
  refine J.loopG (α := Nat) (fun i => [(0, .is (.pointer (some ⟨b, 0, none⟩))), (2, .is (.pointer (some ⟨b2, 0, none⟩))), (3, .is (.pointer (some ⟨b3, 0, none⟩))), (14, .is (.slice (some ⟨r14, 0, none⟩) 6 6)), (15, .is (.int .i64 6)), (16, .is (.int .i64 (i : Int)))]) (fun i => [⟨b3, Z6, .rep (ExR z1.1)⟩, PB T b z1.2, ⟨b2, Z6, .is (.agg #[.int .i64 0, .int .i64 0, .int .i64 0, .string ⟨#[]⟩, .string ⟨#[]⟩, .string ⟨#[]⟩, .int .i64 0, .slice none 0 0])⟩]) (fun i => fun _ => True) (fun i => i ≤ 6 ∧ opOf 5 (cmpO.drop i) z1.2 = opOf 5 cmpO z1.2) (fun i => 6 - i) 0 [0, 2, 3, 14, 15, 16] (.cons rfl (.cons rfl (.cons rfl (.cons rfl (.cons rfl (.cons rfl .nil)))))) rfl (fun _ => trivial) ⟨by omega, rfl⟩ fun i ⟨hi, hO⟩ => ?_
  try dsimp only
  try dsimp only at hi
  try dsimp only at hO
  repeat apply Sq
  apply Pn
  refine Jt (Z1h rfl rfl) rfl ?_
  apply Ni
  repeat first | apply Nx | apply Nb
  refine Sl [0, 2, 3, 14, 15, 16, 17] (.cons rfl (.cons rfl (.cons rfl (.cons rfl (.cons rfl (.cons rfl (.cons rfl .nil))))))) ?_
  repeat apply Sq
  refine Cd rfl (fun ht17 => ?_) (fun ht17 => ?_)
  ·
   try simp only [dT, dF] at ht17
   apply Sk
   repeat first | apply Nx | apply Nb
   repeat apply Sq
   apply Bk
   repeat apply Sq
   apply Pn
   refine Jt (Z0 rfl) rfl ?_
   refine Jt (Za Z33 rfl rfl rfl (by omega) (by omega)) rfl ?_
   refine Jt (Z6Z (cs := cmpV) (u := .string (cmpO.getD i (em, 0)).1) Zu rfl (by repeat first | exact Mh | apply Mt) (ZiH (by omega))) rfl ?_
   refine Jt (Z2 rfl) rfl ?_
   refine Jt (Z2 rfl) rfl ?_
   apply Ni
   repeat first | apply Nx | apply Nb
   refine Sl [0, 2, 3, 4, 5, 14, 15, 16] (.cons rfl (.cons rfl (.cons rfl (.cons rfl (.cons rfl (.cons rfl (.cons rfl (.cons rfl .nil)))))))) ?_
   repeat apply Sq
   apply Pn
   refine Jt (Z0 rfl) rfl ?_
   refine Jt (Z0 rfl) rfl ?_
   refine JO.callK (Lr := [_, _]) (Z9 T hc b z1.2 ((Z34 he _ _ hz1).1.trans hts) (cmpO.getD i (em, 0)).1) rfl (.swap _ _ _) (fun F hF => by repeat (first | (rcases Mc.1 hF with rfl | hF; · (repeat first | exact Mh | apply Mt)) | (cases hF; done))) (.one rfl (.one rfl .nil)) ?_
   intro _ _
   try dsimp only [nA, cA]
   apply Ni
   repeat first | apply Nx | apply Nb
   refine Sl [0, 2, 3, 4, 14, 15, 16, 23] (.cons rfl (.cons rfl (.cons rfl (.cons rfl (.cons rfl (.cons rfl (.cons rfl (.cons rfl .nil)))))))) ?_
   repeat apply Sq
   refine Cd rfl (fun ht23 => ?_) (fun ht23 => ?_)
   ·
    try simp only [dT, dF] at ht23
    have hit : isT 5 (cmpO.getD i (em, 0)).1 z1.2 = true := ht23
    have hop : opOf 5 cmpO z1.2 = some (cmpO.getD i (em, 0)).2 := by rw [← hO, Z4d (ops := cmpO) (by show i < 6; omega), if_pos hit]
    rw [ZO hit]
    repeat apply Sq
    refine J.regBgPm (Bad := sumP e z1.2.tail = none) (ch := flt) (G := { z : Ex × List T3 // sumP e z1.2.tail = some z }) 4 6 (fun hbad => ?_) (fun g => .rep (ExR g.1.1)) (fun g => [PB T b g.1.2] ++ [⟨b3, Z6, .rep (ExR z1.1)⟩, ⟨b2, Z6, .is (.agg #[.int .i64 0, .int .i64 0, .int .i64 0, .string ⟨#[]⟩, .string ⟨#[]⟩, .string ⟨#[]⟩, .int .i64 0, .slice none 0 0])⟩]) ([⟨b3, Z6, .rep (ExR z1.1)⟩, ⟨b2, Z6, .is (.agg #[.int .i64 0, .int .i64 0, .int .i64 0, .string ⟨#[]⟩, .string ⟨#[]⟩, .string ⟨#[]⟩, .int .i64 0, .slice none 0 0])⟩]) rfl rfl rfl rfl hmx (by kernel_rfl) rfl (by kernel_rfl) (fun _ h => List.mem_cons_of_mem _ h) (fun g o ho => List.mem_cons_of_mem _ ho) (by kernel_rfl) ?_
    · exact JX.pnI (by rw [Z5g hnn, hz1]; show cmpP e z1.1 z1.2 = none; unfold cmpP; rw [hop]; dsimp only; rw [hbad]; rfl)
    refine Rq (Z0 rfl) ?_
    refine Rq (ZhP (cc := (cmpO.getD i (em, 0)).2) rfl rfl (Zj9 (by omega))) ?_
    refine Rq (Z2M Ze rfl) ?_
    refine Rq (Z0 rfl) ?_
    refine RT.biggP (Lq := [⟨b3, Z6, .rep (ExR z1.1)⟩, ⟨b2, Z6, .is (.agg #[.int .i64 0, .int .i64 0, .int .i64 0, .string ⟨#[]⟩, .string ⟨#[]⟩, .string ⟨#[]⟩, .int .i64 0, .slice none 0 0])⟩]) (Z5i rfl (hsum z1.2.tail (Zi ((Z34 he _ _ hz1).1.trans hts)) (by have := (Zr hit).2; have := (Z34 he _ _ hz1).2; omega)) (.refl _) (fun F hF => by repeat (first | (rcases Mc.1 hF with rfl | hF; · (repeat first | exact Mh | apply Mt)) | (cases hF; done))) (.one rfl .nil)) (fun g => ?_)
    refine Rq (Z8T ZL rfl rfl) ?_
    apply Rn
    obtain ⟨z, hg2⟩ := g
    try dsimp only
    refine Jt (ZK rfl (Z2g (cmpO.getD i (em, 0)).2 [z1.1, z.1]) (.one rfl (.one rfl .nil))) rfl ?_
    refine JO.m (Z3 rfl rfl (by repeat first | exact .here | apply Ut) (by first | exact cI rfl rfl | exact cE) (by first | exact cI rfl rfl | exact cE | exact cO) Zo) (by rfl) ?_
    apply Ni
    repeat first | apply Nx | apply Nb
    refine Sl [2] (.cons rfl .nil) ?_
    repeat apply Sq
    apply Rt
    repeat first | apply Rp | apply Rb
    refine JX.toP ?_
    exact JX.retLCs (Lr := [_, _]) (L1 := fun z : Ex × List T3 => [PB T b z.2]) (R := fun z => .rep (ExR z.1)) rfl (nd (cmpO.getD i (em, 0)).2 [z1.1, z.1], z.2) (by rw [Z5g hnn, hz1]; show cmpP e z1.1 z1.2 = _; unfold cmpP; rw [hop]; dsimp only; rw [hg2]; rfl) (.refl _) rfl rfl hb0 rfl Ze HasOwn.mem Z1s (Sub.refl _)
   ·
    try simp only [dT, dF] at ht23
    apply Sk
    repeat first | apply Nx | apply Nb
    rw [ZQ ht23]
    repeat apply Sq
    apply Pn
    refine Jt (ZB (cc := ((i + 1 : Nat) : Int)) rfl rfl (by omega) (by omega) (by omega)) rfl ?_
    refine Jt (Z0 rfl) rfl ?_
    apply Ni
    repeat refine JX.normal_block ?_
    refine JX.roundG (x := i) (i + 1) ?_ ?_ [0, 2, 3, 14, 15, 16] ?_ ?_ ?_ ?_
    · exact ⟨by omega, by rw [← hO, Z4d (ops := cmpO) (i := i) (by show i < 6; omega), if_neg (by rw [ht23]; decide)]⟩
    · exact (by omega)
    · exact (.cons rfl (.cons rfl (.cons rfl (.cons rfl (.cons rfl (.cons rfl .nil))))))
    · repeat (first | exact .all | exact .nil | refine Has.own (by repeat first | exact .here | apply Tl.past | apply Tl.there) ?_ | refine Has.cons (by repeat (first | exact .here | apply Pk.past | apply Pk.there)) ?_)
    · exact fun G hG => by repeat (first | exact hG | refine List.mem_cons_of_mem _ ?_)
    · exact fun _ _ _ => fun _ _ => trivial
  ·
   try simp only [dT, dF] at ht17
   repeat apply Sq
   refine J.exit ?_
   repeat first | refine Ht ?_ | refine Ms rfl ?_ | refine Ep ?_
   repeat first | apply Nx | apply Nb
   have hno : opOf 5 cmpO z1.2 = none := by rw [← hO, List.drop_eq_nil_of_le (by show 6 ≤ i; omega)]; rfl
   repeat apply Sq
   apply Pn
   refine Jt (Z0 rfl) rfl ?_
   refine JO.callK (Lr := [_, _]) (Zd T hc b z1.2 ((Z34 he _ _ hz1).1.trans hts) w_IS) rfl (.swap _ _ _) (fun F hF => by repeat (first | (rcases Mc.1 hF with rfl | hF; · (repeat first | exact Mh | apply Mt)) | (cases hF; done))) (.one rfl (.one rfl .nil)) ?_
   intro _ _
   try dsimp only [nA, cA]
   refine Jt (Z3k rfl) rfl ?_
   apply Ni
   repeat first | apply Nx | apply Nb
   refine Sl [0, 2, 3, 34] (.cons rfl (.cons rfl (.cons rfl (.cons rfl .nil)))) ?_
   repeat apply Sq
   refine Cd rfl (fun ht34 => ?_) (fun ht34 => ?_)
   ·
    try simp only [dT, dF] at ht34
    have his : isT 1 w_IS z1.2 = false := by simpa using ht34
    rw [ZQ his]
    repeat apply Sq
    apply Pn
    refine Jt (Z2M Ze rfl) rfl ?_
    refine JO.m (Z3 rfl rfl (by repeat first | exact .here | apply Ut) (by first | exact cI rfl rfl | exact cE) (by first | exact cI rfl rfl | exact cE | exact cO) Zo) (by rfl) ?_
    apply Ni
    repeat first | apply Nx | apply Nb
    refine Sl [2] (.cons rfl .nil) ?_
    repeat apply Sq
    apply Rt
    repeat first | apply Rp | apply Rb
    refine JX.toP ?_
    exact JX.retLCs (Lr := [_, _]) (L1 := fun z : Ex × List T3 => [PB T b z.2]) (R := fun z => .rep (ExR z.1)) rfl (z1.1, z1.2) (by rw [Z5g hnn, hz1]; show cmpP e z1.1 z1.2 = _; unfold cmpP; rw [hno]; dsimp only; rw [if_neg (by rw [his]; decide)]) (.refl _) rfl rfl hb0 rfl Ze HasOwn.mem Z1s (Sub.refl _)
   ·
    try simp only [dT, dF] at ht34
    apply Sk
    repeat first | apply Nx | apply Nb
    have his : isT 1 w_IS z1.2 = true := by simpa using ht34
    rw [ZO his]
    repeat apply Sq
    apply Pn
    refine Jt (Z0 rfl) rfl ?_
    refine JO.callK (Lr := [_, _]) (Zd T hc b z1.2.tail (Zi ((Z34 he _ _ hz1).1.trans hts)) Z29) rfl (.refl _) (fun F hF => by repeat (first | (rcases Mc.1 hF with rfl | hF; · (repeat first | exact Mh | apply Mt)) | (cases hF; done))) (.one rfl (.one rfl .nil)) ?_
    intro _ _
    try dsimp only [nA, cA]
    apply Ni
    repeat first | apply Nx | apply Nb
    refine Sl [0, 2, 3, 37] (.cons rfl (.cons rfl (.cons rfl (.cons rfl .nil)))) ?_
    repeat apply Sq
    refine Cd rfl (fun ht37 => ?_) (fun ht37 => ?_)
    ·
     try simp only [dT, dF] at ht37
     have hi2 : isT 1 Z29 z1.2.tail = true := ht37
     rw [ZO hi2]
     repeat apply Sq
     apply Pn
     refine Jt (Z0 rfl) rfl ?_
     refine JO.callPK (Lr := [_, _]) (Zk T hc b (z1.2.tail.tail) (Zi (Zi ((Z34 he _ _ hz1).1.trans hts))) Z3f (by decide +kernel) (by decide +kernel) (asc (by decide +kernel))) rfl (.refl _) (fun F hF => by repeat (first | (rcases Mc.1 hF with rfl | hF; · (repeat first | exact Mh | apply Mt)) | (cases hF; done))) (.one rfl (.one rfl .nil)) (fun hbad => ?_) ?_
     · exact JX.pnI (by rw [Z5g hnn, hz1]; show cmpP e z1.1 z1.2 = none; unfold cmpP; rw [hno]; dsimp only; rw [if_pos his, if_pos hi2, hbad]; rfl)
     intro z2 hz2
     try dsimp only [nA, cA]
     apply Ni
     repeat first | apply Nx | apply Nb
     refine Sl [2, 3] (.cons rfl (.cons rfl .nil)) ?_
     repeat apply Sq
     apply Pn
     refine Jt (Z2M Ze rfl) rfl ?_
     refine Jt (Z3o ZL rfl) rfl ?_
     refine Jt (ZK rfl (Z2g 19 [z1.1]) (.one rfl (.one rfl .nil))) rfl ?_
     refine JO.m (Z3 rfl rfl (by repeat first | exact .here | apply Ut) (by first | exact cI rfl rfl | exact cE) (by first | exact cI rfl rfl | exact cE | exact cO) Zo) (by rfl) ?_
     apply Ni
     repeat first | apply Nx | apply Nb
     refine Sl [2] (.cons rfl .nil) ?_
     repeat apply Sq
     apply Rt
     repeat first | apply Rp | apply Rb
     refine JX.toP ?_
     exact JX.retLCs (Lr := [_, _]) (L1 := fun z : Ex × List T3 => [PB T b z.2]) (R := fun z => .rep (ExR z.1)) rfl (nd 19 [z1.1], z2.2) (by rw [Z5g hnn, hz1]; show cmpP e z1.1 z1.2 = _; unfold cmpP; rw [hno]; dsimp only; rw [if_pos his, if_pos hi2, hz2]; rfl) (.refl _) rfl rfl hb0 rfl Ze HasOwn.mem Z1s (Sub.refl _)
    ·
     try simp only [dT, dF] at ht37
     apply Sk
     repeat first | apply Nx | apply Nb
     have hi2 : isT 1 Z29 z1.2.tail = false := ht37
     rw [ZQ hi2]
     repeat apply Sq
     apply Pn
     refine Jt (Z0 rfl) rfl ?_
     refine JO.callPK (Lr := [_, _]) (Zk T hc b (z1.2.tail) (Zi ((Z34 he _ _ hz1).1.trans hts)) Z3f (by decide +kernel) (by decide +kernel) (asc (by decide +kernel))) rfl (.refl _) (fun F hF => by repeat (first | (rcases Mc.1 hF with rfl | hF; · (repeat first | exact Mh | apply Mt)) | (cases hF; done))) (.one rfl (.one rfl .nil)) (fun hbad => ?_) ?_
     · exact JX.pnI (by rw [Z5g hnn, hz1]; show cmpP e z1.1 z1.2 = none; unfold cmpP; rw [hno]; dsimp only; rw [if_pos his, if_neg (by rw [hi2]; decide), hbad]; rfl)
     intro z2 hz2
     try dsimp only [nA, cA]
     apply Ni
     repeat first | apply Nx | apply Nb
     refine Sl [2, 3] (.cons rfl (.cons rfl .nil)) ?_
     repeat apply Sq
     apply Pn
     refine Jt (Z2M Ze rfl) rfl ?_
     refine Jt (Z3o ZL rfl) rfl ?_
     refine Jt (ZK rfl (Z2g 18 [z1.1]) (.one rfl (.one rfl .nil))) rfl ?_
     refine JO.m (Z3 rfl rfl (by repeat first | exact .here | apply Ut) (by first | exact cI rfl rfl | exact cE) (by first | exact cI rfl rfl | exact cE | exact cO) Zo) (by rfl) ?_
     apply Ni
     repeat first | apply Nx | apply Nb
     refine Sl [2] (.cons rfl .nil) ?_
     repeat apply Sq
     apply Rt
     repeat first | apply Rp | apply Rb
     refine JX.toP ?_
     exact JX.retLCs (Lr := [_, _]) (L1 := fun z : Ex × List T3 => [PB T b z.2]) (R := fun z => .rep (ExR z.1)) rfl (nd 18 [z1.1], z2.2) (by rw [Z5g hnn, hz1]; show cmpP e z1.1 z1.2 = _; unfold cmpP; rw [hno]; dsimp only; rw [if_pos his, if_neg (by rw [hi2]; decide), hz2]; rfl) (.refl _) rfl rfl hb0 rfl Ze HasOwn.mem Z1s (Sub.refl _)
theorem Z4C (T : Tk) (hc : T.ts.length ≤ T.cap) (b : Nat) (e : Ps Ex) (he : Dn0 e) (N : Nat) (hsum : ∀ ts, ts <:+ T.ts → ts.length ≤ N → CallP Tryz.prog Z2s [PB T b (ts)] [T.G, AF] [.is (.pointer (some ⟨b, 0, none⟩))] (sumP e (ts) = none) flt (fun z : Ex × List T3 => sumP e (ts) = some z) (fun z => [PB T b z.2]) (fun z => .rep (ExR z.1))) : ∀ n ts, ts <:+ T.ts → ts.length ≤ N → ts.length ≤ n → CallP Tryz.prog Z1H [PB T b (ts)] [T.G, AF] [.is (.pointer (some ⟨b, 0, none⟩))] (notP e (ts) = none) flt (fun z : Ex × List T3 => notP e (ts) = some z) (fun z => [PB T b z.2]) (fun z => .rep (ExR z.1))
 | n, ts, hts, hN, hn => Z5w T hc b ts hts e he (fun us hus hl => hsum us hus (by omega)) fun us hus hl => by
  cases n with
  | zero => omega
  | succ n => exact Z4C T hc b e he N hsum n us hus (by omega) (by omega)
end Go.Proofs.YtbedigkncjbggaaGreatDoor
set_option maxRecDepth 20000
namespace Go.Proofs.YtbedigkncjbggaaGreatDoor
open Go Go.Vc
open Go.Pz
theorem wantN {k : Int} {s : ByteArray} {ts : List T3} (h : isT k s ts = false) : wantP k s ts = none := by unfold wantP; rw [if_neg (by rw [h]; decide)]
theorem wantY {k : Int} {s : ByteArray} {ts : List T3} (h : isT k s ts = true) : wantP k s ts = some ((), ts.tail) := by unfold wantP; rw [if_pos h]
abbrev kvL : List (ByteArray × Value) := [(Z5I, .int .i64 20), (Zbg, .int .i64 21), (Zbc, .int .i64 22), (Zbi, .int .i64 23)]
theorem Z9v {a b : ByteArray} (h : sq a b = true) : a = b := by
 cases a; cases b
 simpa [sq] using h
theorem ZdR {w : ByteArray} {q : Int} (h : aggK w = some q) : ∃ j, j < 4 ∧ kvL[j]? = some (w, .int .i64 q) := by
 unfold aggK at h
 split at h
 · rename_i e; injection h with h; subst h; have e := Z9v e; subst e; exact ⟨0, by decide, rfl⟩
 split at h
 · rename_i e; injection h with h; subst h; have e := Z9v e; subst e; exact ⟨1, by decide, rfl⟩
 split at h
 · rename_i e; injection h with h; subst h; have e := Z9v e; subst e; exact ⟨2, by decide, rfl⟩
 split at h
 · rename_i e; injection h with h; subst h; have e := Z9v e; subst e; exact ⟨3, by decide, rfl⟩
 · cases h
theorem Z59 : (kvL.map (·.1)).Nodup := by decide
theorem Z5A {a b : ByteArray} (h : seq a b = false) : ¬ sq a b = true := by rw [← Z5W, h]; decide
theorem Z30 {a b : ByteArray} (h : seq a b = true) : sq a b = true := by rw [← Z5W]; exact h
structure KwS where
  m : MapS
  z : Option (Ex × List T3)
abbrev KwS.x (s : KwS) : Ex := (s.z.getD (ex0, [])).1
def KwS.L (T : Tk) (b : Nat) (us : List T3) (Lr : List Own) (s : KwS) : List Own := PB T b (match s.z with | none => us | some z => z.2) :: (mOwn s.m ++ Lr)
def KwS.T (b : Nat) (w : ByteArray) (q : Int) (s : KwS) : Nat → Ty
 | 0 => .is (.map s.m.mp)
 | 5 => .is (.map s.m.mp)
 | 6 => .is (.string w)
 | 7 => .is (.int .i64 q)
 | 8 => .is (.pointer (some ⟨b, 0, none⟩))
 | 9 => .rep (ExR s.x)
 | 10 => .rep (ExsR [s.x])
 | _ => .any
structure KwS.inv (e : Ps Ex) (us : List T3) (s : KwS) (D : Array Bool) : Prop where
  m : MInv kvL s.m fun j => D.getD j false
  f : D.getD 5 false = true → ∀ j, j < 5 → D.getD j false = true
  z : D.getD 9 false = s.z.isSome
  r : ∀ z, s.z = some z → e us = some z
  g : D.getD 10 false = true → D.getD 9 false = true
theorem Zbl {D : Array Bool} {i : Nat} (hi : i < D.size) (j : Nat) : ((fun j => (D.setIfInBounds i true).getD j false) j = true) ↔ j = i ∨ ((fun j => D.getD j false) j = true) := Z15 hi
theorem ZC {D : Array Bool} {i j : Nat} (hi : i < D.size) (h : j ≠ i) : (D.setIfInBounds i true).getD j false = D.getD j false := by
  cases hq : D.getD j false with
  | true => exact (Z15 hi).2 (.inr hq)
  | false =>
    cases hq' : (D.setIfInBounds i true).getD j false with
    | false => rfl
    | true => rcases (Z15 hi).1 hq' with e | e
              · exact absurd e h
              · rw [hq] at e; cases e
theorem KwS.inv.other {e : Ps Ex} {us : List T3} {s : KwS} {D : Array Bool} (h : s.inv e us D) {i : Nat} (hs : i < D.size) (h4 : 4 < i) (h9 : i ≠ 9) (h5 : i = 5 → ∀ j, j < 5 → D.getD j false = true) (h10 : i = 10 → D.getD 9 false = true) : s.inv e us (D.setIfInBounds i true) := by
 refine ⟨h.m.other h4 (Zbl hs), fun h1 j hj => ?_, by rw [ZC hs (Ne.symm h9)]; exact h.z, h.r, fun h1 => by
  rw [ZC hs (Ne.symm h9)]
  by_cases hi : i = 10
  · exact h10 hi
  · exact h.g (by rw [← ZC hs (Ne.symm hi)]; exact h1)⟩
 rw [ZC hs (by omega)]
 by_cases hi : i = 5
 · exact h5 hi j hj
 · exact h.f (by rw [← ZC hs (Ne.symm hi)]; exact h1) j hj
theorem KwS.inv.make {e : Ps Ex} {us : List T3} {s : KwS} {D : Array Bool} (h : s.inv e us D) (hs : 0 < D.size) (h0 : D.getD 0 false = false) (r : Nat) : KwS.inv e us ⟨⟨some r, [], 0⟩, s.z⟩ (D.setIfInBounds 0 true) := by
 refine ⟨h.m.make h0 (Zbl hs) r, fun h1 j hj => ?_, by rw [ZC hs (by decide)]; exact h.z, h.r, fun h1 => by rw [ZC hs (by decide)] at h1 ⊢; exact h.g h1⟩
 rw [ZC hs (by decide)] at h1
 have := h.f h1 0 (by decide)
 rw [h0] at this; cases this
theorem KwS.inv.ins {e : Ps Ex} {us : List T3} {s : KwS} {D : Array Bool} (h : s.inv e us D) {j : Nat} {kv : ByteArray × Value} (hs : j + 1 < D.size) (hj : kvL[j]? = some kv) (hj4 : j < 4) (h1 : D.getD (j + 1) false = false) (h0 : D.getD 0 false = true) : KwS.inv e us ⟨⟨s.m.mp, s.m.es ++ [(kv.1, kv.2, s.m.n)], s.m.n + 1⟩, s.z⟩ (D.setIfInBounds (j + 1) true) := by
 refine ⟨h.m.ins hj h0 (Zbl hs), fun h2 k hk => ?_, by rw [ZC hs (by omega)]; exact h.z, h.r, fun h3 => by rw [ZC hs (by omega)] at h3 ⊢; exact h.g h3⟩
 rw [ZC hs (by omega)] at h2
 have := h.f h2 (j + 1) (by omega)
 rw [h1] at this; cases this
theorem KwS.inv.call {e : Ps Ex} {us : List T3} {s : KwS} {D : Array Bool} (h : s.inv e us D) (hs : 9 < D.size) {z : Ex × List T3} (hz : e us = some z) : KwS.inv e us ⟨s.m, some z⟩ (D.setIfInBounds 9 true) :=
 ⟨h.m.other (by decide) (Zbl hs), fun h1 j hj => by rw [ZC hs (by omega)]; exact h.f (by rw [← ZC hs (by decide)]; exact h1) j hj, by rw [(Z15 hs).2 (.inl rfl)]; rfl, fun y hy => by injection hy with hy; subst hy; exact hz, fun _ => (Z15 hs).2 (.inl rfl)⟩
theorem aggY {w : ByteArray} (h : (seq w Z5I || (seq w Zbg || (seq w Zbc || seq w Zbi))) = true) : ∃ q, aggK w = some q := by
 simp only [Z5W] at h
 unfold aggK
 repeat' split
 all_goals first | exact ⟨_, rfl⟩ | simp_all
theorem aggN {w : ByteArray} (h : (seq w Z5I || (seq w Zbg || (seq w Zbc || seq w Zbi))) = false) : aggK w = none := by
 simp only [Z5W] at h
 unfold aggK
 simp_all
theorem kwT0 {b : Nat} {w : ByteArray} {q : Int} {m m' : MapS} {zo : Option (Ex × List T3)} {D : Array Bool} (h5 : D.getD 5 false = false) (hd : D.getD 0 false = false) {j : Nat} (hj : D.getD j false = true) : KwS.T b w q ⟨m', zo⟩ j = KwS.T b w q ⟨m, zo⟩ j := by
  match j, hj with
  | 0, hj => rw [hd] at hj; cases hj
  | 5, hj => rw [h5] at hj; cases hj
  | 1, _ => rfl
  | 2, _ => rfl
  | 3, _ => rfl
  | 4, _ => rfl
  | 6, _ => rfl
  | 7, _ => rfl
  | 8, _ => rfl
  | 9, _ => rfl
  | 10, _ => rfl
  | j + 11, _ => rfl
theorem kwT9 {b : Nat} {w : ByteArray} {q : Int} {m : MapS} {zo zo' : Option (Ex × List T3)} {D : Array Bool} (h10 : D.getD 10 false = false) (hd : D.getD 9 false = false) {j : Nat} (hj : D.getD j false = true) : KwS.T b w q ⟨m, zo'⟩ j = KwS.T b w q ⟨m, zo⟩ j := by
  match j, hj with
  | 9, hj => rw [hd] at hj; cases hj
  | 10, hj => rw [h10] at hj; cases hj
  | 0, _ => rfl
  | 1, _ => rfl
  | 2, _ => rfl
  | 3, _ => rfl
  | 4, _ => rfl
  | 5, _ => rfl
  | 6, _ => rfl
  | 7, _ => rfl
  | 8, _ => rfl
  | j + 11, _ => rfl
theorem Z5O (T : Tk) (hc : T.ts.length ≤ T.cap) (b : Nat) (ts : List T3) (hts : ts <:+ T.ts) (e : Ps Ex) (exprDn : ∀ {us : List T3} {z : Ex × List T3}, e us = some z → z.2 <:+ us) (hex : ∀ us, us <:+ T.ts → us.length < ts.length → CallP Tryz.prog Zx [PB T b (us)] [T.G, AF] [.is (.pointer (some ⟨b, 0, none⟩))] (e (us) = none) flt (fun z : Ex × List T3 => e (us) = some z) (fun z => [PB T b z.2]) (fun z => .rep (ExR z.1))) : CallP Tryz.prog Z6a [PB T b ts] [T.G, AF] [.is (.pointer (some ⟨b, 0, none⟩))] (kwP e ts = none) flt (fun z : Ex × List T3 => kwP e ts = some z) (fun z => [PB T b z.2]) (fun z => .rep (ExR z.1)) :=
CallP.of (fn := Tryz.f194) Tryz.func194 (n := 53) rfl rfl rfl (fun _ _ => by kernel_rfl) fun E W hb0 => by
  repeat apply Sq
  apply Pn
  refine JO.alloc Z16 rfl fun b2 => ?_
  apply Ni
  repeat first | apply Nx | apply Nb
  refine Sl [0, 2] (.cons rfl (.cons rfl .nil)) ?_
  repeat apply Sq
  apply Pn
  refine Jt (Z0 rfl) rfl ?_
  refine JO.callPK (Lr := [_]) (Z1i T hc b ts hts 1) rfl (.swap _ _ _) (fun F hF => by repeat (first | (rcases Mc.1 hF with rfl | hF; · (repeat first | exact Mh | apply Mt)) | (cases hF; done))) (.one rfl (.one rfl .nil)) (fun hbad => ?_) ?_
  · exact JX.pnI (by unfold kwP; rw [hbad]; rfl)
  rintro ⟨⟨k1, w, n1⟩, r1⟩ hz1
  try dsimp only [nA, cA]
  refine Jt (Z3B (off := 1) (by kernel_rfl) rfl rfl) rfl ?_
  refine Jt (Z2 rfl) rfl ?_
  apply Ni
  repeat first | apply Nx | apply Nb
  refine Sl [0, 2, 3] (.cons rfl (.cons rfl (.cons rfl .nil))) ?_
  repeat apply Sq
  apply Pn
  refine Jt (Z0 rfl) rfl ?_
  apply Ni
  repeat first | apply Nx | apply Nb
  refine Sl [0, 2, 3, 8] (.cons rfl (.cons rfl (.cons rfl (.cons rfl .nil)))) ?_
  repeat apply Sq
  apply Bk
  repeat apply Sq
  apply Pn
  refine Jt (Z4i rfl rfl) rfl ?_
  refine Jt (Z2 rfl) rfl ?_
  apply Ni
  repeat first | apply Nx | apply Nb
  refine Sl [0, 2, 3, 8, 9] (.cons rfl (.cons rfl (.cons rfl (.cons rfl (.cons rfl .nil))))) ?_
  repeat apply Sq
  refine Cd rfl (fun ht9 => ?_) (fun ht9 => ?_)
  ·
    try simp only [dT, dF] at ht9
    repeat apply Sq
    apply Pn
    refine Jt (Zv (cs := [_, _, _]) Z3C (.cons rfl (.cons rfl .nil)) rfl rfl) rfl ?_
    refine Jt (ZK rfl (Z2Q 2 1 em) (.one rfl .nil)) rfl ?_
    refine JO.m (Z3 rfl rfl (by repeat first | exact .here | apply Ut) (by first | exact cI rfl rfl | exact cE) (by first | exact cI rfl rfl | exact cE | exact cO) Zo) (by rfl) ?_
    apply Ni
    repeat first | apply Nx | apply Nb
    refine Sl [2] (.cons rfl .nil) ?_
    repeat apply Sq
    apply Rt
    repeat first | apply Rp | apply Rb
    refine JX.toP ?_
    exact JX.retLCs (Lr := [_]) (L1 := fun z : Ex × List T3 => [PB T b z.2]) (R := fun z => .rep (ExR z.1)) rfl (lit 2 1 em, r1) (by unfold kwP; rw [hz1]; simp only [Option.bind_some]; rw [if_pos (Z30 ht9)]) (.refl _) rfl rfl hb0 rfl Ze HasOwn.mem Z1s (Sub.refl _)
  ·
    try simp only [dT, dF] at ht9
    have hT := Z5A ht9
    repeat apply Sq
    apply Pn
    refine Jt (Z4i rfl rfl) rfl ?_
    refine Jt (Z2 rfl) rfl ?_
    apply Ni
    repeat first | apply Nx | apply Nb
    refine Sl [0, 2, 3, 8, 13] (.cons rfl (.cons rfl (.cons rfl (.cons rfl (.cons rfl .nil))))) ?_
    repeat apply Sq
    refine Cd rfl (fun ht13 => ?_) (fun ht13 => ?_)
    ·
      try simp only [dT, dF] at ht13
      repeat apply Sq
      apply Pn
      refine Jt (Zv (cs := [_, _, _]) Z3C (.cons rfl .nil) rfl rfl) rfl ?_
      refine Jt (ZK rfl (Z2Q 2 0 em) (.one rfl .nil)) rfl ?_
      refine JO.m (Z3 rfl rfl (by repeat first | exact .here | apply Ut) (by first | exact cI rfl rfl | exact cE) (by first | exact cI rfl rfl | exact cE | exact cO) Zo) (by rfl) ?_
      apply Ni
      repeat first | apply Nx | apply Nb
      refine Sl [2] (.cons rfl .nil) ?_
      repeat apply Sq
      apply Rt
      repeat first | apply Rp | apply Rb
      refine JX.toP ?_
      exact JX.retLCs (Lr := [_]) (L1 := fun z : Ex × List T3 => [PB T b z.2]) (R := fun z => .rep (ExR z.1)) rfl (lit 2 0 em, r1) (by unfold kwP; rw [hz1]; simp only [Option.bind_some]; rw [if_neg hT, if_pos (Z30 ht13)]) (.refl _) rfl rfl hb0 rfl Ze HasOwn.mem Z1s (Sub.refl _)
    ·
      try simp only [dT, dF] at ht13
      have hF := Z5A ht13
      repeat apply Sq
      apply Pn
      refine Jt (Z4i rfl rfl) rfl ?_
      refine Jt (Z2 rfl) rfl ?_
      apply Ni
      repeat first | apply Nx | apply Nb
      refine Sl [0, 2, 3, 8, 17] (.cons rfl (.cons rfl (.cons rfl (.cons rfl (.cons rfl .nil))))) ?_
      repeat apply Sq
      refine Cd rfl (fun ht17 => ?_) (fun ht17 => ?_)
      ·
        try simp only [dT, dF] at ht17
        repeat apply Sq
        apply Pn
        refine Jt (Zv (cs := [_, _, _]) Z3C .nil rfl rfl) rfl ?_
        refine Jt (ZK rfl (Z2Q 0 0 em) (.one rfl .nil)) rfl ?_
        refine JO.m (Z3 rfl rfl (by repeat first | exact .here | apply Ut) (by first | exact cI rfl rfl | exact cE) (by first | exact cI rfl rfl | exact cE | exact cO) Zo) (by rfl) ?_
        apply Ni
        repeat first | apply Nx | apply Nb
        refine Sl [2] (.cons rfl .nil) ?_
        repeat apply Sq
        apply Rt
        repeat first | apply Rp | apply Rb
        refine JX.toP ?_
        exact JX.retLCs (Lr := [_]) (L1 := fun z : Ex × List T3 => [PB T b z.2]) (R := fun z => .rep (ExR z.1)) rfl (lit 0 0 em, r1) (by unfold kwP; rw [hz1]; simp only [Option.bind_some]; rw [if_neg hT, if_neg hF, if_pos (Z30 ht17)]) (.refl _) rfl rfl hb0 rfl Ze HasOwn.mem Z1s (Sub.refl _)
      ·
        try simp only [dT, dF] at ht17
        have hN := Z5A ht17
        repeat apply Sq
        apply Pn
        refine Jt (Z4i rfl rfl) rfl ?_
        refine Jt (Z2 rfl) rfl ?_
        apply Ni
        repeat first | apply Nx | apply Nb
        refine Sl [0, 2, 3, 8, 21] (.cons rfl (.cons rfl (.cons rfl (.cons rfl (.cons rfl .nil))))) ?_
        first | apply J.or [0, 2, 3] rfl (.cons rfl (.cons rfl (.cons rfl .nil))) | apply J.orN [0, 2, 3] rfl (.cons rfl (.cons rfl (.cons rfl .nil)))
        · intro ht21
          repeat apply Sq
          apply Pn
          refine Jt (Z4i rfl rfl) rfl ?_
          refine Jt (Z2 rfl) rfl ?_
          apply Ni
          refine JX.next ?_
          apply J.orT [0, 2, 3] rfl (.cons rfl (.cons rfl (.cons rfl .nil)))
          · intro ht21
            repeat apply Sq
            apply Pn
            refine Jt (Z4i rfl rfl) rfl ?_
            refine Jt (Z2 rfl) rfl ?_
            apply Ni
            refine JX.next ?_
            apply J.orT [0, 2, 3] rfl (.cons rfl (.cons rfl (.cons rfl .nil)))
            · intro ht21
              repeat apply Sq
              apply Pn
              refine Jt (Z4i rfl rfl) rfl ?_
              refine Jt (Z2 rfl) rfl ?_
              apply Ni
              exact JX.mids [21, 0, 2, 3] (.cons rfl (.cons rfl (.cons rfl (.cons rfl .nil))))
        repeat apply Sq
        refine Cd rfl (fun ht21 => ?_) (fun ht21 => ?_)
        ·
          try simp only [dT, dF] at ht21
          obtain ⟨q, hq⟩ := aggY ht21
          repeat apply Sq
          apply Pn
          refine Jt (Z0 rfl) rfl ?_
          refine Jt (Z0 rfl) rfl ?_
          refine JO.callK (Lr := [_]) (Z9 T hc b r1 ((ZP 1 _ _ hz1).1.trans hts) s_lp) rfl (.refl _) (fun F hF => by repeat (first | (rcases Mc.1 hF with rfl | hF; · (repeat first | exact Mh | apply Mt)) | (cases hF; done))) (.one rfl (.one rfl .nil)) ?_
          intro _ _
          try dsimp only [nA, cA]
          refine JO.callPK (Lr := _) (Z7 (.pointer (some ⟨b, 0, none⟩)) (isT 5 s_lp r1)) rfl (Z1a _) Z10 (.one rfl (.one rfl .nil)) (fun hbad => ?_) ?_
          · exact JX.pnI (by unfold kwP; rw [hz1]; simp only [Option.bind_some]; rw [if_neg hT, if_neg hF, if_neg hN, hq]; dsimp only; rw [wantN hbad]; rfl)
          intro _ hlp
          try dsimp only [nA, cA]
          apply Ni
          repeat first | apply Nx | apply Nb
          refine Sl [0, 2, 3] (.cons rfl (.cons rfl (.cons rfl .nil))) ?_
          rw [ZO hlp]
          repeat apply Sq
          apply Pn
          refine Jt (Ob.im (Zv (cs := [_, _, _, _, _, _, _, _]) Z56 (.cons rfl .nil) rfl rfl) (Sub.leaf (k := 20) (vk := 0) (vn := 0) (vs := em) (tb := em) (nm := em) (sl := 0))) rfl ?_
          refine JO.alloc Z16 rfl fun b4 => ?_
          refine JO.m (Z3 rfl rfl (by repeat first | exact .here | apply Ut) (by first | exact cI rfl rfl | exact cE) (by first | exact cI rfl rfl | exact cE | exact cO) Zo) (by rfl) ?_
          apply Ni
          repeat first | apply Nx | apply Nb
          refine Sl [0, 2, 3, 4] (.cons rfl (.cons rfl (.cons rfl (.cons rfl .nil)))) ?_
          rcases Bool.eq_false_or_eq_true (seq w Z5I) with hcnt | hcnt
          ·
            repeat apply Sq
            apply Pn
            refine Jt (Z0 rfl) rfl ?_
            refine Jt (ZbY (cc := false) rfl rfl (by rw [hcnt]; rfl)) rfl ?_
            refine Jt (Z0 rfl) rfl ?_
            refine JO.gd rfl rfl rfl ?_
            refine Jt (Z0 rfl) rfl ?_
            refine JO.gd rfl rfl rfl ?_
            refine JO.callK (Lr := [_, _]) (Z9 T hc b r1.tail (Zi ((ZP 1 _ _ hz1).1.trans hts)) Z2i) rfl (.swap _ _ _) (fun F hF => by repeat (first | (rcases Mc.1 hF with rfl | hF; · (repeat first | exact Mh | apply Mt)) | (cases hF; done))) (.one rfl (.one rfl .nil)) ?_
            intro _ _
            try dsimp only [nA, cA]
            refine JO.gd rfl rfl rfl ?_
            refine Jt (Z3k rfl) rfl ?_
            refine Jt (Zcl rfl rfl) rfl ?_
            apply Ni
            repeat first | apply Nx | apply Nb
            refine Sl [0, 2, 3, 4, 37] (.cons rfl (.cons rfl (.cons rfl (.cons rfl (.cons rfl .nil))))) ?_
            repeat apply Sq
            refine Cd rfl (fun ht37 => ?_) (fun ht37 => ?_)
            ·
              try simp only [dT, dF] at ht37
              try have hst : isT 5 Z2i r1.tail = false := by simpa using ht37
              try rw [ZQ hst]
              refine J.has (L' := [PB T b r1.tail, ⟨b4, Z6, .rep (ExR (nd 20 []))⟩, ⟨b2, Z6, .is (.agg #[.int .i64 0, .int .i64 0, .int .i64 0, .string ⟨#[]⟩, .string ⟨#[]⟩, .string ⟨#[]⟩, .int .i64 0, .slice none 0 0])⟩]) (by repeat (first | exact .all | exact .nil | refine Has.cons (by repeat (first | exact .here | apply Pk.past | apply Pk.there)) ?_)) ?_
              repeat apply Sq
              refine J.regMach (Bad := e r1.tail = none) (ch := flt) 11 (KwS.L T b (r1.tail) [⟨b4, Z6, .rep (ExR (nd 20 []))⟩, ⟨b2, Z6, .is (.agg #[.int .i64 0, .int .i64 0, .int .i64 0, .string ⟨#[]⟩, .string ⟨#[]⟩, .string ⟨#[]⟩, .int .i64 0, .slice none 0 0])⟩]) (KwS.T b w q) (KwS.inv e (r1.tail)) (fun i => decide (i < 5) || i == 9) ⟨⟨none, [], 0⟩, none⟩ rfl ?_ (fun hbad => ?_) hmx (by kernel_rfl) rfl (by kernel_rfl) ?_ ?_ ?_
              · exact ⟨.start (fun j => by rw [Array.getD_eq_getD_getElem?, Array.getElem?_replicate]; split <;> rfl), (fun h => by cases h), rfl, (fun z h => by cases h), (fun h => by cases h)⟩
              · exact JX.pnI (by first | (unfold kwP; rw [hz1]; simp only [Option.bind_some]; rw [if_neg hT, if_neg hF, if_neg hN, hq]; dsimp only; rw [wantY hlp]; simp only [Option.bind_some]; rw [Z30 hcnt, hst]; simp only [Bool.true_and, Bool.false_eq_true, if_false]; rw [hbad]; rfl) | (unfold kwP; rw [hz1]; simp only [Option.bind_some]; rw [if_neg hT, if_neg hF, if_neg hN, hq]; dsimp only; rw [wantY hlp]; simp only [Option.bind_some]; rw [if_neg (by rw [Bool.and_eq_true]; exact fun h => Z5A hcnt h.1)]; rw [hbad]; rfl))
              · intro s D i o hs hinv hA hbg hd hr
                match i, hA, hbg, hd, hr with
                | 0, _, hbg, _, _ => exact absurd hbg (by decide)
                | 1, _, hbg, _, _ => exact absurd hbg (by decide)
                | 2, _, hbg, _, _ => exact absurd hbg (by decide)
                | 3, _, hbg, _, _ => exact absurd hbg (by decide)
                | 4, _, hbg, _, _ => exact absurd hbg (by decide)
                | 5, hA, _, hd, hr =>
                  obtain rfl := Option.some.inj hA
                  have h9 := hinv.other (i := 5) (by omega) (by decide) (by decide) (fun _ j hj => by
                    match j, hj with
                    | 0, _ => exact hr _ rfl ⟨0, .data⟩ (by simp) rfl
                    | 1, _ => exact hr _ rfl ⟨1, .data⟩ (by simp) rfl
                    | 2, _ => exact hr _ rfl ⟨2, .data⟩ (by simp) rfl
                    | 3, _ => exact hr _ rfl ⟨3, .data⟩ (by simp) rfl
                    | 4, _ => exact hr _ rfl ⟨4, .data⟩ (by simp) rfl) (fun h => by cases h)
                  exact ⟨h9, rfl, (Z0 rfl)⟩
                | 6, hA, _, hd, hr =>
                  obtain rfl := Option.some.inj hA
                  exact ⟨hinv.other (by omega) (by decide) (by decide) (fun h => by cases h) (fun h => by cases h), rfl, (Z0 rfl)⟩
                | 7, hA, _, hd, hr =>
                  obtain rfl := Option.some.inj hA
                  have hall := hinv.f (hr _ rfl ⟨5, .data⟩ (by simp) rfl)
                  refine ⟨hinv.other (by omega) (by decide) (by decide) (fun h => by cases h) (fun h => by cases h), rfl, ?_⟩
                  obtain ⟨j, hj4, hj⟩ := ZdR hq
                  have hget := hinv.m.get Z59 hj (hall (j + 1) (by omega))
                  obtain ⟨r, hr0⟩ := hinv.m.some_ (hall 0 (by decide))
                  obtain ⟨⟨mp, es, n⟩, zo⟩ := s
                  dsimp only at hr0; subst hr0
                  exact Zd6 Z1d Zl ZfG rfl rfl (List.mem_cons_of_mem _ List.mem_cons_self) (by dsimp only at hget; rw [hget]; rfl)
                | 8, hA, _, hd, hr =>
                  obtain rfl := Option.some.inj hA
                  exact ⟨hinv.other (by omega) (by decide) (by decide) (fun h => by cases h) (fun h => by cases h), rfl, (Z0 rfl)⟩
                | 9, _, hbg, _, _ => exact absurd hbg (by decide)
                | 10, hA, _, hd, hr =>
                  obtain rfl := Option.some.inj hA
                  exact ⟨hinv.other (by omega) (by decide) (by decide) (fun h => by cases h) (fun _ => hr _ rfl ⟨9, .data⟩ (by simp) rfl), rfl, (Z3o ZL rfl)⟩
                | i + 11, hA, _, hd, hr => simp at hA
              · intro s D i o hs hinv hA hbg hd hr
                match i, hA, hbg, hd, hr with
                | 0, hA, _, hd, hr =>
                  obtain rfl := Option.some.inj hA
                  obtain ⟨⟨mp, es, n⟩, zo⟩ := s
                  have hmp : mp = none := by
                    have := hinv.m.a
                    dsimp only at this
                    rw [hd] at this
                    cases mp with
                    | none => rfl
                    | some r => cases this
                  subst hmp
                  have h5 : D.getD 5 false = false := by
                    cases h : D.getD 5 false with
                    | false => rfl
                    | true => have := hinv.f h 0 (by decide); rw [hd] at this; cases this
                  exact ⟨rfl, .inl (ZaF.to (fun r => ⟨⟨⟨some r, [], 0⟩, zo⟩, hinv.make (by omega) hd r, fun j hj => kwT0 h5 hd hj⟩) (fun _ => rfl) (fun _ => .swap _ _ _))⟩
                | 1, hA, _, hd, hr =>
                  obtain rfl := Option.some.inj hA
                  obtain ⟨⟨mp, es, n⟩, zo⟩ := s
                  obtain ⟨r, hr0⟩ := hinv.m.some_ (hr _ rfl ⟨0, .data⟩ (by simp) rfl)
                  dsimp only at hr0; subst hr0
                  have hg := hinv.m.fresh Z59 (j := 0) rfl hd
                  have hi := hinv.ins (j := 0) (by omega) rfl (by decide) hd (hr _ rfl ⟨0, .data⟩ (by simp) rfl)
                  exact ⟨rfl, .inl ((BigOb.ofM (Z1K Z1d Zl rfl rfl rfl hg (.there .here)) rfl).to (fun _ => ⟨_, hi, fun j hj => rfl⟩) (fun _ => rfl) (fun _ => .refl _))⟩
                | 2, hA, _, hd, hr =>
                  obtain rfl := Option.some.inj hA
                  obtain ⟨⟨mp, es, n⟩, zo⟩ := s
                  obtain ⟨r, hr0⟩ := hinv.m.some_ (hr _ rfl ⟨0, .data⟩ (by simp) rfl)
                  dsimp only at hr0; subst hr0
                  have hg := hinv.m.fresh Z59 (j := 1) rfl hd
                  have hi := hinv.ins (j := 1) (by omega) rfl (by decide) hd (hr _ rfl ⟨0, .data⟩ (by simp) rfl)
                  exact ⟨rfl, .inl ((BigOb.ofM (Z1K Z1d Zl rfl rfl rfl hg (.there .here)) rfl).to (fun _ => ⟨_, hi, fun j hj => rfl⟩) (fun _ => rfl) (fun _ => .refl _))⟩
                | 3, hA, _, hd, hr =>
                  obtain rfl := Option.some.inj hA
                  obtain ⟨⟨mp, es, n⟩, zo⟩ := s
                  obtain ⟨r, hr0⟩ := hinv.m.some_ (hr _ rfl ⟨0, .data⟩ (by simp) rfl)
                  dsimp only at hr0; subst hr0
                  have hg := hinv.m.fresh Z59 (j := 2) rfl hd
                  have hi := hinv.ins (j := 2) (by omega) rfl (by decide) hd (hr _ rfl ⟨0, .data⟩ (by simp) rfl)
                  exact ⟨rfl, .inl ((BigOb.ofM (Z1K Z1d Zl rfl rfl rfl hg (.there .here)) rfl).to (fun _ => ⟨_, hi, fun j hj => rfl⟩) (fun _ => rfl) (fun _ => .refl _))⟩
                | 4, hA, _, hd, hr =>
                  obtain rfl := Option.some.inj hA
                  obtain ⟨⟨mp, es, n⟩, zo⟩ := s
                  obtain ⟨r, hr0⟩ := hinv.m.some_ (hr _ rfl ⟨0, .data⟩ (by simp) rfl)
                  dsimp only at hr0; subst hr0
                  have hg := hinv.m.fresh Z59 (j := 3) rfl hd
                  have hi := hinv.ins (j := 3) (by omega) rfl (by decide) hd (hr _ rfl ⟨0, .data⟩ (by simp) rfl)
                  exact ⟨rfl, .inl ((BigOb.ofM (Z1K Z1d Zl rfl rfl rfl hg (.there .here)) rfl).to (fun _ => ⟨_, hi, fun j hj => rfl⟩) (fun _ => rfl) (fun _ => .refl _))⟩
                | 5, _, hbg, _, _ => exact absurd hbg (by decide)
                | 6, _, hbg, _, _ => exact absurd hbg (by decide)
                | 7, _, hbg, _, _ => exact absurd hbg (by decide)
                | 8, _, hbg, _, _ => exact absurd hbg (by decide)
                | 9, hA, _, hd, hr =>
                  obtain rfl := Option.some.inj hA
                  obtain ⟨m, zo⟩ := s
                  have hzo : zo = none := by
                    have := hinv.z
                    dsimp only at this
                    rw [hd] at this
                    cases zo with
                    | none => rfl
                    | some r => cases this
                  subst hzo
                  have h10 : D.getD 10 false = false := by
                    cases h : D.getD 10 false with
                    | false => rfl
                    | true => have := hinv.g h; rw [hd] at this; cases this
                  exact ⟨rfl, .inr ((Z5i rfl (hex r1.tail (Zi ((ZP 1 _ _ hz1).1.trans hts)) (by have := (Zr hlp).2; have h1 : r1.length < ts.length := (ZP 1 _ _ hz1).2; omega)) (.refl _) (fun F hF => by repeat (first | (rcases Mc.1 hF with rfl | hF; · (repeat first | exact Mh | apply Mt)) | (cases hF; done))) (.one rfl .nil)).to (fun z => ⟨⟨m, some z.1⟩, hinv.call (by omega) z.2, fun j hj => kwT9 h10 hd hj⟩) (fun _ => rfl) (fun _ => .refl _))⟩
                | 10, _, hbg, _, _ => exact absurd hbg (by decide)
                | i + 11, hA, _, hd, hr => simp at hA
              intro s D hs hall hinv
              obtain ⟨⟨mp, es, n⟩, zo⟩ := s
              obtain ⟨r, hr0⟩ := hinv.m.some_ (hall 0 (by decide))
              dsimp only at hr0; subst hr0
              have hzz := hinv.z
              rw [hall 9 (by decide)] at hzz
              obtain ⟨z, hzo⟩ := Option.isSome_iff_exists.1 hzz.symm
              dsimp only at hzo; subst hzo
              have hzr : e (r1.tail) = some z := hinv.r z rfl
              refine JO.subL (L' := [PB T b z.2] ++ (⟨r, 0, .ob (sObj es n)⟩ :: [⟨b4, Z6, .rep (ExR (nd 20 []))⟩, ⟨b2, Z6, .is (.agg #[.int .i64 0, .int .i64 0, .int .i64 0, .string ⟨#[]⟩, .string ⟨#[]⟩, .string ⟨#[]⟩, .int .i64 0, .slice none 0 0])⟩])) (.refl _) ?_
              try dsimp only [nA, cA]
              refine Jt (ZK rfl (Z2g q [z.1]) (.one rfl (.one rfl .nil))) rfl ?_
              refine JO.m (Z3 rfl rfl (by repeat first | exact .here | apply Ut) (by first | exact cI rfl rfl | exact cE) (by first | exact cI rfl rfl | exact cE | exact cO) Zo) (by rfl) ?_
              apply Ni
              repeat first | apply Nx | apply Nb
              refine Sl [0, 2, 4] (.cons rfl (.cons rfl (.cons rfl .nil))) ?_
              first | (refine J.has (L' := [PB T b z.2, ⟨b4, Z6, .rep (ExR (nd q [z.1]))⟩, ⟨b2, Z6, .is (.agg #[.int .i64 0, .int .i64 0, .int .i64 0, .string ⟨#[]⟩, .string ⟨#[]⟩, .string ⟨#[]⟩, .int .i64 0, .slice none 0 0])⟩]) (by repeat (first | exact .all | exact .nil | refine Has.cons (by repeat (first | exact .here | apply Pk.past | apply Pk.there)) ?_)) ?_; have husx := (exprDn hzr).trans (Zi ((ZP 1 _ _ hz1).1.trans hts))) | (have hst : isT 5 Z2i r1.tail = true := (by simpa using ht37); rw [ZO hst]; have husx := Zi (Zi ((ZP 1 _ _ hz1).1.trans hts)))
              repeat apply Sq
              apply Pn
              refine Jt (Z0 rfl) rfl ?_
              refine Jt (Z0 rfl) rfl ?_
              refine JO.callK (Lr := [_, _]) (Z9 T hc b _ husx s_rp) rfl (.refl _) (fun F hF => by repeat (first | (rcases Mc.1 hF with rfl | hF; · (repeat first | exact Mh | apply Mt)) | (cases hF; done))) (.one rfl (.one rfl .nil)) ?_
              intro _ _
              try dsimp only [nA, cA]
              refine JO.callPK (Lr := _) (Z7 (.pointer (some ⟨b, 0, none⟩)) (isT 5 s_rp _)) rfl (Z1a _) Z10 (.one rfl (.one rfl .nil)) (fun hbad => ?_) ?_
              · exact JX.pnI (by first | (unfold kwP; rw [hz1]; simp only [Option.bind_some]; rw [if_neg hT, if_neg hF, if_neg hN, hq]; dsimp only; rw [wantY hlp]; simp only [Option.bind_some]; rw [Z30 hcnt, hst]; simp only [Bool.true_and, if_true]; rw [wantN hbad]; rfl) | (first | (unfold kwP; rw [hz1]; simp only [Option.bind_some]; rw [if_neg hT, if_neg hF, if_neg hN, hq]; dsimp only; rw [wantY hlp]; simp only [Option.bind_some]; rw [Z30 hcnt, hst]; simp only [Bool.true_and, Bool.false_eq_true, if_false]; rw [hzr]; simp only [Option.bind_some]; rw [wantN hbad]; rfl) | (unfold kwP; rw [hz1]; simp only [Option.bind_some]; rw [if_neg hT, if_neg hF, if_neg hN, hq]; dsimp only; rw [wantY hlp]; simp only [Option.bind_some]; rw [if_neg (by rw [Bool.and_eq_true]; exact fun h => Z5A hcnt h.1)]; rw [hzr]; simp only [Option.bind_some]; rw [wantN hbad]; rfl)))
              intro _ hrp
              try dsimp only [nA, cA]
              apply Ni
              repeat first | apply Nx | apply Nb
              refine Sl [2, 4] (.cons rfl (.cons rfl .nil)) ?_
              rw [ZO hrp]
              repeat apply Sq
              apply Pn
              refine Jt (Z2M Ze rfl) rfl ?_
              refine JO.m (Z3 rfl rfl (by repeat first | exact .here | apply Ut) (by first | exact cI rfl rfl | exact cE) (by first | exact cI rfl rfl | exact cE | exact cO) Zo) (by rfl) ?_
              apply Ni
              repeat first | apply Nx | apply Nb
              refine Sl [2] (.cons rfl .nil) ?_
              repeat apply Sq
              apply Rt
              repeat first | apply Rp | apply Rb
              refine JX.toP ?_
              exact JX.retLCs (Lr := [_, _]) (L1 := fun z : Ex × List T3 => [PB T b z.2]) (R := fun z => .rep (ExR z.1)) rfl (nd q [z.1], z.2.tail) (by unfold kwP; rw [hz1]; simp only [Option.bind_some]; rw [if_neg hT, if_neg hF, if_neg hN, hq]; dsimp only; rw [wantY hlp]; simp only [Option.bind_some]; rw [Z30 hcnt, hst]; simp only [Bool.true_and, Bool.false_eq_true, if_false]; rw [hzr]; simp only [Option.bind_some]; rw [wantY hrp]; rfl) (.refl _) rfl rfl hb0 rfl Ze HasOwn.mem Z1s (Sub.refl _)
            ·
              try simp only [dT, dF] at ht37
              apply Sk
              repeat first | apply Nx | apply Nb
              first | (refine J.has (L' := [PB T b z.2, ⟨b4, Z6, .rep (ExR (nd q [z.1]))⟩, ⟨b2, Z6, .is (.agg #[.int .i64 0, .int .i64 0, .int .i64 0, .string ⟨#[]⟩, .string ⟨#[]⟩, .string ⟨#[]⟩, .int .i64 0, .slice none 0 0])⟩]) (by repeat (first | exact .all | exact .nil | refine Has.cons (by repeat (first | exact .here | apply Pk.past | apply Pk.there)) ?_)) ?_; have husx := (exprDn hzr).trans (Zi ((ZP 1 _ _ hz1).1.trans hts))) | (have hst : isT 5 Z2i r1.tail = true := (by simpa using ht37); rw [ZO hst]; have husx := Zi (Zi ((ZP 1 _ _ hz1).1.trans hts)))
              repeat apply Sq
              apply Pn
              refine Jt (Z0 rfl) rfl ?_
              refine Jt (Z0 rfl) rfl ?_
              refine JO.callK (Lr := [_, _]) (Z9 T hc b _ husx s_rp) rfl (.refl _) (fun F hF => by repeat (first | (rcases Mc.1 hF with rfl | hF; · (repeat first | exact Mh | apply Mt)) | (cases hF; done))) (.one rfl (.one rfl .nil)) ?_
              intro _ _
              try dsimp only [nA, cA]
              refine JO.callPK (Lr := _) (Z7 (.pointer (some ⟨b, 0, none⟩)) (isT 5 s_rp _)) rfl (Z1a _) Z10 (.one rfl (.one rfl .nil)) (fun hbad => ?_) ?_
              · exact JX.pnI (by first | (unfold kwP; rw [hz1]; simp only [Option.bind_some]; rw [if_neg hT, if_neg hF, if_neg hN, hq]; dsimp only; rw [wantY hlp]; simp only [Option.bind_some]; rw [Z30 hcnt, hst]; simp only [Bool.true_and, if_true]; rw [wantN hbad]; rfl) | (first | (unfold kwP; rw [hz1]; simp only [Option.bind_some]; rw [if_neg hT, if_neg hF, if_neg hN, hq]; dsimp only; rw [wantY hlp]; simp only [Option.bind_some]; rw [Z30 hcnt, hst]; simp only [Bool.true_and, Bool.false_eq_true, if_false]; rw [hzr]; simp only [Option.bind_some]; rw [wantN hbad]; rfl) | (unfold kwP; rw [hz1]; simp only [Option.bind_some]; rw [if_neg hT, if_neg hF, if_neg hN, hq]; dsimp only; rw [wantY hlp]; simp only [Option.bind_some]; rw [if_neg (by rw [Bool.and_eq_true]; exact fun h => Z5A hcnt h.1)]; rw [hzr]; simp only [Option.bind_some]; rw [wantN hbad]; rfl)))
              intro _ hrp
              try dsimp only [nA, cA]
              apply Ni
              repeat first | apply Nx | apply Nb
              refine Sl [2, 4] (.cons rfl (.cons rfl .nil)) ?_
              rw [ZO hrp]
              repeat apply Sq
              apply Pn
              refine Jt (Z2M Ze rfl) rfl ?_
              refine JO.m (Z3 rfl rfl (by repeat first | exact .here | apply Ut) (by first | exact cI rfl rfl | exact cE) (by first | exact cI rfl rfl | exact cE | exact cO) Zo) (by rfl) ?_
              apply Ni
              repeat first | apply Nx | apply Nb
              refine Sl [2] (.cons rfl .nil) ?_
              repeat apply Sq
              apply Rt
              repeat first | apply Rp | apply Rb
              refine JX.toP ?_
              exact JX.retLCs (Lr := [_, _]) (L1 := fun z : Ex × List T3 => [PB T b z.2]) (R := fun z => .rep (ExR z.1)) rfl (nd 20 [], r1.tail.tail.tail) (by unfold kwP; rw [hz1]; simp only [Option.bind_some]; rw [if_neg hT, if_neg hF, if_neg hN, hq]; dsimp only; rw [wantY hlp]; simp only [Option.bind_some]; rw [Z30 hcnt, hst]; simp only [Bool.true_and, if_true]; rw [wantY hrp]; rfl) (.refl _) rfl rfl hb0 rfl Ze HasOwn.mem Z1s (Sub.refl _)
          ·
            repeat apply Sq
            apply Pn
            refine Jt (Z0 rfl) rfl ?_
            refine Jt (ZbY (cc := true) rfl rfl (by rw [hcnt]; rfl)) rfl ?_
            refine Jt (Z0 rfl) rfl ?_
            refine JO.gn rfl rfl rfl rfl rfl ?_
            refine JO.gn rfl rfl rfl rfl rfl ?_
            refine JO.gn rfl rfl rfl rfl rfl ?_
            refine Jt (ZbV rfl rfl) rfl ?_
            apply Ni
            repeat first | apply Nx | apply Nb
            refine Sl [0, 2, 3, 4, 37] (.cons rfl (.cons rfl (.cons rfl (.cons rfl (.cons rfl .nil))))) ?_
            repeat apply Sq
            refine Cd rfl (fun ht37 => ?_) (fun ht37 => ?_)
            ·
              try simp only [dT, dF] at ht37
              try have hst : isT 5 Z2i r1.tail = false := by simpa using ht37
              try rw [ZQ hst]
              refine J.has (L' := [PB T b r1.tail, ⟨b4, Z6, .rep (ExR (nd 20 []))⟩, ⟨b2, Z6, .is (.agg #[.int .i64 0, .int .i64 0, .int .i64 0, .string ⟨#[]⟩, .string ⟨#[]⟩, .string ⟨#[]⟩, .int .i64 0, .slice none 0 0])⟩]) (by repeat (first | exact .all | exact .nil | refine Has.cons (by repeat (first | exact .here | apply Pk.past | apply Pk.there)) ?_)) ?_
              repeat apply Sq
              refine J.regMach (Bad := e r1.tail = none) (ch := flt) 11 (KwS.L T b (r1.tail) [⟨b4, Z6, .rep (ExR (nd 20 []))⟩, ⟨b2, Z6, .is (.agg #[.int .i64 0, .int .i64 0, .int .i64 0, .string ⟨#[]⟩, .string ⟨#[]⟩, .string ⟨#[]⟩, .int .i64 0, .slice none 0 0])⟩]) (KwS.T b w q) (KwS.inv e (r1.tail)) (fun i => decide (i < 5) || i == 9) ⟨⟨none, [], 0⟩, none⟩ rfl ?_ (fun hbad => ?_) hmx (by kernel_rfl) rfl (by kernel_rfl) ?_ ?_ ?_
              · exact ⟨.start (fun j => by rw [Array.getD_eq_getD_getElem?, Array.getElem?_replicate]; split <;> rfl), (fun h => by cases h), rfl, (fun z h => by cases h), (fun h => by cases h)⟩
              · exact JX.pnI (by first | (unfold kwP; rw [hz1]; simp only [Option.bind_some]; rw [if_neg hT, if_neg hF, if_neg hN, hq]; dsimp only; rw [wantY hlp]; simp only [Option.bind_some]; rw [Z30 hcnt, hst]; simp only [Bool.true_and, Bool.false_eq_true, if_false]; rw [hbad]; rfl) | (unfold kwP; rw [hz1]; simp only [Option.bind_some]; rw [if_neg hT, if_neg hF, if_neg hN, hq]; dsimp only; rw [wantY hlp]; simp only [Option.bind_some]; rw [if_neg (by rw [Bool.and_eq_true]; exact fun h => Z5A hcnt h.1)]; rw [hbad]; rfl))
              · intro s D i o hs hinv hA hbg hd hr
                match i, hA, hbg, hd, hr with
                | 0, _, hbg, _, _ => exact absurd hbg (by decide)
                | 1, _, hbg, _, _ => exact absurd hbg (by decide)
                | 2, _, hbg, _, _ => exact absurd hbg (by decide)
                | 3, _, hbg, _, _ => exact absurd hbg (by decide)
                | 4, _, hbg, _, _ => exact absurd hbg (by decide)
                | 5, hA, _, hd, hr =>
                  obtain rfl := Option.some.inj hA
                  have h9 := hinv.other (i := 5) (by omega) (by decide) (by decide) (fun _ j hj => by
                    match j, hj with
                    | 0, _ => exact hr _ rfl ⟨0, .data⟩ (by simp) rfl
                    | 1, _ => exact hr _ rfl ⟨1, .data⟩ (by simp) rfl
                    | 2, _ => exact hr _ rfl ⟨2, .data⟩ (by simp) rfl
                    | 3, _ => exact hr _ rfl ⟨3, .data⟩ (by simp) rfl
                    | 4, _ => exact hr _ rfl ⟨4, .data⟩ (by simp) rfl) (fun h => by cases h)
                  exact ⟨h9, rfl, (Z0 rfl)⟩
                | 6, hA, _, hd, hr =>
                  obtain rfl := Option.some.inj hA
                  exact ⟨hinv.other (by omega) (by decide) (by decide) (fun h => by cases h) (fun h => by cases h), rfl, (Z0 rfl)⟩
                | 7, hA, _, hd, hr =>
                  obtain rfl := Option.some.inj hA
                  have hall := hinv.f (hr _ rfl ⟨5, .data⟩ (by simp) rfl)
                  refine ⟨hinv.other (by omega) (by decide) (by decide) (fun h => by cases h) (fun h => by cases h), rfl, ?_⟩
                  obtain ⟨j, hj4, hj⟩ := ZdR hq
                  have hget := hinv.m.get Z59 hj (hall (j + 1) (by omega))
                  obtain ⟨r, hr0⟩ := hinv.m.some_ (hall 0 (by decide))
                  obtain ⟨⟨mp, es, n⟩, zo⟩ := s
                  dsimp only at hr0; subst hr0
                  exact Zd6 Z1d Zl ZfG rfl rfl (List.mem_cons_of_mem _ List.mem_cons_self) (by dsimp only at hget; rw [hget]; rfl)
                | 8, hA, _, hd, hr =>
                  obtain rfl := Option.some.inj hA
                  exact ⟨hinv.other (by omega) (by decide) (by decide) (fun h => by cases h) (fun h => by cases h), rfl, (Z0 rfl)⟩
                | 9, _, hbg, _, _ => exact absurd hbg (by decide)
                | 10, hA, _, hd, hr =>
                  obtain rfl := Option.some.inj hA
                  exact ⟨hinv.other (by omega) (by decide) (by decide) (fun h => by cases h) (fun _ => hr _ rfl ⟨9, .data⟩ (by simp) rfl), rfl, (Z3o ZL rfl)⟩
                | i + 11, hA, _, hd, hr => simp at hA
              · intro s D i o hs hinv hA hbg hd hr
                match i, hA, hbg, hd, hr with
                | 0, hA, _, hd, hr =>
                  obtain rfl := Option.some.inj hA
                  obtain ⟨⟨mp, es, n⟩, zo⟩ := s
                  have hmp : mp = none := by
                    have := hinv.m.a
                    dsimp only at this
                    rw [hd] at this
                    cases mp with
                    | none => rfl
                    | some r => cases this
                  subst hmp
                  have h5 : D.getD 5 false = false := by
                    cases h : D.getD 5 false with
                    | false => rfl
                    | true => have := hinv.f h 0 (by decide); rw [hd] at this; cases this
                  exact ⟨rfl, .inl (ZaF.to (fun r => ⟨⟨⟨some r, [], 0⟩, zo⟩, hinv.make (by omega) hd r, fun j hj => kwT0 h5 hd hj⟩) (fun _ => rfl) (fun _ => .swap _ _ _))⟩
                | 1, hA, _, hd, hr =>
                  obtain rfl := Option.some.inj hA
                  obtain ⟨⟨mp, es, n⟩, zo⟩ := s
                  obtain ⟨r, hr0⟩ := hinv.m.some_ (hr _ rfl ⟨0, .data⟩ (by simp) rfl)
                  dsimp only at hr0; subst hr0
                  have hg := hinv.m.fresh Z59 (j := 0) rfl hd
                  have hi := hinv.ins (j := 0) (by omega) rfl (by decide) hd (hr _ rfl ⟨0, .data⟩ (by simp) rfl)
                  exact ⟨rfl, .inl ((BigOb.ofM (Z1K Z1d Zl rfl rfl rfl hg (.there .here)) rfl).to (fun _ => ⟨_, hi, fun j hj => rfl⟩) (fun _ => rfl) (fun _ => .refl _))⟩
                | 2, hA, _, hd, hr =>
                  obtain rfl := Option.some.inj hA
                  obtain ⟨⟨mp, es, n⟩, zo⟩ := s
                  obtain ⟨r, hr0⟩ := hinv.m.some_ (hr _ rfl ⟨0, .data⟩ (by simp) rfl)
                  dsimp only at hr0; subst hr0
                  have hg := hinv.m.fresh Z59 (j := 1) rfl hd
                  have hi := hinv.ins (j := 1) (by omega) rfl (by decide) hd (hr _ rfl ⟨0, .data⟩ (by simp) rfl)
                  exact ⟨rfl, .inl ((BigOb.ofM (Z1K Z1d Zl rfl rfl rfl hg (.there .here)) rfl).to (fun _ => ⟨_, hi, fun j hj => rfl⟩) (fun _ => rfl) (fun _ => .refl _))⟩
                | 3, hA, _, hd, hr =>
                  obtain rfl := Option.some.inj hA
                  obtain ⟨⟨mp, es, n⟩, zo⟩ := s
                  obtain ⟨r, hr0⟩ := hinv.m.some_ (hr _ rfl ⟨0, .data⟩ (by simp) rfl)
                  dsimp only at hr0; subst hr0
                  have hg := hinv.m.fresh Z59 (j := 2) rfl hd
                  have hi := hinv.ins (j := 2) (by omega) rfl (by decide) hd (hr _ rfl ⟨0, .data⟩ (by simp) rfl)
                  exact ⟨rfl, .inl ((BigOb.ofM (Z1K Z1d Zl rfl rfl rfl hg (.there .here)) rfl).to (fun _ => ⟨_, hi, fun j hj => rfl⟩) (fun _ => rfl) (fun _ => .refl _))⟩
                | 4, hA, _, hd, hr =>
                  obtain rfl := Option.some.inj hA
                  obtain ⟨⟨mp, es, n⟩, zo⟩ := s
                  obtain ⟨r, hr0⟩ := hinv.m.some_ (hr _ rfl ⟨0, .data⟩ (by simp) rfl)
                  dsimp only at hr0; subst hr0
                  have hg := hinv.m.fresh Z59 (j := 3) rfl hd
                  have hi := hinv.ins (j := 3) (by omega) rfl (by decide) hd (hr _ rfl ⟨0, .data⟩ (by simp) rfl)
                  exact ⟨rfl, .inl ((BigOb.ofM (Z1K Z1d Zl rfl rfl rfl hg (.there .here)) rfl).to (fun _ => ⟨_, hi, fun j hj => rfl⟩) (fun _ => rfl) (fun _ => .refl _))⟩
                | 5, _, hbg, _, _ => exact absurd hbg (by decide)
                | 6, _, hbg, _, _ => exact absurd hbg (by decide)
                | 7, _, hbg, _, _ => exact absurd hbg (by decide)
                | 8, _, hbg, _, _ => exact absurd hbg (by decide)
                | 9, hA, _, hd, hr =>
                  obtain rfl := Option.some.inj hA
                  obtain ⟨m, zo⟩ := s
                  have hzo : zo = none := by
                    have := hinv.z
                    dsimp only at this
                    rw [hd] at this
                    cases zo with
                    | none => rfl
                    | some r => cases this
                  subst hzo
                  have h10 : D.getD 10 false = false := by
                    cases h : D.getD 10 false with
                    | false => rfl
                    | true => have := hinv.g h; rw [hd] at this; cases this
                  exact ⟨rfl, .inr ((Z5i rfl (hex r1.tail (Zi ((ZP 1 _ _ hz1).1.trans hts)) (by have := (Zr hlp).2; have h1 : r1.length < ts.length := (ZP 1 _ _ hz1).2; omega)) (.refl _) (fun F hF => by repeat (first | (rcases Mc.1 hF with rfl | hF; · (repeat first | exact Mh | apply Mt)) | (cases hF; done))) (.one rfl .nil)).to (fun z => ⟨⟨m, some z.1⟩, hinv.call (by omega) z.2, fun j hj => kwT9 h10 hd hj⟩) (fun _ => rfl) (fun _ => .refl _))⟩
                | 10, _, hbg, _, _ => exact absurd hbg (by decide)
                | i + 11, hA, _, hd, hr => simp at hA
              intro s D hs hall hinv
              obtain ⟨⟨mp, es, n⟩, zo⟩ := s
              obtain ⟨r, hr0⟩ := hinv.m.some_ (hall 0 (by decide))
              dsimp only at hr0; subst hr0
              have hzz := hinv.z
              rw [hall 9 (by decide)] at hzz
              obtain ⟨z, hzo⟩ := Option.isSome_iff_exists.1 hzz.symm
              dsimp only at hzo; subst hzo
              have hzr : e (r1.tail) = some z := hinv.r z rfl
              refine JO.subL (L' := [PB T b z.2] ++ (⟨r, 0, .ob (sObj es n)⟩ :: [⟨b4, Z6, .rep (ExR (nd 20 []))⟩, ⟨b2, Z6, .is (.agg #[.int .i64 0, .int .i64 0, .int .i64 0, .string ⟨#[]⟩, .string ⟨#[]⟩, .string ⟨#[]⟩, .int .i64 0, .slice none 0 0])⟩])) (.refl _) ?_
              try dsimp only [nA, cA]
              refine Jt (ZK rfl (Z2g q [z.1]) (.one rfl (.one rfl .nil))) rfl ?_
              refine JO.m (Z3 rfl rfl (by repeat first | exact .here | apply Ut) (by first | exact cI rfl rfl | exact cE) (by first | exact cI rfl rfl | exact cE | exact cO) Zo) (by rfl) ?_
              apply Ni
              repeat first | apply Nx | apply Nb
              refine Sl [0, 2, 4] (.cons rfl (.cons rfl (.cons rfl .nil))) ?_
              first | (refine J.has (L' := [PB T b z.2, ⟨b4, Z6, .rep (ExR (nd q [z.1]))⟩, ⟨b2, Z6, .is (.agg #[.int .i64 0, .int .i64 0, .int .i64 0, .string ⟨#[]⟩, .string ⟨#[]⟩, .string ⟨#[]⟩, .int .i64 0, .slice none 0 0])⟩]) (by repeat (first | exact .all | exact .nil | refine Has.cons (by repeat (first | exact .here | apply Pk.past | apply Pk.there)) ?_)) ?_; have husx := (exprDn hzr).trans (Zi ((ZP 1 _ _ hz1).1.trans hts))) | (have hst : isT 5 Z2i r1.tail = true := (by simpa using ht37); rw [ZO hst]; have husx := Zi (Zi ((ZP 1 _ _ hz1).1.trans hts)))
              repeat apply Sq
              apply Pn
              refine Jt (Z0 rfl) rfl ?_
              refine Jt (Z0 rfl) rfl ?_
              refine JO.callK (Lr := [_, _]) (Z9 T hc b _ husx s_rp) rfl (.refl _) (fun F hF => by repeat (first | (rcases Mc.1 hF with rfl | hF; · (repeat first | exact Mh | apply Mt)) | (cases hF; done))) (.one rfl (.one rfl .nil)) ?_
              intro _ _
              try dsimp only [nA, cA]
              refine JO.callPK (Lr := _) (Z7 (.pointer (some ⟨b, 0, none⟩)) (isT 5 s_rp _)) rfl (Z1a _) Z10 (.one rfl (.one rfl .nil)) (fun hbad => ?_) ?_
              · exact JX.pnI (by first | (unfold kwP; rw [hz1]; simp only [Option.bind_some]; rw [if_neg hT, if_neg hF, if_neg hN, hq]; dsimp only; rw [wantY hlp]; simp only [Option.bind_some]; rw [Z30 hcnt, hst]; simp only [Bool.true_and, if_true]; rw [wantN hbad]; rfl) | (first | (unfold kwP; rw [hz1]; simp only [Option.bind_some]; rw [if_neg hT, if_neg hF, if_neg hN, hq]; dsimp only; rw [wantY hlp]; simp only [Option.bind_some]; rw [Z30 hcnt, hst]; simp only [Bool.true_and, Bool.false_eq_true, if_false]; rw [hzr]; simp only [Option.bind_some]; rw [wantN hbad]; rfl) | (unfold kwP; rw [hz1]; simp only [Option.bind_some]; rw [if_neg hT, if_neg hF, if_neg hN, hq]; dsimp only; rw [wantY hlp]; simp only [Option.bind_some]; rw [if_neg (by rw [Bool.and_eq_true]; exact fun h => Z5A hcnt h.1)]; rw [hzr]; simp only [Option.bind_some]; rw [wantN hbad]; rfl)))
              intro _ hrp
              try dsimp only [nA, cA]
              apply Ni
              repeat first | apply Nx | apply Nb
              refine Sl [2, 4] (.cons rfl (.cons rfl .nil)) ?_
              rw [ZO hrp]
              repeat apply Sq
              apply Pn
              refine Jt (Z2M Ze rfl) rfl ?_
              refine JO.m (Z3 rfl rfl (by repeat first | exact .here | apply Ut) (by first | exact cI rfl rfl | exact cE) (by first | exact cI rfl rfl | exact cE | exact cO) Zo) (by rfl) ?_
              apply Ni
              repeat first | apply Nx | apply Nb
              refine Sl [2] (.cons rfl .nil) ?_
              repeat apply Sq
              apply Rt
              repeat first | apply Rp | apply Rb
              refine JX.toP ?_
              exact JX.retLCs (Lr := [_, _]) (L1 := fun z : Ex × List T3 => [PB T b z.2]) (R := fun z => .rep (ExR z.1)) rfl (nd q [z.1], z.2.tail) (by unfold kwP; rw [hz1]; simp only [Option.bind_some]; rw [if_neg hT, if_neg hF, if_neg hN, hq]; dsimp only; rw [wantY hlp]; simp only [Option.bind_some]; rw [if_neg (by rw [Bool.and_eq_true]; exact fun h => Z5A hcnt h.1)]; rw [hzr]; simp only [Option.bind_some]; rw [wantY hrp]; rfl) (.refl _) rfl rfl hb0 rfl Ze HasOwn.mem Z1s (Sub.refl _)
            ·
              try simp only [dT, dF] at ht37
              exfalso
              cases ht37
        ·
          try simp only [dT, dF] at ht21
          apply Sk
          repeat first | apply Nx | apply Nb
          repeat apply Sq
          apply Pn
          refine Jt (Zv (cs := []) Z7d .nil rfl rfl) rfl ?_
          refine Jt (ZbH (d := .struct #[]) (by kernel_rfl) rfl rfl) rfl ?_
          refine JO.pan rfl ?_
          exact JX.pnI (by unfold kwP; rw [hz1]; simp only [Option.bind_some]; rw [if_neg hT, if_neg hF, if_neg hN, aggN ht21])
end Go.Proofs.YtbedigkncjbggaaGreatDoor
