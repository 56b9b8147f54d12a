/- The parser: NOT, comparisons, IS. No condition. -/
import Derived.Test.YtbedigkncjbggaaGreatDoorXQ2
import Derived.Test.YtbedigkncjbggaaGreatDoorXG7
set_option maxRecDepth 20000
namespace Go.Proofs.YtbedigkncjbggaaGreatDoor
open Go Go.Vc
open Go.Pz
theorem ZeG {e : Ps Ex} {ts : List T3} (h : isT 1 Z2x ts = true) : notP e ts = (notP e ts.tail).map fun z => (nd 4 [z.1], z.2) := by
 obtain ⟨t, r, rfl, _⟩ := Z7f h
 rw [notP, if_pos h]; rfl
theorem Z54 {e : Ps Ex} {ts : List T3} (h : isT 1 Z2x ts = false) : notP e ts = (sumP e ts).bind fun z => cmpP e z.1 z.2 := by
 cases ts with
 | nil => rw [notP]
 | cons t r => rw [notP, if_neg (by rw [h]; decide)]
abbrev cmpV : List Value := [.string s_eq, .string s_ne, .string s_lt, .string s_le, .string s_gt, .string s_ge]
theorem Zha {i : Nat} (h : i < 6) : cmpV[0 + ((i : Nat) : Int).toNat * 1]? = some (.string (cmpO.getD i (em, 0)).1) := by
  match i, h with
  | 0, _ => rfl
  | 1, _ => rfl
  | 2, _ => rfl
  | 3, _ => rfl
  | 4, _ => rfl
  | 5, _ => rfl
theorem ZhO {i : Nat} (h : i < 6) : IntKind.i64.wrap (10 + ((i : Nat) : Int)) = (cmpO.getD i (em, 0)).2 := by
  match i, h with
  | 0, _ => rfl
  | 1, _ => rfl
  | 2, _ => rfl
  | 3, _ => rfl
  | 4, _ => rfl
  | 5, _ => rfl
theorem asc {s : ByteArray} (h : s.data.toList.all (fun b => decide (b.toNat < 128)) = true) (j : Nat) (b : UInt8) (hb : s.data.toList[j]? = some b) : b.toNat < 128 := of_decide_eq_true (List.all_eq_true.1 h b (List.mem_of_getElem? hb))
theorem Z5l (T : Tk) (hc : T.ts.length ≤ T.cap) (b : Nat) (ts : List T3) (hts : ts <:+ T.ts) (e : Ps Ex) (he : Dn0 e) (hsum : ∀ us, us <:+ T.ts → us.length ≤ ts.length → CallP Tryz.prog Z2n [PB T b (us)] [T.G, AF] [.is (.pointer (some ⟨b, 0, none⟩))] (sumP e (us) = none) flt (fun z : Ex × List T3 => sumP e (us) = some z) (fun z => [PB T b z.2]) (fun z => .rep (ExR z.1))) (ih : ∀ us, us <:+ T.ts → us.length < ts.length → CallP Tryz.prog Z1F [PB T b (us)] [T.G, AF] [.is (.pointer (some ⟨b, 0, none⟩))] (notP e (us) = none) flt (fun z : Ex × List T3 => notP e (us) = some z) (fun z => [PB T b z.2]) (fun z => .rep (ExR z.1))) : CallP Tryz.prog Z1F [PB T b ts] [T.G, AF] [.is (.pointer (some ⟨b, 0, none⟩))] (notP e ts = none) flt (fun z : Ex × List T3 => notP e ts = some z) (fun z => [PB T b z.2]) (fun z => .rep (ExR z.1)) :=
CallP.of (fn := Tryz.f165) Tryz.func165 (n := 48) rfl rfl rfl (fun _ _ => by kernel_rfl) fun E W hb0 => by
 repeat apply Sq
 apply Pn
 refine JO.alloc ZY rfl fun b2 => ?_
 apply Ni
 repeat first | apply Nx | apply Nb
 refine Sl [0, 2] (.cons rfl (.cons rfl .nil)) ?_
 repeat apply Sq
 apply Pn
 refine Jt (Z0 rfl) rfl ?_
 refine JO.callK (Lr := [_]) (Ze T hc b ts hts Z2x) rfl (.swap _ _ _) (fun F hF => by repeat (first | (rcases Mc.1 hF with rfl | hF; · (repeat first | exact Mh | apply Mt)) | (cases hF; done))) (.one rfl (.one rfl .nil)) ?_
 intro _ _
 try dsimp only [nA, cA]
 apply Ni
 repeat first | apply Nx | apply Nb
 refine Sl [0, 2, 7] (.cons rfl (.cons rfl (.cons rfl .nil))) ?_
 repeat apply Sq
 refine Cd rfl (fun ht7 => ?_) (fun ht7 => ?_)
 ·
  try simp only [dT, dF] at ht7
  have hnn : isT 1 Z2x ts = true := ht7
  rw [ZK hnn]
  repeat apply Sq
  apply Pn
  refine Jt (Z0 rfl) rfl ?_
  refine JO.callPK (Lr := [_]) (ih ts.tail (Zj hts) (Zu hnn).2) rfl (.refl _) (fun F hF => by repeat (first | (rcases Mc.1 hF with rfl | hF; · (repeat first | exact Mh | apply Mt)) | (cases hF; done))) (.one rfl .nil) (fun hbad => ?_) ?_
  · exact JX.pnI (by rw [ZeG hnn, hbad]; rfl)
  intro z hz
  try dsimp only [nA, cA]
  refine Jt (Z3g ZJ rfl) rfl ?_
  refine Jt (ZM rfl (Z2a 4 [z.1]) (.one rfl (.one rfl .nil))) rfl ?_
  refine JO.m (Z4 rfl rfl (by repeat first | exact .here | apply Ut) (by first | exact cI rfl rfl | exact cE) (by first | exact cI rfl rfl | exact cE | exact cO) Zn) (by rfl) ?_
  apply Ni
  repeat first | apply Nx | apply Nb
  refine Sl [2] (.cons rfl .nil) ?_
  repeat apply Sq
  apply Rt
  repeat first | apply Rp | apply Rb
  refine JX.toP ?_
  exact JX.retLCs (Lr := [_]) (L1 := fun z : Ex × List T3 => [PB T b z.2]) (R := fun z => .rep (ExR z.1)) rfl (nd 4 [z.1], z.2) (by rw [ZeG hnn, hz]; rfl) (.refl _) rfl rfl hb0 rfl Zd HasOwn.mem Z1t (Sub.refl _)
 ·
  try simp only [dT, dF] at ht7
  apply Sk
  repeat first | apply Nx | apply Nb
  have hnn : isT 1 Z2x ts = false := ht7
  rw [ZO hnn]
  repeat apply Sq
  apply Pn
  refine Jt (Z0 rfl) rfl ?_
  refine JO.callPK (Lr := [_]) (hsum ts hts (Nat.le_refl _)) rfl (.refl _) (fun F hF => by repeat (first | (rcases Mc.1 hF with rfl | hF; · (repeat first | exact Mh | apply Mt)) | (cases hF; done))) (.one rfl .nil) (fun hbad => ?_) ?_
  · exact JX.pnI (by rw [Z54 hnn, hbad]; rfl)
  intro z1 hz1
  try dsimp only [nA, cA]
  refine JO.alloc ZY rfl fun b3 => ?_
  refine JO.m (Z4 rfl rfl (by repeat first | exact .here | apply Ut) (by first | exact cI rfl rfl | exact cE) (by first | exact cI rfl rfl | exact cE | exact cO) Zn) (by rfl) ?_
  apply Ni
  repeat first | apply Nx | apply Nb
  refine Sl [0, 2, 3] (.cons rfl (.cons rfl (.cons rfl .nil))) ?_
  repeat apply Sq
  apply Pn
  refine Jt (ZR (cs := [_, _, _, _, _, _]) Z1T (by omega) (by omega) (.cons rfl (.cons rfl (.cons rfl (.cons rfl (.cons rfl (.cons rfl .nil)))))) rfl rfl rfl) rfl ?_
  refine JO.openNew (s := 14) rfl (fun r14 => ?_)
  refine Jt (Zq Z1X rfl) rfl ?_
  refine Jt (Z0 rfl) rfl ?_
  apply Ni
  repeat first | apply Nx | apply Nb
  refine Sl [0, 2, 3, 14, 15, 16] (.cons rfl (.cons rfl (.cons rfl (.cons rfl (.cons rfl (.cons rfl .nil)))))) ?_
  repeat apply Sq
  apply Bk
  repeat apply Sq
  refine J.loopG (α := Nat) (fun i => [(0, .is (.pointer (some ⟨b, 0, none⟩))), (2, .is (.pointer (some ⟨b2, 0, none⟩))), (3, .is (.pointer (some ⟨b3, 0, none⟩))), (14, .is (.slice (some ⟨r14, 0, none⟩) 6 6)), (15, .is (.int .i64 6)), (16, .is (.int .i64 (i : Int)))]) (fun i => [⟨b3, Z6, .rep (ExR z1.1)⟩, PB T b z1.2, ⟨b2, Z6, .is (.agg #[.int .i64 0, .int .i64 0, .int .i64 0, .string ⟨#[]⟩, .string ⟨#[]⟩, .string ⟨#[]⟩, .int .i64 0, .slice none 0 0])⟩]) (fun i => fun _ => True) (fun i => i ≤ 6 ∧ opOf 5 (cmpO.drop i) z1.2 = opOf 5 cmpO z1.2) (fun i => 6 - i) 0 [0, 2, 3, 14, 15, 16] (.cons rfl (.cons rfl (.cons rfl (.cons rfl (.cons rfl (.cons rfl .nil)))))) rfl (fun _ => trivial) ⟨by omega, rfl⟩ fun i ⟨hi, hO⟩ => ?_
  try dsimp only
  try dsimp only at hi
  try dsimp only at hO
  repeat apply Sq
  apply Pn
  refine Jt (Z1f rfl rfl) rfl ?_
  apply Ni
  repeat first | apply Nx | apply Nb
  refine Sl [0, 2, 3, 14, 15, 16, 17] (.cons rfl (.cons rfl (.cons rfl (.cons rfl (.cons rfl (.cons rfl (.cons rfl .nil))))))) ?_
  repeat apply Sq
  refine Cd rfl (fun ht17 => ?_) (fun ht17 => ?_)
  ·
   try simp only [dT, dF] at ht17
   apply Sk
   repeat first | apply Nx | apply Nb
   repeat apply Sq
   apply Bk
   repeat apply Sq
   apply Pn
   refine Jt (Z0 rfl) rfl ?_
   refine Jt (Z7 Z2R rfl rfl rfl (by omega) (by omega)) rfl ?_
   refine Jt (Z6S (cs := cmpV) (u := .string (cmpO.getD i (em, 0)).1) Zr rfl (by repeat first | exact Mh | apply Mt) (Zha (by omega))) rfl ?_
   refine Jt (Z2 rfl) rfl ?_
   refine Jt (Z2 rfl) rfl ?_
   apply Ni
   repeat first | apply Nx | apply Nb
   refine Sl [0, 2, 3, 4, 5, 14, 15, 16] (.cons rfl (.cons rfl (.cons rfl (.cons rfl (.cons rfl (.cons rfl (.cons rfl (.cons rfl .nil)))))))) ?_
   repeat apply Sq
   apply Pn
   refine Jt (Z0 rfl) rfl ?_
   refine Jt (Z0 rfl) rfl ?_
   refine JO.callK (Lr := [_, _]) (Z9 T hc b z1.2 ((Z3h he _ _ hz1).1.trans hts) (cmpO.getD i (em, 0)).1) rfl (.swap _ _ _) (fun F hF => by repeat (first | (rcases Mc.1 hF with rfl | hF; · (repeat first | exact Mh | apply Mt)) | (cases hF; done))) (.one rfl (.one rfl .nil)) ?_
   intro _ _
   try dsimp only [nA, cA]
   apply Ni
   repeat first | apply Nx | apply Nb
   refine Sl [0, 2, 3, 4, 14, 15, 16, 23] (.cons rfl (.cons rfl (.cons rfl (.cons rfl (.cons rfl (.cons rfl (.cons rfl (.cons rfl .nil)))))))) ?_
   repeat apply Sq
   refine Cd rfl (fun ht23 => ?_) (fun ht23 => ?_)
   ·
    try simp only [dT, dF] at ht23
    have hit : isT 5 (cmpO.getD i (em, 0)).1 z1.2 = true := ht23
    have hop : opOf 5 cmpO z1.2 = some (cmpO.getD i (em, 0)).2 := by rw [← hO, Z4b (ops := cmpO) (by show i < 6; omega), if_pos hit]
    rw [ZK hit]
    repeat apply Sq
    refine J.regBgPm (Bad := sumP e z1.2.tail = none) (ch := flt) (G := { z : Ex × List T3 // sumP e z1.2.tail = some z }) 4 6 (fun hbad => ?_) (fun g => .rep (ExR g.1.1)) (fun g => [PB T b g.1.2] ++ [⟨b3, Z6, .rep (ExR z1.1)⟩, ⟨b2, Z6, .is (.agg #[.int .i64 0, .int .i64 0, .int .i64 0, .string ⟨#[]⟩, .string ⟨#[]⟩, .string ⟨#[]⟩, .int .i64 0, .slice none 0 0])⟩]) ([⟨b3, Z6, .rep (ExR z1.1)⟩, ⟨b2, Z6, .is (.agg #[.int .i64 0, .int .i64 0, .int .i64 0, .string ⟨#[]⟩, .string ⟨#[]⟩, .string ⟨#[]⟩, .int .i64 0, .slice none 0 0])⟩]) rfl rfl rfl rfl hmx (by kernel_rfl) rfl (by kernel_rfl) (fun _ h => List.mem_cons_of_mem _ h) (fun g o ho => List.mem_cons_of_mem _ ho) (by kernel_rfl) ?_
    · exact JX.pnI (by rw [Z54 hnn, hz1]; show cmpP e z1.1 z1.2 = none; unfold cmpP; rw [hop]; dsimp only; rw [hbad]; rfl)
    refine Rq (Z0 rfl) ?_
    refine Rq (Zg7 (cc := (cmpO.getD i (em, 0)).2) rfl rfl (ZhO (by omega))) ?_
    refine Rq (Z2F Zd rfl) ?_
    refine Rq (Z0 rfl) ?_
    refine RT.biggP (Lq := [⟨b3, Z6, .rep (ExR z1.1)⟩, ⟨b2, Z6, .is (.agg #[.int .i64 0, .int .i64 0, .int .i64 0, .string ⟨#[]⟩, .string ⟨#[]⟩, .string ⟨#[]⟩, .int .i64 0, .slice none 0 0])⟩]) (Z57 rfl (hsum z1.2.tail (Zj ((Z3h he _ _ hz1).1.trans hts)) (by have := (Zu hit).2; have := (Z3h he _ _ hz1).2; omega)) (.refl _) (fun F hF => by repeat (first | (rcases Mc.1 hF with rfl | hF; · (repeat first | exact Mh | apply Mt)) | (cases hF; done))) (.one rfl .nil)) (fun g => ?_)
    refine Rq (Z8o ZJ rfl rfl) ?_
    apply Rn
    obtain ⟨z, hg2⟩ := g
    try dsimp only
    refine Jt (ZM rfl (Z2a (cmpO.getD i (em, 0)).2 [z1.1, z.1]) (.one rfl (.one rfl .nil))) rfl ?_
    refine JO.m (Z4 rfl rfl (by repeat first | exact .here | apply Ut) (by first | exact cI rfl rfl | exact cE) (by first | exact cI rfl rfl | exact cE | exact cO) Zn) (by rfl) ?_
    apply Ni
    repeat first | apply Nx | apply Nb
    refine Sl [2] (.cons rfl .nil) ?_
    repeat apply Sq
    apply Rt
    repeat first | apply Rp | apply Rb
    refine JX.toP ?_
    exact JX.retLCs (Lr := [_, _]) (L1 := fun z : Ex × List T3 => [PB T b z.2]) (R := fun z => .rep (ExR z.1)) rfl (nd (cmpO.getD i (em, 0)).2 [z1.1, z.1], z.2) (by rw [Z54 hnn, hz1]; show cmpP e z1.1 z1.2 = _; unfold cmpP; rw [hop]; dsimp only; rw [hg2]; rfl) (.refl _) rfl rfl hb0 rfl Zd HasOwn.mem Z1t (Sub.refl _)
   ·
    try simp only [dT, dF] at ht23
    apply Sk
    repeat first | apply Nx | apply Nb
    rw [ZO ht23]
    repeat apply Sq
    apply Pn
    refine Jt (ZB (cc := ((i + 1 : Nat) : Int)) rfl rfl (by omega) (by omega) (by omega)) rfl ?_
    refine Jt (Z0 rfl) rfl ?_
    apply Ni
    repeat refine JX.normal_block ?_
    refine JX.roundG (x := i) (i + 1) ?_ ?_ [0, 2, 3, 14, 15, 16] ?_ ?_ ?_ ?_
    · exact ⟨by omega, by rw [← hO, Z4b (ops := cmpO) (i := i) (by show i < 6; omega), if_neg (by rw [ht23]; decide)]⟩
    · exact (by omega)
    · exact (.cons rfl (.cons rfl (.cons rfl (.cons rfl (.cons rfl (.cons rfl .nil))))))
    · repeat (first | exact .all | exact .nil | refine Has.own (by repeat first | exact .here | apply Tl.past | apply Tl.there) ?_ | refine Has.cons (by repeat (first | exact .here | apply Pk.past | apply Pk.there)) ?_)
    · exact fun G hG => by repeat (first | exact hG | refine List.mem_cons_of_mem _ ?_)
    · exact fun _ _ _ => fun _ _ => trivial
  ·
   try simp only [dT, dF] at ht17
   repeat apply Sq
   refine J.exit ?_
   repeat first | refine Ht ?_ | refine Ms rfl ?_ | refine Ep ?_
   repeat first | apply Nx | apply Nb
   have hno : opOf 5 cmpO z1.2 = none := by rw [← hO, List.drop_eq_nil_of_le (by show 6 ≤ i; omega)]; rfl
   repeat apply Sq
   apply Pn
   refine Jt (Z0 rfl) rfl ?_
   refine JO.callK (Lr := [_, _]) (Ze T hc b z1.2 ((Z3h he _ _ hz1).1.trans hts) w_IS) rfl (.swap _ _ _) (fun F hF => by repeat (first | (rcases Mc.1 hF with rfl | hF; · (repeat first | exact Mh | apply Mt)) | (cases hF; done))) (.one rfl (.one rfl .nil)) ?_
   intro _ _
   try dsimp only [nA, cA]
   refine Jt (Z51 rfl) rfl ?_
   apply Ni
   repeat first | apply Nx | apply Nb
   refine Sl [0, 2, 3, 34] (.cons rfl (.cons rfl (.cons rfl (.cons rfl .nil)))) ?_
   repeat apply Sq
   refine Cd rfl (fun ht34 => ?_) (fun ht34 => ?_)
   ·
    try simp only [dT, dF] at ht34
    have his : isT 1 w_IS z1.2 = false := by simpa using ht34
    rw [ZO his]
    repeat apply Sq
    apply Pn
    refine Jt (Z2F Zd rfl) rfl ?_
    refine JO.m (Z4 rfl rfl (by repeat first | exact .here | apply Ut) (by first | exact cI rfl rfl | exact cE) (by first | exact cI rfl rfl | exact cE | exact cO) Zn) (by rfl) ?_
    apply Ni
    repeat first | apply Nx | apply Nb
    refine Sl [2] (.cons rfl .nil) ?_
    repeat apply Sq
    apply Rt
    repeat first | apply Rp | apply Rb
    refine JX.toP ?_
    exact JX.retLCs (Lr := [_, _]) (L1 := fun z : Ex × List T3 => [PB T b z.2]) (R := fun z => .rep (ExR z.1)) rfl (z1.1, z1.2) (by rw [Z54 hnn, hz1]; show cmpP e z1.1 z1.2 = _; unfold cmpP; rw [hno]; dsimp only; rw [if_neg (by rw [his]; decide)]) (.refl _) rfl rfl hb0 rfl Zd HasOwn.mem Z1t (Sub.refl _)
   ·
    try simp only [dT, dF] at ht34
    apply Sk
    repeat first | apply Nx | apply Nb
    have his : isT 1 w_IS z1.2 = true := by simpa using ht34
    rw [ZK his]
    repeat apply Sq
    apply Pn
    refine Jt (Z0 rfl) rfl ?_
    refine JO.callK (Lr := [_, _]) (Ze T hc b z1.2.tail (Zj ((Z3h he _ _ hz1).1.trans hts)) Z2x) rfl (.refl _) (fun F hF => by repeat (first | (rcases Mc.1 hF with rfl | hF; · (repeat first | exact Mh | apply Mt)) | (cases hF; done))) (.one rfl (.one rfl .nil)) ?_
    intro _ _
    try dsimp only [nA, cA]
    apply Ni
    repeat first | apply Nx | apply Nb
    refine Sl [0, 2, 3, 37] (.cons rfl (.cons rfl (.cons rfl (.cons rfl .nil)))) ?_
    repeat apply Sq
    refine Cd rfl (fun ht37 => ?_) (fun ht37 => ?_)
    ·
     try simp only [dT, dF] at ht37
     have hi2 : isT 1 Z2x z1.2.tail = true := ht37
     rw [ZK hi2]
     repeat apply Sq
     apply Pn
     refine Jt (Z0 rfl) rfl ?_
     refine JO.callPK (Lr := [_, _]) (Zm T hc b (z1.2.tail.tail) (Zj (Zj ((Z3h he _ _ hz1).1.trans hts))) Z4n (by decide +kernel) (by decide +kernel) (asc (by decide +kernel))) rfl (.refl _) (fun F hF => by repeat (first | (rcases Mc.1 hF with rfl | hF; · (repeat first | exact Mh | apply Mt)) | (cases hF; done))) (.one rfl (.one rfl .nil)) (fun hbad => ?_) ?_
     · exact JX.pnI (by rw [Z54 hnn, hz1]; show cmpP e z1.1 z1.2 = none; unfold cmpP; rw [hno]; dsimp only; rw [if_pos his, if_pos hi2, hbad]; rfl)
     intro z2 hz2
     try dsimp only [nA, cA]
     apply Ni
     repeat first | apply Nx | apply Nb
     refine Sl [2, 3] (.cons rfl (.cons rfl .nil)) ?_
     repeat apply Sq
     apply Pn
     refine Jt (Z2F Zd rfl) rfl ?_
     refine Jt (Z3g ZJ rfl) rfl ?_
     refine Jt (ZM rfl (Z2a 19 [z1.1]) (.one rfl (.one rfl .nil))) rfl ?_
     refine JO.m (Z4 rfl rfl (by repeat first | exact .here | apply Ut) (by first | exact cI rfl rfl | exact cE) (by first | exact cI rfl rfl | exact cE | exact cO) Zn) (by rfl) ?_
     apply Ni
     repeat first | apply Nx | apply Nb
     refine Sl [2] (.cons rfl .nil) ?_
     repeat apply Sq
     apply Rt
     repeat first | apply Rp | apply Rb
     refine JX.toP ?_
     exact JX.retLCs (Lr := [_, _]) (L1 := fun z : Ex × List T3 => [PB T b z.2]) (R := fun z => .rep (ExR z.1)) rfl (nd 19 [z1.1], z2.2) (by rw [Z54 hnn, hz1]; show cmpP e z1.1 z1.2 = _; unfold cmpP; rw [hno]; dsimp only; rw [if_pos his, if_pos hi2, hz2]; rfl) (.refl _) rfl rfl hb0 rfl Zd HasOwn.mem Z1t (Sub.refl _)
    ·
     try simp only [dT, dF] at ht37
     apply Sk
     repeat first | apply Nx | apply Nb
     have hi2 : isT 1 Z2x z1.2.tail = false := ht37
     rw [ZO hi2]
     repeat apply Sq
     apply Pn
     refine Jt (Z0 rfl) rfl ?_
     refine JO.callPK (Lr := [_, _]) (Zm T hc b (z1.2.tail) (Zj ((Z3h he _ _ hz1).1.trans hts)) Z4n (by decide +kernel) (by decide +kernel) (asc (by decide +kernel))) rfl (.refl _) (fun F hF => by repeat (first | (rcases Mc.1 hF with rfl | hF; · (repeat first | exact Mh | apply Mt)) | (cases hF; done))) (.one rfl (.one rfl .nil)) (fun hbad => ?_) ?_
     · exact JX.pnI (by rw [Z54 hnn, hz1]; show cmpP e z1.1 z1.2 = none; unfold cmpP; rw [hno]; dsimp only; rw [if_pos his, if_neg (by rw [hi2]; decide), hbad]; rfl)
     intro z2 hz2
     try dsimp only [nA, cA]
     apply Ni
     repeat first | apply Nx | apply Nb
     refine Sl [2, 3] (.cons rfl (.cons rfl .nil)) ?_
     repeat apply Sq
     apply Pn
     refine Jt (Z2F Zd rfl) rfl ?_
     refine Jt (Z3g ZJ rfl) rfl ?_
     refine Jt (ZM rfl (Z2a 18 [z1.1]) (.one rfl (.one rfl .nil))) rfl ?_
     refine JO.m (Z4 rfl rfl (by repeat first | exact .here | apply Ut) (by first | exact cI rfl rfl | exact cE) (by first | exact cI rfl rfl | exact cE | exact cO) Zn) (by rfl) ?_
     apply Ni
     repeat first | apply Nx | apply Nb
     refine Sl [2] (.cons rfl .nil) ?_
     repeat apply Sq
     apply Rt
     repeat first | apply Rp | apply Rb
     refine JX.toP ?_
     exact JX.retLCs (Lr := [_, _]) (L1 := fun z : Ex × List T3 => [PB T b z.2]) (R := fun z => .rep (ExR z.1)) rfl (nd 18 [z1.1], z2.2) (by rw [Z54 hnn, hz1]; show cmpP e z1.1 z1.2 = _; unfold cmpP; rw [hno]; dsimp only; rw [if_pos his, if_neg (by rw [hi2]; decide), hz2]; rfl) (.refl _) rfl rfl hb0 rfl Zd HasOwn.mem Z1t (Sub.refl _)
theorem Z4m (T : Tk) (hc : T.ts.length ≤ T.cap) (b : Nat) (e : Ps Ex) (he : Dn0 e) (N : Nat) (hsum : ∀ ts, ts <:+ T.ts → ts.length ≤ N → CallP Tryz.prog Z2n [PB T b (ts)] [T.G, AF] [.is (.pointer (some ⟨b, 0, none⟩))] (sumP e (ts) = none) flt (fun z : Ex × List T3 => sumP e (ts) = some z) (fun z => [PB T b z.2]) (fun z => .rep (ExR z.1))) : ∀ n ts, ts <:+ T.ts → ts.length ≤ N → ts.length ≤ n → CallP Tryz.prog Z1F [PB T b (ts)] [T.G, AF] [.is (.pointer (some ⟨b, 0, none⟩))] (notP e (ts) = none) flt (fun z : Ex × List T3 => notP e (ts) = some z) (fun z => [PB T b z.2]) (fun z => .rep (ExR z.1))
 | n, ts, hts, hN, hn => Z5l T hc b ts hts e he (fun us hus hl => hsum us hus (by omega)) fun us hus hl => by
  cases n with
  | zero => omega
  | succ n => exact Z4m T hc b e he N hsum n us hus (by omega) (by omega)
end Go.Proofs.YtbedigkncjbggaaGreatDoor
set_option maxRecDepth 20000
namespace Go.Proofs.YtbedigkncjbggaaGreatDoor
open Go Go.Vc
open Go.Pz
theorem wantN {k : Int} {s : ByteArray} {ts : List T3} (h : isT k s ts = false) : wantP k s ts = none := by unfold wantP; rw [if_neg (by rw [h]; decide)]
theorem wantY {k : Int} {s : ByteArray} {ts : List T3} (h : isT k s ts = true) : wantP k s ts = some ((), ts.tail) := by unfold wantP; rw [if_pos h]
abbrev kvL : List (ByteArray × Value) := [(Z5s, .int .i64 20), (Zam, .int .i64 21), (Zav, .int .i64 22), (Zao, .int .i64 23)]
theorem Z93 {a b : ByteArray} (h : sq a b = true) : a = b := by
 cases a; cases b
 simpa [sq] using h
theorem ZcD {w : ByteArray} {q : Int} (h : aggK w = some q) : ∃ j, j < 4 ∧ kvL[j]? = some (w, .int .i64 q) := by
 unfold aggK at h
 split at h
 · rename_i e; injection h with h; subst h; have e := Z93 e; subst e; exact ⟨0, by decide, rfl⟩
 split at h
 · rename_i e; injection h with h; subst h; have e := Z93 e; subst e; exact ⟨1, by decide, rfl⟩
 split at h
 · rename_i e; injection h with h; subst h; have e := Z93 e; subst e; exact ⟨2, by decide, rfl⟩
 split at h
 · rename_i e; injection h with h; subst h; have e := Z93 e; subst e; exact ⟨3, by decide, rfl⟩
 · cases h
theorem Z50 : (kvL.map (·.1)).Nodup := by decide
theorem Z5k {a b : ByteArray} (h : seq a b = false) : ¬ sq a b = true := by rw [← Z5z, h]; decide
theorem Z2T {a b : ByteArray} (h : seq a b = true) : sq a b = true := by rw [← Z5z]; exact h
structure KwS where
  m : MapS
  z : Option (Ex × List T3)
abbrev KwS.x (s : KwS) : Ex := (s.z.getD (ex0, [])).1
def KwS.L (T : Tk) (b : Nat) (us : List T3) (Lr : List Own) (s : KwS) : List Own := PB T b (match s.z with | none => us | some z => z.2) :: (mOwn s.m ++ Lr)
def KwS.T (b : Nat) (w : ByteArray) (q : Int) (s : KwS) : Nat → Ty
 | 0 => .is (.map s.m.mp)
 | 5 => .is (.map s.m.mp)
 | 6 => .is (.string w)
 | 7 => .is (.int .i64 q)
 | 8 => .is (.pointer (some ⟨b, 0, none⟩))
 | 9 => .rep (ExR s.x)
 | 10 => .rep (ExsR [s.x])
 | _ => .any
structure KwS.inv (e : Ps Ex) (us : List T3) (s : KwS) (D : Array Bool) : Prop where
  m : MInv kvL s.m fun j => D.getD j false
  f : D.getD 5 false = true → ∀ j, j < 5 → D.getD j false = true
  z : D.getD 9 false = s.z.isSome
  r : ∀ z, s.z = some z → e us = some z
  g : D.getD 10 false = true → D.getD 9 false = true
theorem Zat {D : Array Bool} {i : Nat} (hi : i < D.size) (j : Nat) : ((fun j => (D.setIfInBounds i true).getD j false) j = true) ↔ j = i ∨ ((fun j => D.getD j false) j = true) := Z14 hi
theorem ZC {D : Array Bool} {i j : Nat} (hi : i < D.size) (h : j ≠ i) : (D.setIfInBounds i true).getD j false = D.getD j false := by
  cases hq : D.getD j false with
  | true => exact (Z14 hi).2 (.inr hq)
  | false =>
    cases hq' : (D.setIfInBounds i true).getD j false with
    | false => rfl
    | true => rcases (Z14 hi).1 hq' with e | e
              · exact absurd e h
              · rw [hq] at e; cases e
theorem KwS.inv.other {e : Ps Ex} {us : List T3} {s : KwS} {D : Array Bool} (h : s.inv e us D) {i : Nat} (hs : i < D.size) (h4 : 4 < i) (h9 : i ≠ 9) (h5 : i = 5 → ∀ j, j < 5 → D.getD j false = true) (h10 : i = 10 → D.getD 9 false = true) : s.inv e us (D.setIfInBounds i true) := by
 refine ⟨h.m.other h4 (Zat hs), fun h1 j hj => ?_, by rw [ZC hs (Ne.symm h9)]; exact h.z, h.r, fun h1 => by
  rw [ZC hs (Ne.symm h9)]
  by_cases hi : i = 10
  · exact h10 hi
  · exact h.g (by rw [← ZC hs (Ne.symm hi)]; exact h1)⟩
 rw [ZC hs (by omega)]
 by_cases hi : i = 5
 · exact h5 hi j hj
 · exact h.f (by rw [← ZC hs (Ne.symm hi)]; exact h1) j hj
theorem KwS.inv.make {e : Ps Ex} {us : List T3} {s : KwS} {D : Array Bool} (h : s.inv e us D) (hs : 0 < D.size) (h0 : D.getD 0 false = false) (r : Nat) : KwS.inv e us ⟨⟨some r, [], 0⟩, s.z⟩ (D.setIfInBounds 0 true) := by
 refine ⟨h.m.make h0 (Zat hs) r, fun h1 j hj => ?_, by rw [ZC hs (by decide)]; exact h.z, h.r, fun h1 => by rw [ZC hs (by decide)] at h1 ⊢; exact h.g h1⟩
 rw [ZC hs (by decide)] at h1
 have := h.f h1 0 (by decide)
 rw [h0] at this; cases this
theorem KwS.inv.ins {e : Ps Ex} {us : List T3} {s : KwS} {D : Array Bool} (h : s.inv e us D) {j : Nat} {kv : ByteArray × Value} (hs : j + 1 < D.size) (hj : kvL[j]? = some kv) (hj4 : j < 4) (h1 : D.getD (j + 1) false = false) (h0 : D.getD 0 false = true) : KwS.inv e us ⟨⟨s.m.mp, s.m.es ++ [(kv.1, kv.2, s.m.n)], s.m.n + 1⟩, s.z⟩ (D.setIfInBounds (j + 1) true) := by
 refine ⟨h.m.ins hj h0 (Zat hs), fun h2 k hk => ?_, by rw [ZC hs (by omega)]; exact h.z, h.r, fun h3 => by rw [ZC hs (by omega)] at h3 ⊢; exact h.g h3⟩
 rw [ZC hs (by omega)] at h2
 have := h.f h2 (j + 1) (by omega)
 rw [h1] at this; cases this
theorem KwS.inv.call {e : Ps Ex} {us : List T3} {s : KwS} {D : Array Bool} (h : s.inv e us D) (hs : 9 < D.size) {z : Ex × List T3} (hz : e us = some z) : KwS.inv e us ⟨s.m, some z⟩ (D.setIfInBounds 9 true) :=
 ⟨h.m.other (by decide) (Zat hs), fun h1 j hj => by rw [ZC hs (by omega)]; exact h.f (by rw [← ZC hs (by decide)]; exact h1) j hj, by rw [(Z14 hs).2 (.inl rfl)]; rfl, fun y hy => by injection hy with hy; subst hy; exact hz, fun _ => (Z14 hs).2 (.inl rfl)⟩
theorem aggY {w : ByteArray} (h : (seq w Z5s || (seq w Zam || (seq w Zav || seq w Zao))) = true) : ∃ q, aggK w = some q := by
 simp only [Z5z] at h
 unfold aggK
 repeat' split
 all_goals first | exact ⟨_, rfl⟩ | simp_all
theorem aggN {w : ByteArray} (h : (seq w Z5s || (seq w Zam || (seq w Zav || seq w Zao))) = false) : aggK w = none := by
 simp only [Z5z] at h
 unfold aggK
 simp_all
theorem kwT0 {b : Nat} {w : ByteArray} {q : Int} {m m' : MapS} {zo : Option (Ex × List T3)} {D : Array Bool} (h5 : D.getD 5 false = false) (hd : D.getD 0 false = false) {j : Nat} (hj : D.getD j false = true) : KwS.T b w q ⟨m', zo⟩ j = KwS.T b w q ⟨m, zo⟩ j := by
  match j, hj with
  | 0, hj => rw [hd] at hj; cases hj
  | 5, hj => rw [h5] at hj; cases hj
  | 1, _ => rfl
  | 2, _ => rfl
  | 3, _ => rfl
  | 4, _ => rfl
  | 6, _ => rfl
  | 7, _ => rfl
  | 8, _ => rfl
  | 9, _ => rfl
  | 10, _ => rfl
  | j + 11, _ => rfl
theorem kwT9 {b : Nat} {w : ByteArray} {q : Int} {m : MapS} {zo zo' : Option (Ex × List T3)} {D : Array Bool} (h10 : D.getD 10 false = false) (hd : D.getD 9 false = false) {j : Nat} (hj : D.getD j false = true) : KwS.T b w q ⟨m, zo'⟩ j = KwS.T b w q ⟨m, zo⟩ j := by
  match j, hj with
  | 9, hj => rw [hd] at hj; cases hj
  | 10, hj => rw [h10] at hj; cases hj
  | 0, _ => rfl
  | 1, _ => rfl
  | 2, _ => rfl
  | 3, _ => rfl
  | 4, _ => rfl
  | 5, _ => rfl
  | 6, _ => rfl
  | 7, _ => rfl
  | 8, _ => rfl
  | j + 11, _ => rfl
theorem Z5E (T : Tk) (hc : T.ts.length ≤ T.cap) (b : Nat) (ts : List T3) (hts : ts <:+ T.ts) (e : Ps Ex) (exprDn : ∀ {us : List T3} {z : Ex × List T3}, e us = some z → z.2 <:+ us) (hex : ∀ us, us <:+ T.ts → us.length < ts.length → CallP Tryz.prog Zw [PB T b (us)] [T.G, AF] [.is (.pointer (some ⟨b, 0, none⟩))] (e (us) = none) flt (fun z : Ex × List T3 => e (us) = some z) (fun z => [PB T b z.2]) (fun z => .rep (ExR z.1))) : CallP Tryz.prog Z5W [PB T b ts] [T.G, AF] [.is (.pointer (some ⟨b, 0, none⟩))] (kwP e ts = none) flt (fun z : Ex × List T3 => kwP e ts = some z) (fun z => [PB T b z.2]) (fun z => .rep (ExR z.1)) :=
CallP.of (fn := Tryz.f194) Tryz.func194 (n := 53) rfl rfl rfl (fun _ _ => by kernel_rfl) fun E W hb0 => by
  repeat apply Sq
  apply Pn
  refine JO.alloc ZY rfl fun b2 => ?_
  apply Ni
  repeat first | apply Nx | apply Nb
  refine Sl [0, 2] (.cons rfl (.cons rfl .nil)) ?_
  repeat apply Sq
  apply Pn
  refine Jt (Z0 rfl) rfl ?_
  refine JO.callPK (Lr := [_]) (Z1i T hc b ts hts 1) rfl (.swap _ _ _) (fun F hF => by repeat (first | (rcases Mc.1 hF with rfl | hF; · (repeat first | exact Mh | apply Mt)) | (cases hF; done))) (.one rfl (.one rfl .nil)) (fun hbad => ?_) ?_
  · exact JX.pnI (by unfold kwP; rw [hbad]; rfl)
  rintro ⟨⟨k1, w, n1⟩, r1⟩ hz1
  try dsimp only [nA, cA]
  refine Jt (Z3u (off := 1) (by kernel_rfl) rfl rfl) rfl ?_
  refine Jt (Z2 rfl) rfl ?_
  apply Ni
  repeat first | apply Nx | apply Nb
  refine Sl [0, 2, 3] (.cons rfl (.cons rfl (.cons rfl .nil))) ?_
  repeat apply Sq
  apply Pn
  refine Jt (Z0 rfl) rfl ?_
  apply Ni
  repeat first | apply Nx | apply Nb
  refine Sl [0, 2, 3, 8] (.cons rfl (.cons rfl (.cons rfl (.cons rfl .nil)))) ?_
  repeat apply Sq
  apply Bk
  repeat apply Sq
  apply Pn
  refine Jt (Z3B rfl rfl) rfl ?_
  refine Jt (Z2 rfl) rfl ?_
  apply Ni
  repeat first | apply Nx | apply Nb
  refine Sl [0, 2, 3, 8, 9] (.cons rfl (.cons rfl (.cons rfl (.cons rfl (.cons rfl .nil))))) ?_
  repeat apply Sq
  refine Cd rfl (fun ht9 => ?_) (fun ht9 => ?_)
  ·
    try simp only [dT, dF] at ht9
    repeat apply Sq
    apply Pn
    refine Jt (Zv (cs := [_, _, _]) Z3x (.cons rfl (.cons rfl .nil)) rfl rfl) rfl ?_
    refine Jt (ZM rfl (Z2J 2 1 em) (.one rfl .nil)) rfl ?_
    refine JO.m (Z4 rfl rfl (by repeat first | exact .here | apply Ut) (by first | exact cI rfl rfl | exact cE) (by first | exact cI rfl rfl | exact cE | exact cO) Zn) (by rfl) ?_
    apply Ni
    repeat first | apply Nx | apply Nb
    refine Sl [2] (.cons rfl .nil) ?_
    repeat apply Sq
    apply Rt
    repeat first | apply Rp | apply Rb
    refine JX.toP ?_
    exact JX.retLCs (Lr := [_]) (L1 := fun z : Ex × List T3 => [PB T b z.2]) (R := fun z => .rep (ExR z.1)) rfl (lit 2 1 em, r1) (by unfold kwP; rw [hz1]; simp only [Option.bind_some]; rw [if_pos (Z2T ht9)]) (.refl _) rfl rfl hb0 rfl Zd HasOwn.mem Z1t (Sub.refl _)
  ·
    try simp only [dT, dF] at ht9
    have hT := Z5k ht9
    repeat apply Sq
    apply Pn
    refine Jt (Z3B rfl rfl) rfl ?_
    refine Jt (Z2 rfl) rfl ?_
    apply Ni
    repeat first | apply Nx | apply Nb
    refine Sl [0, 2, 3, 8, 13] (.cons rfl (.cons rfl (.cons rfl (.cons rfl (.cons rfl .nil))))) ?_
    repeat apply Sq
    refine Cd rfl (fun ht13 => ?_) (fun ht13 => ?_)
    ·
      try simp only [dT, dF] at ht13
      repeat apply Sq
      apply Pn
      refine Jt (Zv (cs := [_, _, _]) Z3x (.cons rfl .nil) rfl rfl) rfl ?_
      refine Jt (ZM rfl (Z2J 2 0 em) (.one rfl .nil)) rfl ?_
      refine JO.m (Z4 rfl rfl (by repeat first | exact .here | apply Ut) (by first | exact cI rfl rfl | exact cE) (by first | exact cI rfl rfl | exact cE | exact cO) Zn) (by rfl) ?_
      apply Ni
      repeat first | apply Nx | apply Nb
      refine Sl [2] (.cons rfl .nil) ?_
      repeat apply Sq
      apply Rt
      repeat first | apply Rp | apply Rb
      refine JX.toP ?_
      exact JX.retLCs (Lr := [_]) (L1 := fun z : Ex × List T3 => [PB T b z.2]) (R := fun z => .rep (ExR z.1)) rfl (lit 2 0 em, r1) (by unfold kwP; rw [hz1]; simp only [Option.bind_some]; rw [if_neg hT, if_pos (Z2T ht13)]) (.refl _) rfl rfl hb0 rfl Zd HasOwn.mem Z1t (Sub.refl _)
    ·
      try simp only [dT, dF] at ht13
      have hF := Z5k ht13
      repeat apply Sq
      apply Pn
      refine Jt (Z3B rfl rfl) rfl ?_
      refine Jt (Z2 rfl) rfl ?_
      apply Ni
      repeat first | apply Nx | apply Nb
      refine Sl [0, 2, 3, 8, 17] (.cons rfl (.cons rfl (.cons rfl (.cons rfl (.cons rfl .nil))))) ?_
      repeat apply Sq
      refine Cd rfl (fun ht17 => ?_) (fun ht17 => ?_)
      ·
        try simp only [dT, dF] at ht17
        repeat apply Sq
        apply Pn
        refine Jt (Zv (cs := [_, _, _]) Z3x .nil rfl rfl) rfl ?_
        refine Jt (ZM rfl (Z2J 0 0 em) (.one rfl .nil)) rfl ?_
        refine JO.m (Z4 rfl rfl (by repeat first | exact .here | apply Ut) (by first | exact cI rfl rfl | exact cE) (by first | exact cI rfl rfl | exact cE | exact cO) Zn) (by rfl) ?_
        apply Ni
        repeat first | apply Nx | apply Nb
        refine Sl [2] (.cons rfl .nil) ?_
        repeat apply Sq
        apply Rt
        repeat first | apply Rp | apply Rb
        refine JX.toP ?_
        exact JX.retLCs (Lr := [_]) (L1 := fun z : Ex × List T3 => [PB T b z.2]) (R := fun z => .rep (ExR z.1)) rfl (lit 0 0 em, r1) (by unfold kwP; rw [hz1]; simp only [Option.bind_some]; rw [if_neg hT, if_neg hF, if_pos (Z2T ht17)]) (.refl _) rfl rfl hb0 rfl Zd HasOwn.mem Z1t (Sub.refl _)
      ·
        try simp only [dT, dF] at ht17
        have hN := Z5k ht17
        repeat apply Sq
        apply Pn
        refine Jt (Z3B rfl rfl) rfl ?_
        refine Jt (Z2 rfl) rfl ?_
        apply Ni
        repeat first | apply Nx | apply Nb
        refine Sl [0, 2, 3, 8, 21] (.cons rfl (.cons rfl (.cons rfl (.cons rfl (.cons rfl .nil))))) ?_
        first | apply J.or [0, 2, 3] rfl (.cons rfl (.cons rfl (.cons rfl .nil))) | apply J.orN [0, 2, 3] rfl (.cons rfl (.cons rfl (.cons rfl .nil)))
        · intro ht21
          repeat apply Sq
          apply Pn
          refine Jt (Z3B rfl rfl) rfl ?_
          refine Jt (Z2 rfl) rfl ?_
          apply Ni
          refine JX.next ?_
          apply J.orT [0, 2, 3] rfl (.cons rfl (.cons rfl (.cons rfl .nil)))
          · intro ht21
            repeat apply Sq
            apply Pn
            refine Jt (Z3B rfl rfl) rfl ?_
            refine Jt (Z2 rfl) rfl ?_
            apply Ni
            refine JX.next ?_
            apply J.orT [0, 2, 3] rfl (.cons rfl (.cons rfl (.cons rfl .nil)))
            · intro ht21
              repeat apply Sq
              apply Pn
              refine Jt (Z3B rfl rfl) rfl ?_
              refine Jt (Z2 rfl) rfl ?_
              apply Ni
              exact JX.mids [21, 0, 2, 3] (.cons rfl (.cons rfl (.cons rfl (.cons rfl .nil))))
        repeat apply Sq
        refine Cd rfl (fun ht21 => ?_) (fun ht21 => ?_)
        ·
          try simp only [dT, dF] at ht21
          obtain ⟨q, hq⟩ := aggY ht21
          repeat apply Sq
          apply Pn
          refine Jt (Z0 rfl) rfl ?_
          refine Jt (Z0 rfl) rfl ?_
          refine JO.callK (Lr := [_]) (Z9 T hc b r1 ((ZL 1 _ _ hz1).1.trans hts) s_lp) rfl (.refl _) (fun F hF => by repeat (first | (rcases Mc.1 hF with rfl | hF; · (repeat first | exact Mh | apply Mt)) | (cases hF; done))) (.one rfl (.one rfl .nil)) ?_
          intro _ _
          try dsimp only [nA, cA]
          refine JO.callPK (Lr := _) (Z8 (.pointer (some ⟨b, 0, none⟩)) (isT 5 s_lp r1)) rfl (Z19 _) ZV (.one rfl (.one rfl .nil)) (fun hbad => ?_) ?_
          · exact JX.pnI (by unfold kwP; rw [hz1]; simp only [Option.bind_some]; rw [if_neg hT, if_neg hF, if_neg hN, hq]; dsimp only; rw [wantN hbad]; rfl)
          intro _ hlp
          try dsimp only [nA, cA]
          apply Ni
          repeat first | apply Nx | apply Nb
          refine Sl [0, 2, 3] (.cons rfl (.cons rfl (.cons rfl .nil))) ?_
          rw [ZK hlp]
          repeat apply Sq
          apply Pn
          refine Jt (Ob.im (Zv (cs := [_, _, _, _, _, _, _, _]) Z4X (.cons rfl .nil) rfl rfl) (Sub.leaf (k := 20) (vk := 0) (vn := 0) (vs := em) (tb := em) (nm := em) (sl := 0))) rfl ?_
          refine JO.alloc ZY rfl fun b4 => ?_
          refine JO.m (Z4 rfl rfl (by repeat first | exact .here | apply Ut) (by first | exact cI rfl rfl | exact cE) (by first | exact cI rfl rfl | exact cE | exact cO) Zn) (by rfl) ?_
          apply Ni
          repeat first | apply Nx | apply Nb
          refine Sl [0, 2, 3, 4] (.cons rfl (.cons rfl (.cons rfl (.cons rfl .nil)))) ?_
          rcases Bool.eq_false_or_eq_true (seq w Z5s) with hcnt | hcnt
          ·
            repeat apply Sq
            apply Pn
            refine Jt (Z0 rfl) rfl ?_
            refine Jt (ZaT (cc := false) rfl rfl (by rw [hcnt]; rfl)) rfl ?_
            refine Jt (Z0 rfl) rfl ?_
            refine JO.gd rfl rfl rfl ?_
            refine Jt (Z0 rfl) rfl ?_
            refine JO.gd rfl rfl rfl ?_
            refine JO.callK (Lr := [_, _]) (Z9 T hc b r1.tail (Zj ((ZL 1 _ _ hz1).1.trans hts)) Z2s) rfl (.swap _ _ _) (fun F hF => by repeat (first | (rcases Mc.1 hF with rfl | hF; · (repeat first | exact Mh | apply Mt)) | (cases hF; done))) (.one rfl (.one rfl .nil)) ?_
            intro _ _
            try dsimp only [nA, cA]
            refine JO.gd rfl rfl rfl ?_
            refine Jt (Z51 rfl) rfl ?_
            refine Jt (ZaY rfl rfl) rfl ?_
            apply Ni
            repeat first | apply Nx | apply Nb
            refine Sl [0, 2, 3, 4, 37] (.cons rfl (.cons rfl (.cons rfl (.cons rfl (.cons rfl .nil))))) ?_
            repeat apply Sq
            refine Cd rfl (fun ht37 => ?_) (fun ht37 => ?_)
            ·
              try simp only [dT, dF] at ht37
              try have hst : isT 5 Z2s r1.tail = false := by simpa using ht37
              try rw [ZO hst]
              refine J.has (L' := [PB T b r1.tail, ⟨b4, Z6, .rep (ExR (nd 20 []))⟩, ⟨b2, Z6, .is (.agg #[.int .i64 0, .int .i64 0, .int .i64 0, .string ⟨#[]⟩, .string ⟨#[]⟩, .string ⟨#[]⟩, .int .i64 0, .slice none 0 0])⟩]) (by repeat (first | exact .all | exact .nil | refine Has.cons (by repeat (first | exact .here | apply Pk.past | apply Pk.there)) ?_)) ?_
              repeat apply Sq
              refine J.regMach (Bad := e r1.tail = none) (ch := flt) 11 (KwS.L T b (r1.tail) [⟨b4, Z6, .rep (ExR (nd 20 []))⟩, ⟨b2, Z6, .is (.agg #[.int .i64 0, .int .i64 0, .int .i64 0, .string ⟨#[]⟩, .string ⟨#[]⟩, .string ⟨#[]⟩, .int .i64 0, .slice none 0 0])⟩]) (KwS.T b w q) (KwS.inv e (r1.tail)) (fun i => decide (i < 5) || i == 9) ⟨⟨none, [], 0⟩, none⟩ rfl ?_ (fun hbad => ?_) hmx (by kernel_rfl) rfl (by kernel_rfl) ?_ ?_ ?_
              · exact ⟨.start (fun j => by rw [Array.getD_eq_getD_getElem?, Array.getElem?_replicate]; split <;> rfl), (fun h => by cases h), rfl, (fun z h => by cases h), (fun h => by cases h)⟩
              · exact JX.pnI (by first | (unfold kwP; rw [hz1]; simp only [Option.bind_some]; rw [if_neg hT, if_neg hF, if_neg hN, hq]; dsimp only; rw [wantY hlp]; simp only [Option.bind_some]; rw [Z2T hcnt, hst]; simp only [Bool.true_and, Bool.false_eq_true, if_false]; rw [hbad]; rfl) | (unfold kwP; rw [hz1]; simp only [Option.bind_some]; rw [if_neg hT, if_neg hF, if_neg hN, hq]; dsimp only; rw [wantY hlp]; simp only [Option.bind_some]; rw [if_neg (by rw [Bool.and_eq_true]; exact fun h => Z5k hcnt h.1)]; rw [hbad]; rfl))
              · intro s D i o hs hinv hA hbg hd hr
                match i, hA, hbg, hd, hr with
                | 0, _, hbg, _, _ => exact absurd hbg (by decide)
                | 1, _, hbg, _, _ => exact absurd hbg (by decide)
                | 2, _, hbg, _, _ => exact absurd hbg (by decide)
                | 3, _, hbg, _, _ => exact absurd hbg (by decide)
                | 4, _, hbg, _, _ => exact absurd hbg (by decide)
                | 5, hA, _, hd, hr =>
                  obtain rfl := Option.some.inj hA
                  have h9 := hinv.other (i := 5) (by omega) (by decide) (by decide) (fun _ j hj => by
                    match j, hj with
                    | 0, _ => exact hr _ rfl ⟨0, .data⟩ (by simp) rfl
                    | 1, _ => exact hr _ rfl ⟨1, .data⟩ (by simp) rfl
                    | 2, _ => exact hr _ rfl ⟨2, .data⟩ (by simp) rfl
                    | 3, _ => exact hr _ rfl ⟨3, .data⟩ (by simp) rfl
                    | 4, _ => exact hr _ rfl ⟨4, .data⟩ (by simp) rfl) (fun h => by cases h)
                  exact ⟨h9, rfl, (Z0 rfl)⟩
                | 6, hA, _, hd, hr =>
                  obtain rfl := Option.some.inj hA
                  exact ⟨hinv.other (by omega) (by decide) (by decide) (fun h => by cases h) (fun h => by cases h), rfl, (Z0 rfl)⟩
                | 7, hA, _, hd, hr =>
                  obtain rfl := Option.some.inj hA
                  have hall := hinv.f (hr _ rfl ⟨5, .data⟩ (by simp) rfl)
                  refine ⟨hinv.other (by omega) (by decide) (by decide) (fun h => by cases h) (fun h => by cases h), rfl, ?_⟩
                  obtain ⟨j, hj4, hj⟩ := ZcD hq
                  have hget := hinv.m.get Z50 hj (hall (j + 1) (by omega))
                  obtain ⟨r, hr0⟩ := hinv.m.some_ (hall 0 (by decide))
                  obtain ⟨⟨mp, es, n⟩, zo⟩ := s
                  dsimp only at hr0; subst hr0
                  exact ZcF Z1d Zs Zez rfl rfl (List.mem_cons_of_mem _ List.mem_cons_self) (by dsimp only at hget; rw [hget]; rfl)
                | 8, hA, _, hd, hr =>
                  obtain rfl := Option.some.inj hA
                  exact ⟨hinv.other (by omega) (by decide) (by decide) (fun h => by cases h) (fun h => by cases h), rfl, (Z0 rfl)⟩
                | 9, _, hbg, _, _ => exact absurd hbg (by decide)
                | 10, hA, _, hd, hr =>
                  obtain rfl := Option.some.inj hA
                  exact ⟨hinv.other (by omega) (by decide) (by decide) (fun h => by cases h) (fun _ => hr _ rfl ⟨9, .data⟩ (by simp) rfl), rfl, (Z3g ZJ rfl)⟩
                | i + 11, hA, _, hd, hr => simp at hA
              · intro s D i o hs hinv hA hbg hd hr
                match i, hA, hbg, hd, hr with
                | 0, hA, _, hd, hr =>
                  obtain rfl := Option.some.inj hA
                  obtain ⟨⟨mp, es, n⟩, zo⟩ := s
                  have hmp : mp = none := by
                    have := hinv.m.a
                    dsimp only at this
                    rw [hd] at this
                    cases mp with
                    | none => rfl
                    | some r => cases this
                  subst hmp
                  have h5 : D.getD 5 false = false := by
                    cases h : D.getD 5 false with
                    | false => rfl
                    | true => have := hinv.f h 0 (by decide); rw [hd] at this; cases this
                  exact ⟨rfl, .inl (Z9P.to (fun r => ⟨⟨⟨some r, [], 0⟩, zo⟩, hinv.make (by omega) hd r, fun j hj => kwT0 h5 hd hj⟩) (fun _ => rfl) (fun _ => .swap _ _ _))⟩
                | 1, hA, _, hd, hr =>
                  obtain rfl := Option.some.inj hA
                  obtain ⟨⟨mp, es, n⟩, zo⟩ := s
                  obtain ⟨r, hr0⟩ := hinv.m.some_ (hr _ rfl ⟨0, .data⟩ (by simp) rfl)
                  dsimp only at hr0; subst hr0
                  have hg := hinv.m.fresh Z50 (j := 0) rfl hd
                  have hi := hinv.ins (j := 0) (by omega) rfl (by decide) hd (hr _ rfl ⟨0, .data⟩ (by simp) rfl)
                  exact ⟨rfl, .inl ((BigOb.ofM (Z1I Z1d Zs rfl rfl rfl hg (.there .here)) rfl).to (fun _ => ⟨_, hi, fun j hj => rfl⟩) (fun _ => rfl) (fun _ => .refl _))⟩
                | 2, hA, _, hd, hr =>
                  obtain rfl := Option.some.inj hA
                  obtain ⟨⟨mp, es, n⟩, zo⟩ := s
                  obtain ⟨r, hr0⟩ := hinv.m.some_ (hr _ rfl ⟨0, .data⟩ (by simp) rfl)
                  dsimp only at hr0; subst hr0
                  have hg := hinv.m.fresh Z50 (j := 1) rfl hd
                  have hi := hinv.ins (j := 1) (by omega) rfl (by decide) hd (hr _ rfl ⟨0, .data⟩ (by simp) rfl)
                  exact ⟨rfl, .inl ((BigOb.ofM (Z1I Z1d Zs rfl rfl rfl hg (.there .here)) rfl).to (fun _ => ⟨_, hi, fun j hj => rfl⟩) (fun _ => rfl) (fun _ => .refl _))⟩
                | 3, hA, _, hd, hr =>
                  obtain rfl := Option.some.inj hA
                  obtain ⟨⟨mp, es, n⟩, zo⟩ := s
                  obtain ⟨r, hr0⟩ := hinv.m.some_ (hr _ rfl ⟨0, .data⟩ (by simp) rfl)
                  dsimp only at hr0; subst hr0
                  have hg := hinv.m.fresh Z50 (j := 2) rfl hd
                  have hi := hinv.ins (j := 2) (by omega) rfl (by decide) hd (hr _ rfl ⟨0, .data⟩ (by simp) rfl)
                  exact ⟨rfl, .inl ((BigOb.ofM (Z1I Z1d Zs rfl rfl rfl hg (.there .here)) rfl).to (fun _ => ⟨_, hi, fun j hj => rfl⟩) (fun _ => rfl) (fun _ => .refl _))⟩
                | 4, hA, _, hd, hr =>
                  obtain rfl := Option.some.inj hA
                  obtain ⟨⟨mp, es, n⟩, zo⟩ := s
                  obtain ⟨r, hr0⟩ := hinv.m.some_ (hr _ rfl ⟨0, .data⟩ (by simp) rfl)
                  dsimp only at hr0; subst hr0
                  have hg := hinv.m.fresh Z50 (j := 3) rfl hd
                  have hi := hinv.ins (j := 3) (by omega) rfl (by decide) hd (hr _ rfl ⟨0, .data⟩ (by simp) rfl)
                  exact ⟨rfl, .inl ((BigOb.ofM (Z1I Z1d Zs rfl rfl rfl hg (.there .here)) rfl).to (fun _ => ⟨_, hi, fun j hj => rfl⟩) (fun _ => rfl) (fun _ => .refl _))⟩
                | 5, _, hbg, _, _ => exact absurd hbg (by decide)
                | 6, _, hbg, _, _ => exact absurd hbg (by decide)
                | 7, _, hbg, _, _ => exact absurd hbg (by decide)
                | 8, _, hbg, _, _ => exact absurd hbg (by decide)
                | 9, hA, _, hd, hr =>
                  obtain rfl := Option.some.inj hA
                  obtain ⟨m, zo⟩ := s
                  have hzo : zo = none := by
                    have := hinv.z
                    dsimp only at this
                    rw [hd] at this
                    cases zo with
                    | none => rfl
                    | some r => cases this
                  subst hzo
                  have h10 : D.getD 10 false = false := by
                    cases h : D.getD 10 false with
                    | false => rfl
                    | true => have := hinv.g h; rw [hd] at this; cases this
                  exact ⟨rfl, .inr ((Z57 rfl (hex r1.tail (Zj ((ZL 1 _ _ hz1).1.trans hts)) (by have := (Zu hlp).2; have h1 : r1.length < ts.length := (ZL 1 _ _ hz1).2; omega)) (.refl _) (fun F hF => by repeat (first | (rcases Mc.1 hF with rfl | hF; · (repeat first | exact Mh | apply Mt)) | (cases hF; done))) (.one rfl .nil)).to (fun z => ⟨⟨m, some z.1⟩, hinv.call (by omega) z.2, fun j hj => kwT9 h10 hd hj⟩) (fun _ => rfl) (fun _ => .refl _))⟩
                | 10, _, hbg, _, _ => exact absurd hbg (by decide)
                | i + 11, hA, _, hd, hr => simp at hA
              intro s D hs hall hinv
              obtain ⟨⟨mp, es, n⟩, zo⟩ := s
              obtain ⟨r, hr0⟩ := hinv.m.some_ (hall 0 (by decide))
              dsimp only at hr0; subst hr0
              have hzz := hinv.z
              rw [hall 9 (by decide)] at hzz
              obtain ⟨z, hzo⟩ := Option.isSome_iff_exists.1 hzz.symm
              dsimp only at hzo; subst hzo
              have hzr : e (r1.tail) = some z := hinv.r z rfl
              refine JO.subL (L' := [PB T b z.2] ++ (⟨r, 0, .ob (sObj es n)⟩ :: [⟨b4, Z6, .rep (ExR (nd 20 []))⟩, ⟨b2, Z6, .is (.agg #[.int .i64 0, .int .i64 0, .int .i64 0, .string ⟨#[]⟩, .string ⟨#[]⟩, .string ⟨#[]⟩, .int .i64 0, .slice none 0 0])⟩])) (.refl _) ?_
              try dsimp only [nA, cA]
              refine Jt (ZM rfl (Z2a q [z.1]) (.one rfl (.one rfl .nil))) rfl ?_
              refine JO.m (Z4 rfl rfl (by repeat first | exact .here | apply Ut) (by first | exact cI rfl rfl | exact cE) (by first | exact cI rfl rfl | exact cE | exact cO) Zn) (by rfl) ?_
              apply Ni
              repeat first | apply Nx | apply Nb
              refine Sl [0, 2, 4] (.cons rfl (.cons rfl (.cons rfl .nil))) ?_
              first | (refine J.has (L' := [PB T b z.2, ⟨b4, Z6, .rep (ExR (nd q [z.1]))⟩, ⟨b2, Z6, .is (.agg #[.int .i64 0, .int .i64 0, .int .i64 0, .string ⟨#[]⟩, .string ⟨#[]⟩, .string ⟨#[]⟩, .int .i64 0, .slice none 0 0])⟩]) (by repeat (first | exact .all | exact .nil | refine Has.cons (by repeat (first | exact .here | apply Pk.past | apply Pk.there)) ?_)) ?_; have husx := (exprDn hzr).trans (Zj ((ZL 1 _ _ hz1).1.trans hts))) | (have hst : isT 5 Z2s r1.tail = true := (by simpa using ht37); rw [ZK hst]; have husx := Zj (Zj ((ZL 1 _ _ hz1).1.trans hts)))
              repeat apply Sq
              apply Pn
              refine Jt (Z0 rfl) rfl ?_
              refine Jt (Z0 rfl) rfl ?_
              refine JO.callK (Lr := [_, _]) (Z9 T hc b _ husx s_rp) rfl (.refl _) (fun F hF => by repeat (first | (rcases Mc.1 hF with rfl | hF; · (repeat first | exact Mh | apply Mt)) | (cases hF; done))) (.one rfl (.one rfl .nil)) ?_
              intro _ _
              try dsimp only [nA, cA]
              refine JO.callPK (Lr := _) (Z8 (.pointer (some ⟨b, 0, none⟩)) (isT 5 s_rp _)) rfl (Z19 _) ZV (.one rfl (.one rfl .nil)) (fun hbad => ?_) ?_
              · exact JX.pnI (by first | (unfold kwP; rw [hz1]; simp only [Option.bind_some]; rw [if_neg hT, if_neg hF, if_neg hN, hq]; dsimp only; rw [wantY hlp]; simp only [Option.bind_some]; rw [Z2T hcnt, hst]; simp only [Bool.true_and, if_true]; rw [wantN hbad]; rfl) | (first | (unfold kwP; rw [hz1]; simp only [Option.bind_some]; rw [if_neg hT, if_neg hF, if_neg hN, hq]; dsimp only; rw [wantY hlp]; simp only [Option.bind_some]; rw [Z2T hcnt, hst]; simp only [Bool.true_and, Bool.false_eq_true, if_false]; rw [hzr]; simp only [Option.bind_some]; rw [wantN hbad]; rfl) | (unfold kwP; rw [hz1]; simp only [Option.bind_some]; rw [if_neg hT, if_neg hF, if_neg hN, hq]; dsimp only; rw [wantY hlp]; simp only [Option.bind_some]; rw [if_neg (by rw [Bool.and_eq_true]; exact fun h => Z5k hcnt h.1)]; rw [hzr]; simp only [Option.bind_some]; rw [wantN hbad]; rfl)))
              intro _ hrp
              try dsimp only [nA, cA]
              apply Ni
              repeat first | apply Nx | apply Nb
              refine Sl [2, 4] (.cons rfl (.cons rfl .nil)) ?_
              rw [ZK hrp]
              repeat apply Sq
              apply Pn
              refine Jt (Z2F Zd rfl) rfl ?_
              refine JO.m (Z4 rfl rfl (by repeat first | exact .here | apply Ut) (by first | exact cI rfl rfl | exact cE) (by first | exact cI rfl rfl | exact cE | exact cO) Zn) (by rfl) ?_
              apply Ni
              repeat first | apply Nx | apply Nb
              refine Sl [2] (.cons rfl .nil) ?_
              repeat apply Sq
              apply Rt
              repeat first | apply Rp | apply Rb
              refine JX.toP ?_
              exact JX.retLCs (Lr := [_, _]) (L1 := fun z : Ex × List T3 => [PB T b z.2]) (R := fun z => .rep (ExR z.1)) rfl (nd q [z.1], z.2.tail) (by unfold kwP; rw [hz1]; simp only [Option.bind_some]; rw [if_neg hT, if_neg hF, if_neg hN, hq]; dsimp only; rw [wantY hlp]; simp only [Option.bind_some]; rw [Z2T hcnt, hst]; simp only [Bool.true_and, Bool.false_eq_true, if_false]; rw [hzr]; simp only [Option.bind_some]; rw [wantY hrp]; rfl) (.refl _) rfl rfl hb0 rfl Zd HasOwn.mem Z1t (Sub.refl _)
            ·
              try simp only [dT, dF] at ht37
              apply Sk
              repeat first | apply Nx | apply Nb
              first | (refine J.has (L' := [PB T b z.2, ⟨b4, Z6, .rep (ExR (nd q [z.1]))⟩, ⟨b2, Z6, .is (.agg #[.int .i64 0, .int .i64 0, .int .i64 0, .string ⟨#[]⟩, .string ⟨#[]⟩, .string ⟨#[]⟩, .int .i64 0, .slice none 0 0])⟩]) (by repeat (first | exact .all | exact .nil | refine Has.cons (by repeat (first | exact .here | apply Pk.past | apply Pk.there)) ?_)) ?_; have husx := (exprDn hzr).trans (Zj ((ZL 1 _ _ hz1).1.trans hts))) | (have hst : isT 5 Z2s r1.tail = true := (by simpa using ht37); rw [ZK hst]; have husx := Zj (Zj ((ZL 1 _ _ hz1).1.trans hts)))
              repeat apply Sq
              apply Pn
              refine Jt (Z0 rfl) rfl ?_
              refine Jt (Z0 rfl) rfl ?_
              refine JO.callK (Lr := [_, _]) (Z9 T hc b _ husx s_rp) rfl (.refl _) (fun F hF => by repeat (first | (rcases Mc.1 hF with rfl | hF; · (repeat first | exact Mh | apply Mt)) | (cases hF; done))) (.one rfl (.one rfl .nil)) ?_
              intro _ _
              try dsimp only [nA, cA]
              refine JO.callPK (Lr := _) (Z8 (.pointer (some ⟨b, 0, none⟩)) (isT 5 s_rp _)) rfl (Z19 _) ZV (.one rfl (.one rfl .nil)) (fun hbad => ?_) ?_
              · exact JX.pnI (by first | (unfold kwP; rw [hz1]; simp only [Option.bind_some]; rw [if_neg hT, if_neg hF, if_neg hN, hq]; dsimp only; rw [wantY hlp]; simp only [Option.bind_some]; rw [Z2T hcnt, hst]; simp only [Bool.true_and, if_true]; rw [wantN hbad]; rfl) | (first | (unfold kwP; rw [hz1]; simp only [Option.bind_some]; rw [if_neg hT, if_neg hF, if_neg hN, hq]; dsimp only; rw [wantY hlp]; simp only [Option.bind_some]; rw [Z2T hcnt, hst]; simp only [Bool.true_and, Bool.false_eq_true, if_false]; rw [hzr]; simp only [Option.bind_some]; rw [wantN hbad]; rfl) | (unfold kwP; rw [hz1]; simp only [Option.bind_some]; rw [if_neg hT, if_neg hF, if_neg hN, hq]; dsimp only; rw [wantY hlp]; simp only [Option.bind_some]; rw [if_neg (by rw [Bool.and_eq_true]; exact fun h => Z5k hcnt h.1)]; rw [hzr]; simp only [Option.bind_some]; rw [wantN hbad]; rfl)))
              intro _ hrp
              try dsimp only [nA, cA]
              apply Ni
              repeat first | apply Nx | apply Nb
              refine Sl [2, 4] (.cons rfl (.cons rfl .nil)) ?_
              rw [ZK hrp]
              repeat apply Sq
              apply Pn
              refine Jt (Z2F Zd rfl) rfl ?_
              refine JO.m (Z4 rfl rfl (by repeat first | exact .here | apply Ut) (by first | exact cI rfl rfl | exact cE) (by first | exact cI rfl rfl | exact cE | exact cO) Zn) (by rfl) ?_
              apply Ni
              repeat first | apply Nx | apply Nb
              refine Sl [2] (.cons rfl .nil) ?_
              repeat apply Sq
              apply Rt
              repeat first | apply Rp | apply Rb
              refine JX.toP ?_
              exact JX.retLCs (Lr := [_, _]) (L1 := fun z : Ex × List T3 => [PB T b z.2]) (R := fun z => .rep (ExR z.1)) rfl (nd 20 [], r1.tail.tail.tail) (by unfold kwP; rw [hz1]; simp only [Option.bind_some]; rw [if_neg hT, if_neg hF, if_neg hN, hq]; dsimp only; rw [wantY hlp]; simp only [Option.bind_some]; rw [Z2T hcnt, hst]; simp only [Bool.true_and, if_true]; rw [wantY hrp]; rfl) (.refl _) rfl rfl hb0 rfl Zd HasOwn.mem Z1t (Sub.refl _)
          ·
            repeat apply Sq
            apply Pn
            refine Jt (Z0 rfl) rfl ?_
            refine Jt (ZaT (cc := true) rfl rfl (by rw [hcnt]; rfl)) rfl ?_
            refine Jt (Z0 rfl) rfl ?_
            refine JO.gn rfl rfl rfl rfl rfl ?_
            refine JO.gn rfl rfl rfl rfl rfl ?_
            refine JO.gn rfl rfl rfl rfl rfl ?_
            refine Jt (ZaO rfl rfl) rfl ?_
            apply Ni
            repeat first | apply Nx | apply Nb
            refine Sl [0, 2, 3, 4, 37] (.cons rfl (.cons rfl (.cons rfl (.cons rfl (.cons rfl .nil))))) ?_
            repeat apply Sq
            refine Cd rfl (fun ht37 => ?_) (fun ht37 => ?_)
            ·
              try simp only [dT, dF] at ht37
              try have hst : isT 5 Z2s r1.tail = false := by simpa using ht37
              try rw [ZO hst]
              refine J.has (L' := [PB T b r1.tail, ⟨b4, Z6, .rep (ExR (nd 20 []))⟩, ⟨b2, Z6, .is (.agg #[.int .i64 0, .int .i64 0, .int .i64 0, .string ⟨#[]⟩, .string ⟨#[]⟩, .string ⟨#[]⟩, .int .i64 0, .slice none 0 0])⟩]) (by repeat (first | exact .all | exact .nil | refine Has.cons (by repeat (first | exact .here | apply Pk.past | apply Pk.there)) ?_)) ?_
              repeat apply Sq
              refine J.regMach (Bad := e r1.tail = none) (ch := flt) 11 (KwS.L T b (r1.tail) [⟨b4, Z6, .rep (ExR (nd 20 []))⟩, ⟨b2, Z6, .is (.agg #[.int .i64 0, .int .i64 0, .int .i64 0, .string ⟨#[]⟩, .string ⟨#[]⟩, .string ⟨#[]⟩, .int .i64 0, .slice none 0 0])⟩]) (KwS.T b w q) (KwS.inv e (r1.tail)) (fun i => decide (i < 5) || i == 9) ⟨⟨none, [], 0⟩, none⟩ rfl ?_ (fun hbad => ?_) hmx (by kernel_rfl) rfl (by kernel_rfl) ?_ ?_ ?_
              · exact ⟨.start (fun j => by rw [Array.getD_eq_getD_getElem?, Array.getElem?_replicate]; split <;> rfl), (fun h => by cases h), rfl, (fun z h => by cases h), (fun h => by cases h)⟩
              · exact JX.pnI (by first | (unfold kwP; rw [hz1]; simp only [Option.bind_some]; rw [if_neg hT, if_neg hF, if_neg hN, hq]; dsimp only; rw [wantY hlp]; simp only [Option.bind_some]; rw [Z2T hcnt, hst]; simp only [Bool.true_and, Bool.false_eq_true, if_false]; rw [hbad]; rfl) | (unfold kwP; rw [hz1]; simp only [Option.bind_some]; rw [if_neg hT, if_neg hF, if_neg hN, hq]; dsimp only; rw [wantY hlp]; simp only [Option.bind_some]; rw [if_neg (by rw [Bool.and_eq_true]; exact fun h => Z5k hcnt h.1)]; rw [hbad]; rfl))
              · intro s D i o hs hinv hA hbg hd hr
                match i, hA, hbg, hd, hr with
                | 0, _, hbg, _, _ => exact absurd hbg (by decide)
                | 1, _, hbg, _, _ => exact absurd hbg (by decide)
                | 2, _, hbg, _, _ => exact absurd hbg (by decide)
                | 3, _, hbg, _, _ => exact absurd hbg (by decide)
                | 4, _, hbg, _, _ => exact absurd hbg (by decide)
                | 5, hA, _, hd, hr =>
                  obtain rfl := Option.some.inj hA
                  have h9 := hinv.other (i := 5) (by omega) (by decide) (by decide) (fun _ j hj => by
                    match j, hj with
                    | 0, _ => exact hr _ rfl ⟨0, .data⟩ (by simp) rfl
                    | 1, _ => exact hr _ rfl ⟨1, .data⟩ (by simp) rfl
                    | 2, _ => exact hr _ rfl ⟨2, .data⟩ (by simp) rfl
                    | 3, _ => exact hr _ rfl ⟨3, .data⟩ (by simp) rfl
                    | 4, _ => exact hr _ rfl ⟨4, .data⟩ (by simp) rfl) (fun h => by cases h)
                  exact ⟨h9, rfl, (Z0 rfl)⟩
                | 6, hA, _, hd, hr =>
                  obtain rfl := Option.some.inj hA
                  exact ⟨hinv.other (by omega) (by decide) (by decide) (fun h => by cases h) (fun h => by cases h), rfl, (Z0 rfl)⟩
                | 7, hA, _, hd, hr =>
                  obtain rfl := Option.some.inj hA
                  have hall := hinv.f (hr _ rfl ⟨5, .data⟩ (by simp) rfl)
                  refine ⟨hinv.other (by omega) (by decide) (by decide) (fun h => by cases h) (fun h => by cases h), rfl, ?_⟩
                  obtain ⟨j, hj4, hj⟩ := ZcD hq
                  have hget := hinv.m.get Z50 hj (hall (j + 1) (by omega))
                  obtain ⟨r, hr0⟩ := hinv.m.some_ (hall 0 (by decide))
                  obtain ⟨⟨mp, es, n⟩, zo⟩ := s
                  dsimp only at hr0; subst hr0
                  exact ZcF Z1d Zs Zez rfl rfl (List.mem_cons_of_mem _ List.mem_cons_self) (by dsimp only at hget; rw [hget]; rfl)
                | 8, hA, _, hd, hr =>
                  obtain rfl := Option.some.inj hA
                  exact ⟨hinv.other (by omega) (by decide) (by decide) (fun h => by cases h) (fun h => by cases h), rfl, (Z0 rfl)⟩
                | 9, _, hbg, _, _ => exact absurd hbg (by decide)
                | 10, hA, _, hd, hr =>
                  obtain rfl := Option.some.inj hA
                  exact ⟨hinv.other (by omega) (by decide) (by decide) (fun h => by cases h) (fun _ => hr _ rfl ⟨9, .data⟩ (by simp) rfl), rfl, (Z3g ZJ rfl)⟩
                | i + 11, hA, _, hd, hr => simp at hA
              · intro s D i o hs hinv hA hbg hd hr
                match i, hA, hbg, hd, hr with
                | 0, hA, _, hd, hr =>
                  obtain rfl := Option.some.inj hA
                  obtain ⟨⟨mp, es, n⟩, zo⟩ := s
                  have hmp : mp = none := by
                    have := hinv.m.a
                    dsimp only at this
                    rw [hd] at this
                    cases mp with
                    | none => rfl
                    | some r => cases this
                  subst hmp
                  have h5 : D.getD 5 false = false := by
                    cases h : D.getD 5 false with
                    | false => rfl
                    | true => have := hinv.f h 0 (by decide); rw [hd] at this; cases this
                  exact ⟨rfl, .inl (Z9P.to (fun r => ⟨⟨⟨some r, [], 0⟩, zo⟩, hinv.make (by omega) hd r, fun j hj => kwT0 h5 hd hj⟩) (fun _ => rfl) (fun _ => .swap _ _ _))⟩
                | 1, hA, _, hd, hr =>
                  obtain rfl := Option.some.inj hA
                  obtain ⟨⟨mp, es, n⟩, zo⟩ := s
                  obtain ⟨r, hr0⟩ := hinv.m.some_ (hr _ rfl ⟨0, .data⟩ (by simp) rfl)
                  dsimp only at hr0; subst hr0
                  have hg := hinv.m.fresh Z50 (j := 0) rfl hd
                  have hi := hinv.ins (j := 0) (by omega) rfl (by decide) hd (hr _ rfl ⟨0, .data⟩ (by simp) rfl)
                  exact ⟨rfl, .inl ((BigOb.ofM (Z1I Z1d Zs rfl rfl rfl hg (.there .here)) rfl).to (fun _ => ⟨_, hi, fun j hj => rfl⟩) (fun _ => rfl) (fun _ => .refl _))⟩
                | 2, hA, _, hd, hr =>
                  obtain rfl := Option.some.inj hA
                  obtain ⟨⟨mp, es, n⟩, zo⟩ := s
                  obtain ⟨r, hr0⟩ := hinv.m.some_ (hr _ rfl ⟨0, .data⟩ (by simp) rfl)
                  dsimp only at hr0; subst hr0
                  have hg := hinv.m.fresh Z50 (j := 1) rfl hd
                  have hi := hinv.ins (j := 1) (by omega) rfl (by decide) hd (hr _ rfl ⟨0, .data⟩ (by simp) rfl)
                  exact ⟨rfl, .inl ((BigOb.ofM (Z1I Z1d Zs rfl rfl rfl hg (.there .here)) rfl).to (fun _ => ⟨_, hi, fun j hj => rfl⟩) (fun _ => rfl) (fun _ => .refl _))⟩
                | 3, hA, _, hd, hr =>
                  obtain rfl := Option.some.inj hA
                  obtain ⟨⟨mp, es, n⟩, zo⟩ := s
                  obtain ⟨r, hr0⟩ := hinv.m.some_ (hr _ rfl ⟨0, .data⟩ (by simp) rfl)
                  dsimp only at hr0; subst hr0
                  have hg := hinv.m.fresh Z50 (j := 2) rfl hd
                  have hi := hinv.ins (j := 2) (by omega) rfl (by decide) hd (hr _ rfl ⟨0, .data⟩ (by simp) rfl)
                  exact ⟨rfl, .inl ((BigOb.ofM (Z1I Z1d Zs rfl rfl rfl hg (.there .here)) rfl).to (fun _ => ⟨_, hi, fun j hj => rfl⟩) (fun _ => rfl) (fun _ => .refl _))⟩
                | 4, hA, _, hd, hr =>
                  obtain rfl := Option.some.inj hA
                  obtain ⟨⟨mp, es, n⟩, zo⟩ := s
                  obtain ⟨r, hr0⟩ := hinv.m.some_ (hr _ rfl ⟨0, .data⟩ (by simp) rfl)
                  dsimp only at hr0; subst hr0
                  have hg := hinv.m.fresh Z50 (j := 3) rfl hd
                  have hi := hinv.ins (j := 3) (by omega) rfl (by decide) hd (hr _ rfl ⟨0, .data⟩ (by simp) rfl)
                  exact ⟨rfl, .inl ((BigOb.ofM (Z1I Z1d Zs rfl rfl rfl hg (.there .here)) rfl).to (fun _ => ⟨_, hi, fun j hj => rfl⟩) (fun _ => rfl) (fun _ => .refl _))⟩
                | 5, _, hbg, _, _ => exact absurd hbg (by decide)
                | 6, _, hbg, _, _ => exact absurd hbg (by decide)
                | 7, _, hbg, _, _ => exact absurd hbg (by decide)
                | 8, _, hbg, _, _ => exact absurd hbg (by decide)
                | 9, hA, _, hd, hr =>
                  obtain rfl := Option.some.inj hA
                  obtain ⟨m, zo⟩ := s
                  have hzo : zo = none := by
                    have := hinv.z
                    dsimp only at this
                    rw [hd] at this
                    cases zo with
                    | none => rfl
                    | some r => cases this
                  subst hzo
                  have h10 : D.getD 10 false = false := by
                    cases h : D.getD 10 false with
                    | false => rfl
                    | true => have := hinv.g h; rw [hd] at this; cases this
                  exact ⟨rfl, .inr ((Z57 rfl (hex r1.tail (Zj ((ZL 1 _ _ hz1).1.trans hts)) (by have := (Zu hlp).2; have h1 : r1.length < ts.length := (ZL 1 _ _ hz1).2; omega)) (.refl _) (fun F hF => by repeat (first | (rcases Mc.1 hF with rfl | hF; · (repeat first | exact Mh | apply Mt)) | (cases hF; done))) (.one rfl .nil)).to (fun z => ⟨⟨m, some z.1⟩, hinv.call (by omega) z.2, fun j hj => kwT9 h10 hd hj⟩) (fun _ => rfl) (fun _ => .refl _))⟩
                | 10, _, hbg, _, _ => exact absurd hbg (by decide)
                | i + 11, hA, _, hd, hr => simp at hA
              intro s D hs hall hinv
              obtain ⟨⟨mp, es, n⟩, zo⟩ := s
              obtain ⟨r, hr0⟩ := hinv.m.some_ (hall 0 (by decide))
              dsimp only at hr0; subst hr0
              have hzz := hinv.z
              rw [hall 9 (by decide)] at hzz
              obtain ⟨z, hzo⟩ := Option.isSome_iff_exists.1 hzz.symm
              dsimp only at hzo; subst hzo
              have hzr : e (r1.tail) = some z := hinv.r z rfl
              refine JO.subL (L' := [PB T b z.2] ++ (⟨r, 0, .ob (sObj es n)⟩ :: [⟨b4, Z6, .rep (ExR (nd 20 []))⟩, ⟨b2, Z6, .is (.agg #[.int .i64 0, .int .i64 0, .int .i64 0, .string ⟨#[]⟩, .string ⟨#[]⟩, .string ⟨#[]⟩, .int .i64 0, .slice none 0 0])⟩])) (.refl _) ?_
              try dsimp only [nA, cA]
              refine Jt (ZM rfl (Z2a q [z.1]) (.one rfl (.one rfl .nil))) rfl ?_
              refine JO.m (Z4 rfl rfl (by repeat first | exact .here | apply Ut) (by first | exact cI rfl rfl | exact cE) (by first | exact cI rfl rfl | exact cE | exact cO) Zn) (by rfl) ?_
              apply Ni
              repeat first | apply Nx | apply Nb
              refine Sl [0, 2, 4] (.cons rfl (.cons rfl (.cons rfl .nil))) ?_
              first | (refine J.has (L' := [PB T b z.2, ⟨b4, Z6, .rep (ExR (nd q [z.1]))⟩, ⟨b2, Z6, .is (.agg #[.int .i64 0, .int .i64 0, .int .i64 0, .string ⟨#[]⟩, .string ⟨#[]⟩, .string ⟨#[]⟩, .int .i64 0, .slice none 0 0])⟩]) (by repeat (first | exact .all | exact .nil | refine Has.cons (by repeat (first | exact .here | apply Pk.past | apply Pk.there)) ?_)) ?_; have husx := (exprDn hzr).trans (Zj ((ZL 1 _ _ hz1).1.trans hts))) | (have hst : isT 5 Z2s r1.tail = true := (by simpa using ht37); rw [ZK hst]; have husx := Zj (Zj ((ZL 1 _ _ hz1).1.trans hts)))
              repeat apply Sq
              apply Pn
              refine Jt (Z0 rfl) rfl ?_
              refine Jt (Z0 rfl) rfl ?_
              refine JO.callK (Lr := [_, _]) (Z9 T hc b _ husx s_rp) rfl (.refl _) (fun F hF => by repeat (first | (rcases Mc.1 hF with rfl | hF; · (repeat first | exact Mh | apply Mt)) | (cases hF; done))) (.one rfl (.one rfl .nil)) ?_
              intro _ _
              try dsimp only [nA, cA]
              refine JO.callPK (Lr := _) (Z8 (.pointer (some ⟨b, 0, none⟩)) (isT 5 s_rp _)) rfl (Z19 _) ZV (.one rfl (.one rfl .nil)) (fun hbad => ?_) ?_
              · exact JX.pnI (by first | (unfold kwP; rw [hz1]; simp only [Option.bind_some]; rw [if_neg hT, if_neg hF, if_neg hN, hq]; dsimp only; rw [wantY hlp]; simp only [Option.bind_some]; rw [Z2T hcnt, hst]; simp only [Bool.true_and, if_true]; rw [wantN hbad]; rfl) | (first | (unfold kwP; rw [hz1]; simp only [Option.bind_some]; rw [if_neg hT, if_neg hF, if_neg hN, hq]; dsimp only; rw [wantY hlp]; simp only [Option.bind_some]; rw [Z2T hcnt, hst]; simp only [Bool.true_and, Bool.false_eq_true, if_false]; rw [hzr]; simp only [Option.bind_some]; rw [wantN hbad]; rfl) | (unfold kwP; rw [hz1]; simp only [Option.bind_some]; rw [if_neg hT, if_neg hF, if_neg hN, hq]; dsimp only; rw [wantY hlp]; simp only [Option.bind_some]; rw [if_neg (by rw [Bool.and_eq_true]; exact fun h => Z5k hcnt h.1)]; rw [hzr]; simp only [Option.bind_some]; rw [wantN hbad]; rfl)))
              intro _ hrp
              try dsimp only [nA, cA]
              apply Ni
              repeat first | apply Nx | apply Nb
              refine Sl [2, 4] (.cons rfl (.cons rfl .nil)) ?_
              rw [ZK hrp]
              repeat apply Sq
              apply Pn
              refine Jt (Z2F Zd rfl) rfl ?_
              refine JO.m (Z4 rfl rfl (by repeat first | exact .here | apply Ut) (by first | exact cI rfl rfl | exact cE) (by first | exact cI rfl rfl | exact cE | exact cO) Zn) (by rfl) ?_
              apply Ni
              repeat first | apply Nx | apply Nb
              refine Sl [2] (.cons rfl .nil) ?_
              repeat apply Sq
              apply Rt
              repeat first | apply Rp | apply Rb
              refine JX.toP ?_
              exact JX.retLCs (Lr := [_, _]) (L1 := fun z : Ex × List T3 => [PB T b z.2]) (R := fun z => .rep (ExR z.1)) rfl (nd q [z.1], z.2.tail) (by unfold kwP; rw [hz1]; simp only [Option.bind_some]; rw [if_neg hT, if_neg hF, if_neg hN, hq]; dsimp only; rw [wantY hlp]; simp only [Option.bind_some]; rw [if_neg (by rw [Bool.and_eq_true]; exact fun h => Z5k hcnt h.1)]; rw [hzr]; simp only [Option.bind_some]; rw [wantY hrp]; rfl) (.refl _) rfl rfl hb0 rfl Zd HasOwn.mem Z1t (Sub.refl _)
            ·
              try simp only [dT, dF] at ht37
              exfalso
              cases ht37
        ·
          try simp only [dT, dF] at ht21
          apply Sk
          repeat first | apply Nx | apply Nb
          repeat apply Sq
          apply Pn
          refine Jt (Zv (cs := []) Z6T .nil rfl rfl) rfl ?_
          refine Jt (ZaZ (d := .struct #[]) (by kernel_rfl) rfl rfl) rfl ?_
          refine JO.pan rfl ?_
          exact JX.pnI (by unfold kwP; rw [hz1]; simp only [Option.bind_some]; rw [if_neg hT, if_neg hF, if_neg hN, aggN ht21])
end Go.Proofs.YtbedigkncjbggaaGreatDoor
