/- The parser: atoms; expressions, by the tokens that are left. No condition. -/
import Derived.Test.YtbedigkncjbggaaGreatDoorXQ3
import Derived.Test.YtbedigkncjbggaaGreatDoorXQ1
import Derived.Test.YtbedigkncjbggaaGreatDoorXG7
import Derived.Test.YtbedigkncjbggaaGreatDoorXQ2
set_option maxRecDepth 20000
namespace Go.Proofs.YtbedigkncjbggaaGreatDoor
open Go Go.Vc
open Go.Pz
theorem Z36 {e : Ps Ex} {ts : List T3} (h : ts ≠ []) : atomP e ts = if ((ts.headD t3D).k == 3) = true then some (lit 1 (ts.headD t3D).n em, ts.tail) else if ((ts.headD t3D).k == 4) = true then some (lit 3 0 (ts.headD t3D).t, ts.tail) else if ((ts.headD t3D).k == 2) = true then (if isT 5 Z6B ts.tail = true then (nameP ts.tail.tail).map fun z => (.mk 2 0 0 em (ts.headD t3D).t z.1 0 [], z.2) else some (.mk 2 0 0 em em (ts.headD t3D).t 0 [], ts.tail)) else if ((ts.headD t3D).k == 1) = true then kwP e ts else (wantP 5 s_lp ts).bind fun y => (e y.2).bind fun x => (wantP 5 s_rp x.2).map fun v => (x.1, v.2) := by
 cases ts with
 | nil => exact absurd rfl h
 | cons t r => rw [atomP]; rfl
theorem Zda {ts : List T3} (h : ts ≠ []) (hk : ((ts.headD t3D).k == 2) = true) : nameP ts = some ((ts.headD t3D).t, ts.tail) := by
 cases ts with
 | nil => exact absurd rfl h
 | cons t r => unfold nameP; rw [takeP, if_pos (show (t.k == 2) = true from hk)]; rfl
theorem Z75 (T : Tk) (hc : T.ts.length ≤ T.cap) (b : Nat) (ts : List T3) (hts : ts <:+ T.ts) (e : Ps Ex) (exprDn : ∀ {us : List T3} {z : Ex × List T3}, e us = some z → z.2 <:+ us) (hex : ∀ us, us <:+ T.ts → us.length < ts.length → CallP Tryz.prog Zx [PB T b (us)] [T.G, AF] [.is (.pointer (some ⟨b, 0, none⟩))] (e (us) = none) flt (fun z : Ex × List T3 => e (us) = some z) (fun z => [PB T b z.2]) (fun z => .rep (ExR z.1))) : CallP Tryz.prog Z2k [PB T b ts] [T.G, AF] [.is (.pointer (some ⟨b, 0, none⟩))] (atomP e ts = none) flt (fun z : Ex × List T3 => atomP e ts = some z) (fun z => [PB T b z.2]) (fun z => .rep (ExR z.1)) :=
CallP.of (fn := Tryz.f192) Tryz.func192 (n := 79) rfl rfl rfl (fun _ _ => by kernel_rfl) fun E W hb0 => by
 repeat apply Sq
 apply Pn
 refine JO.alloc Z16 rfl fun b2 => ?_
 apply Ni
 repeat first | apply Nx | apply Nb
 refine Sl [0, 2] (.cons rfl (.cons rfl .nil)) ?_
 repeat apply Sq
 apply Pn
 refine Jt (Z0 rfl) rfl ?_
 refine Jt (Z0 rfl) rfl ?_
 refine Jt (Z5 rfl) rfl ?_
 refine Jt (Z1 Zg rfl) rfl ?_
 refine Jt (Z4 Zs rfl rfl) rfl ?_
 refine Jt (Zq ZY rfl) rfl ?_
 refine Jt (Z2O rfl rfl) rfl ?_
 refine JO.callPK (Lr := _) (Z7 (.pointer (some ⟨b, 0, none⟩)) _) rfl (Z1a _) Z10 (.one rfl (.one rfl .nil)) (fun hbad => ?_) ?_
 · exact JX.pnI (by cases ts with | nil => rfl | cons t r => simp at hbad)
 intro z hz
 have hne : ts ≠ [] := Z2r hz
 try dsimp only [nA, cA]
 apply Ni
 repeat first | apply Nx | apply Nb
 refine Sl [0, 2] (.cons rfl (.cons rfl .nil)) ?_
 repeat apply Sq
 apply Pn
 refine Jt (Z0 rfl) rfl ?_
 refine Jt (Z5 rfl) rfl ?_
 refine Jt (Z1 Zg rfl) rfl ?_
 refine Jt (Z4 Zs rfl rfl) rfl ?_
 refine Jt (Za ZX rfl rfl rfl (by omega) (Z2j hne)) rfl ?_
 refine Jt (Z3A (enc := T3.cells) (sz := 3) (i := T.k ts) (y := ts.headD t3D) (cs := T3.cells (ts.headD t3D)) ZW rfl (by repeat first | exact Mh | apply Mt) rfl (Tk.head hts hne) (by rw [Tk.j_eq hc hts hne]; rfl) rfl) rfl ?_
 refine JO.alloc Z2e rfl fun b3 => ?_
 refine JO.m (Z3 rfl rfl (by repeat first | exact .here | apply Ut) (by first | exact cI rfl rfl | exact cE) (by first | exact cI rfl rfl | exact cE | exact cO) Z17) (by rfl) ?_
 apply Ni
 repeat first | apply Nx | apply Nb
 refine Sl [0, 2, 3] (.cons rfl (.cons rfl (.cons rfl .nil))) ?_
 repeat apply Sq
 apply Pn
 refine Jt (Z1 Z2B rfl) rfl ?_
 refine Jt (Z4 ZA rfl rfl) rfl ?_
 apply Ni
 repeat first | apply Nx | apply Nb
 refine Sl [0, 2, 3, 21] (.cons rfl (.cons rfl (.cons rfl (.cons rfl .nil)))) ?_
 repeat apply Sq
 apply Bk
 repeat apply Sq
 apply Pn
 refine Jt (Z1e rfl rfl) rfl ?_
 refine Jt (Z2 rfl) rfl ?_
 apply Ni
 repeat first | apply Nx | apply Nb
 refine Sl [0, 2, 3, 21, 22] (.cons rfl (.cons rfl (.cons rfl (.cons rfl (.cons rfl .nil))))) ?_
 repeat apply Sq
 refine Cd rfl (fun ht22 => ?_) (fun ht22 => ?_)
 ·
  try simp only [dT, dF] at ht22
  have k3 : ((ts.headD t3D).k == 3) = true := ht22
  repeat apply Sq
  apply Pn
  refine Jt (Z0 rfl) rfl ?_
  refine Jt (Z0 rfl) rfl ?_
  refine Jt (Z5 rfl) rfl ?_
  refine Jt (Z1 Zg rfl) rfl ?_
  refine Jt (Z4 Zs rfl rfl) rfl ?_
  refine Jt (Z5C ZY ZX rfl rfl (by omega) (by have := Z2j hne; omega)) rfl ?_
  refine Jt (Z5 rfl) rfl ?_
  refine Jt (Z1 Zg rfl) rfl ?_
  refine JO.m (Zf (cs' := [_]) rfl rfl (by repeat first | exact .here | apply Ut) rfl rfl rfl rfl Z3v) (by rfl) ?_
  apply Ni
  repeat first | apply Nx | apply Nb
  refine Sl [2, 3] (.cons rfl (.cons rfl .nil)) ?_
  repeat apply Sq
  apply Pn
  refine Jt (Z1 Zar rfl) rfl ?_
  refine Jt (Z4 Zgo rfl rfl) rfl ?_
  refine Jt (Zv (cs := [_, _, _]) Z3C (.cons rfl (.cons rfl .nil)) rfl rfl) rfl ?_
  refine Jt (ZK rfl (Z2Q 1 (ts.headD t3D).n em) (.one rfl .nil)) rfl ?_
  refine JO.m (Z3 rfl rfl (by repeat first | exact .here | apply Ut) (by first | exact cI rfl rfl | exact cE) (by first | exact cI rfl rfl | exact cE | exact cO) Zo) (by rfl) ?_
  apply Ni
  repeat first | apply Nx | apply Nb
  refine Sl [2] (.cons rfl .nil) ?_
  repeat apply Sq
  apply Rt
  repeat first | apply Rp | apply Rb
  refine JX.toP ?_
  exact JX.retLCs (Lr := [_, _]) (L1 := fun z : Ex × List T3 => [PB T b z.2]) (R := fun z => .rep (ExR z.1)) rfl (lit 1 (ts.headD t3D).n em, ts.tail) (by rw [Z36 hne]; rw [if_pos k3]) (List.Perm.trans (List.perm_append_comm (l₁ := [_, _]) (l₂ := [_])) (.of_eq (congrArg (fun v => Own.mk b Z2l (.is (.agg #[v])) :: [_, _]) (Tk.tail hc hts hne)))) rfl rfl hb0 rfl Ze HasOwn.mem Z1s (Sub.refl _)
 ·
  try simp only [dT, dF] at ht22
  have n3 : ¬ ((ts.headD t3D).k == 3) = true := by rw [ht22]; decide
  repeat apply Sq
  apply Pn
  refine Jt (Z1e rfl rfl) rfl ?_
  refine Jt (Z2 rfl) rfl ?_
  apply Ni
  repeat first | apply Nx | apply Nb
  refine Sl [0, 2, 3, 21, 36] (.cons rfl (.cons rfl (.cons rfl (.cons rfl (.cons rfl .nil))))) ?_
  repeat apply Sq
  refine Cd rfl (fun ht36 => ?_) (fun ht36 => ?_)
  ·
   try simp only [dT, dF] at ht36
   have k4 : ((ts.headD t3D).k == 4) = true := ht36
   repeat apply Sq
   apply Pn
   refine Jt (Z0 rfl) rfl ?_
   refine Jt (Z0 rfl) rfl ?_
   refine Jt (Z5 rfl) rfl ?_
   refine Jt (Z1 Zg rfl) rfl ?_
   refine Jt (Z4 Zs rfl rfl) rfl ?_
   refine Jt (Z5C ZY ZX rfl rfl (by omega) (by have := Z2j hne; omega)) rfl ?_
   refine Jt (Z5 rfl) rfl ?_
   refine Jt (Z1 Zg rfl) rfl ?_
   refine JO.m (Zf (cs' := [_]) rfl rfl (by repeat first | exact .here | apply Ut) rfl rfl rfl rfl Z3v) (by rfl) ?_
   apply Ni
   repeat first | apply Nx | apply Nb
   refine Sl [2, 3] (.cons rfl (.cons rfl .nil)) ?_
   repeat apply Sq
   apply Pn
   refine Jt (Z1 Z4Q rfl) rfl ?_
   refine Jt (Z4 Zu rfl rfl) rfl ?_
   refine Jt (Zv (cs := [_, _, _]) Z3C (.cons rfl (.cons rfl .nil)) rfl rfl) rfl ?_
   refine Jt (ZK rfl (Z2Q 3 0 (ts.headD t3D).t) (.one rfl .nil)) rfl ?_
   refine JO.m (Z3 rfl rfl (by repeat first | exact .here | apply Ut) (by first | exact cI rfl rfl | exact cE) (by first | exact cI rfl rfl | exact cE | exact cO) Zo) (by rfl) ?_
   apply Ni
   repeat first | apply Nx | apply Nb
   refine Sl [2] (.cons rfl .nil) ?_
   repeat apply Sq
   apply Rt
   repeat first | apply Rp | apply Rb
   refine JX.toP ?_
   exact JX.retLCs (Lr := [_, _]) (L1 := fun z : Ex × List T3 => [PB T b z.2]) (R := fun z => .rep (ExR z.1)) rfl (lit 3 0 (ts.headD t3D).t, ts.tail) (by rw [Z36 hne]; rw [if_neg n3, if_pos k4]) (List.Perm.trans (List.perm_append_comm (l₁ := [_, _]) (l₂ := [_])) (.of_eq (congrArg (fun v => Own.mk b Z2l (.is (.agg #[v])) :: [_, _]) (Tk.tail hc hts hne)))) rfl rfl hb0 rfl Ze HasOwn.mem Z1s (Sub.refl _)
  ·
   try simp only [dT, dF] at ht36
   have n4 : ¬ ((ts.headD t3D).k == 4) = true := by rw [ht36]; decide
   repeat apply Sq
   apply Pn
   refine Jt (Z1e rfl rfl) rfl ?_
   refine Jt (Z2 rfl) rfl ?_
   apply Ni
   repeat first | apply Nx | apply Nb
   refine Sl [0, 2, 21, 50] (.cons rfl (.cons rfl (.cons rfl (.cons rfl .nil)))) ?_
   repeat apply Sq
   refine Cd rfl (fun ht50 => ?_) (fun ht50 => ?_)
   ·
    try simp only [dT, dF] at ht50
    have k2 : ((ts.headD t3D).k == 2) = true := ht50
    repeat apply Sq
    apply Pn
    refine Jt (Z0 rfl) rfl ?_
    refine JO.callPK (Lr := [_, _]) (Zz T hc b ts hts) rfl (List.perm_append_comm (l₁ := [_, _]) (l₂ := [_])) (fun F hF => by repeat (first | (rcases Mc.1 hF with rfl | hF; · (repeat first | exact Mh | apply Mt)) | (cases hF; done))) (.one rfl .nil) (fun hbad => ?_) ?_
    · exact JX.pnI (by exact absurd hbad (by rw [Zda hne k2]; simp))
    intro z1 hz1
    obtain rfl : z1 = ((ts.headD t3D).t, ts.tail) := by rw [Zda hne k2] at hz1; exact (Option.some.inj hz1).symm
    try dsimp only [nA, cA]
    refine Jt (Zv (cs := [_, _, _, _, _, _, _, _]) Z56 (.cons rfl (.cons rfl .nil)) rfl rfl) rfl ?_
    refine JO.alloc Z16 rfl fun b4 => ?_
    refine JO.m (Z3 rfl rfl (by repeat first | exact .here | apply Ut) (by first | exact cI rfl rfl | exact cE) (by first | exact cI rfl rfl | exact cE | exact cO) Zo) (by rfl) ?_
    apply Ni
    repeat first | apply Nx | apply Nb
    refine Sl [0, 2, 4] (.cons rfl (.cons rfl (.cons rfl .nil))) ?_
    repeat apply Sq
    apply Pn
    refine Jt (Z0 rfl) rfl ?_
    refine JO.callK (Lr := [_, _, _]) (Z9 T hc b ts.tail (Zi hts) Z6B) rfl (.swap _ _ _) (fun F hF => by repeat (first | (rcases Mc.1 hF with rfl | hF; · (repeat first | exact Mh | apply Mt)) | (cases hF; done))) (.one rfl (.one rfl .nil)) ?_
    intro _ _
    try dsimp only [nA, cA]
    apply Ni
    repeat first | apply Nx | apply Nb
    refine Sl [0, 2, 4, 56] (.cons rfl (.cons rfl (.cons rfl (.cons rfl .nil)))) ?_
    repeat apply Sq
    refine Cd rfl (fun ht56 => ?_) (fun ht56 => ?_)
    ·
     try simp only [dT, dF] at ht56
     have hdt : isT 5 Z6B ts.tail = true := ht56
     rw [ZO hdt]
     repeat apply Sq
     refine J.regBPm (Bad := nameP ts.tail.tail = none) (ch := flt) (G := { z : ByteArray × List T3 // nameP ts.tail.tail = some z }) 3 5 (fun hbad => ?_) (Tg := fun g => .is (.string g.1.1)) (Lg := fun g => [PB T b g.1.2] ++ [⟨b4, Z6, .is (.agg #[.int .i64 2, .int .i64 0, .int .i64 0, .string ⟨#[]⟩, .string ⟨#[]⟩, .string (ts.headD t3D).t, .int .i64 0, .slice none 0 0])⟩, ⟨b3, Z22, .is (.agg #[.int .i64 (ts.headD t3D).k, .string (ts.headD t3D).t, .int .i64 (ts.headD t3D).n])⟩, ⟨b2, Z6, .is (.agg #[.int .i64 0, .int .i64 0, .int .i64 0, .string ⟨#[]⟩, .string ⟨#[]⟩, .string ⟨#[]⟩, .int .i64 0, .slice none 0 0])⟩]) ([⟨b4, Z6, .is (.agg #[.int .i64 2, .int .i64 0, .int .i64 0, .string ⟨#[]⟩, .string ⟨#[]⟩, .string (ts.headD t3D).t, .int .i64 0, .slice none 0 0])⟩, ⟨b3, Z22, .is (.agg #[.int .i64 (ts.headD t3D).k, .string (ts.headD t3D).t, .int .i64 (ts.headD t3D).n])⟩, ⟨b2, Z6, .is (.agg #[.int .i64 0, .int .i64 0, .int .i64 0, .string ⟨#[]⟩, .string ⟨#[]⟩, .string ⟨#[]⟩, .int .i64 0, .slice none 0 0])⟩]) rfl rfl rfl rfl hmx (by kernel_rfl) rfl (by kernel_rfl) (fun _ h => List.mem_cons_of_mem _ h) (fun g o ho => List.mem_cons_of_mem _ ho) ?_
     · exact JX.pnI (by rw [Z36 hne]; rw [if_neg n3, if_neg n4, if_pos k2]; rw [if_pos hdt, hbad]; rfl)
     refine Rq (Z1 Z45 rfl) ?_
     refine Rq (Z4 Zu rfl rfl) ?_
     refine Rq (Z0 rfl) ?_
     refine RT.bigP (Lq := [⟨b4, Z6, .is (.agg #[.int .i64 2, .int .i64 0, .int .i64 0, .string ⟨#[]⟩, .string ⟨#[]⟩, .string (ts.headD t3D).t, .int .i64 0, .slice none 0 0])⟩, ⟨b3, Z22, .is (.agg #[.int .i64 (ts.headD t3D).k, .string (ts.headD t3D).t, .int .i64 (ts.headD t3D).n])⟩, ⟨b2, Z6, .is (.agg #[.int .i64 0, .int .i64 0, .int .i64 0, .string ⟨#[]⟩, .string ⟨#[]⟩, .string ⟨#[]⟩, .int .i64 0, .slice none 0 0])⟩]) (Z5i rfl (Zz T hc b ts.tail.tail (Zi (Zi hts))) (.refl _) (fun F hF => by repeat (first | (rcases Mc.1 hF with rfl | hF; · (repeat first | exact Mh | apply Mt)) | (cases hF; done))) (.one rfl .nil)) ?_
     refine Rq (Z1 Z5s rfl) ?_
     apply Rn
     intro g
     obtain ⟨z, hg2⟩ := g
     try dsimp only [nA, cA]
     refine JO.m (Zf (cs' := [_, _, _, _, _, _, _, _]) rfl rfl (by repeat first | exact .here | apply Ut) rfl rfl rfl rfl Z4e) (by rfl) ?_
     refine Jt (Z1 Z45 rfl) rfl ?_
     refine JO.m (Zf (cs' := [_, _, _, _, _, _, _, _]) rfl rfl (by repeat first | exact .here | apply Ut) rfl rfl rfl rfl Z4e) (by rfl) ?_
     apply Ni
     repeat first | apply Nx | apply Nb
     refine Sl [2, 4] (.cons rfl (.cons rfl .nil)) ?_
     first | (have hdt : isT 5 Z6B ts.tail = false := ht56; rw [ZQ hdt]) | skip
     repeat apply Sq
     apply Pn
     refine Jt (Ob.im (ZG (cs := [_, _, _, _, _, _, _, _]) Ze rfl rfl rfl) (Sub.leaf (k := 2) (vk := 0) (vn := 0) (vs := em) (sl := 0))) rfl ?_
     refine JO.m (Z3 rfl rfl (by repeat first | exact .here | apply Ut) (by first | exact cI rfl rfl | exact cE) (by first | exact cI rfl rfl | exact cE | exact cO) Zo) (by rfl) ?_
     apply Ni
     repeat first | apply Nx | apply Nb
     refine Sl [2] (.cons rfl .nil) ?_
     repeat apply Sq
     apply Rt
     repeat first | apply Rp | apply Rb
     refine JX.toP ?_
     exact JX.retLCs (Lr := [_, _, _]) (L1 := fun z : Ex × List T3 => [PB T b z.2]) (R := fun z => .rep (ExR z.1)) rfl (.mk 2 0 0 em (ts.headD t3D).t z.1 0 [], z.2) (by rw [Z36 hne]; rw [if_neg n3, if_neg n4, if_pos k2]; rw [if_pos hdt, hg2]; rfl) (.refl _) rfl rfl hb0 rfl Ze HasOwn.mem Z1s (Sub.refl _)
    ·
     try simp only [dT, dF] at ht56
     apply Sk
     repeat first | apply Nx | apply Nb
     first | (have hdt : isT 5 Z6B ts.tail = false := ht56; rw [ZQ hdt]) | skip
     repeat apply Sq
     apply Pn
     refine Jt (Ob.im (ZG (cs := [_, _, _, _, _, _, _, _]) Ze rfl rfl rfl) (Sub.leaf (k := 2) (vk := 0) (vn := 0) (vs := em) (sl := 0))) rfl ?_
     refine JO.m (Z3 rfl rfl (by repeat first | exact .here | apply Ut) (by first | exact cI rfl rfl | exact cE) (by first | exact cI rfl rfl | exact cE | exact cO) Zo) (by rfl) ?_
     apply Ni
     repeat first | apply Nx | apply Nb
     refine Sl [2] (.cons rfl .nil) ?_
     repeat apply Sq
     apply Rt
     repeat first | apply Rp | apply Rb
     refine JX.toP ?_
     exact JX.retLCs (Lr := [_, _, _]) (L1 := fun z : Ex × List T3 => [PB T b z.2]) (R := fun z => .rep (ExR z.1)) rfl (.mk 2 0 0 em em (ts.headD t3D).t 0 [], ts.tail) (by rw [Z36 hne]; rw [if_neg n3, if_neg n4, if_pos k2]; rw [if_neg (by rw [hdt]; decide)]) (.refl _) rfl rfl hb0 rfl Ze HasOwn.mem Z1s (Sub.refl _)
   ·
    try simp only [dT, dF] at ht50
    have n2 : ¬ ((ts.headD t3D).k == 2) = true := by rw [ht50]; decide
    repeat apply Sq
    apply Pn
    refine Jt (Z1e rfl rfl) rfl ?_
    refine Jt (Z2 rfl) rfl ?_
    apply Ni
    repeat first | apply Nx | apply Nb
    refine Sl [0, 2, 64] (.cons rfl (.cons rfl (.cons rfl .nil))) ?_
    repeat apply Sq
    refine Cd rfl (fun ht64 => ?_) (fun ht64 => ?_)
    ·
     try simp only [dT, dF] at ht64
     have k1 : ((ts.headD t3D).k == 1) = true := ht64
     repeat apply Sq
     apply Pn
     refine Jt (Z0 rfl) rfl ?_
     refine JO.callPK (Lr := [_, _]) (Z5O T hc b ts hts e exprDn hex) rfl (List.perm_append_comm (l₁ := [_, _]) (l₂ := [_])) (fun F hF => by repeat (first | (rcases Mc.1 hF with rfl | hF; · (repeat first | exact Mh | apply Mt)) | (cases hF; done))) (.one rfl .nil) (fun hbad => ?_) ?_
     · exact JX.pnI (by rw [Z36 hne]; rw [if_neg n3, if_neg n4, if_neg n2, if_pos k1]; exact hbad)
     intro z hz
     try dsimp only [nA, cA]
     refine JO.m (Z3 rfl rfl (by repeat first | exact .here | apply Ut) (by first | exact cI rfl rfl | exact cE) (by first | exact cI rfl rfl | exact cE | exact cO) Zo) (by rfl) ?_
     apply Ni
     repeat first | apply Nx | apply Nb
     refine Sl [2] (.cons rfl .nil) ?_
     repeat apply Sq
     apply Rt
     repeat first | apply Rp | apply Rb
     refine JX.toP ?_
     exact JX.retLCs (Lr := [_, _]) (L1 := fun z : Ex × List T3 => [PB T b z.2]) (R := fun z => .rep (ExR z.1)) rfl z (by rw [Z36 hne]; rw [if_neg n3, if_neg n4, if_neg n2, if_pos k1]; exact hz) (.refl _) rfl rfl hb0 rfl Ze HasOwn.mem Z1s (Sub.refl _)
    ·
     try simp only [dT, dF] at ht64
     apply Sk
     repeat first | apply Nx | apply Nb
     have n1 : ¬ ((ts.headD t3D).k == 1) = true := by rw [ht64]; decide
     repeat apply Sq
     apply Pn
     refine Jt (Z0 rfl) rfl ?_
     refine Jt (Z0 rfl) rfl ?_
     refine JO.callK (Lr := [_, _]) (Z9 T hc b ts hts s_lp) rfl (List.perm_append_comm (l₁ := [_, _]) (l₂ := [_])) (fun F hF => by repeat (first | (rcases Mc.1 hF with rfl | hF; · (repeat first | exact Mh | apply Mt)) | (cases hF; done))) (.one rfl (.one rfl .nil)) ?_
     intro _ _
     try dsimp only [nA, cA]
     refine JO.callPK (Lr := _) (Z7 (.pointer (some ⟨b, 0, none⟩)) (isT 5 s_lp ts)) rfl (Z1a _) Z10 (.one rfl (.one rfl .nil)) (fun hbad => ?_) ?_
     · exact JX.pnI (by rw [Z36 hne]; rw [if_neg n3, if_neg n4, if_neg n2, if_neg n1]; rw [wantN hbad]; rfl)
     intro _ hlp
     try dsimp only [nA, cA]
     apply Ni
     repeat first | apply Nx | apply Nb
     refine Sl [0, 2] (.cons rfl (.cons rfl .nil)) ?_
     rw [ZO hlp]
     repeat apply Sq
     apply Pn
     refine Jt (Z0 rfl) rfl ?_
     refine JO.callPK (Lr := [_, _]) (hex ts.tail (Zi hts) (Zr hlp).2) rfl (.refl _) (fun F hF => by repeat (first | (rcases Mc.1 hF with rfl | hF; · (repeat first | exact Mh | apply Mt)) | (cases hF; done))) (.one rfl .nil) (fun hbad => ?_) ?_
     · exact JX.pnI (by rw [Z36 hne]; rw [if_neg n3, if_neg n4, if_neg n2, if_neg n1]; rw [wantY hlp]; simp only [Option.bind_some]; rw [hbad]; rfl)
     intro z hz
     try dsimp only [nA, cA]
     refine JO.alloc Z16 rfl fun b5 => ?_
     refine JO.m (Z3 rfl rfl (by repeat first | exact .here | apply Ut) (by first | exact cI rfl rfl | exact cE) (by first | exact cI rfl rfl | exact cE | exact cO) Zo) (by rfl) ?_
     apply Ni
     repeat first | apply Nx | apply Nb
     refine Sl [0, 2, 5] (.cons rfl (.cons rfl (.cons rfl .nil))) ?_
     repeat apply Sq
     apply Pn
     refine Jt (Z0 rfl) rfl ?_
     refine Jt (Z0 rfl) rfl ?_
     refine JO.callK (Lr := [_, _, _]) (Z9 T hc b z.2 ((exprDn hz).trans (Zi hts)) s_rp) rfl (.swap _ _ _) (fun F hF => by repeat (first | (rcases Mc.1 hF with rfl | hF; · (repeat first | exact Mh | apply Mt)) | (cases hF; done))) (.one rfl (.one rfl .nil)) ?_
     intro _ _
     try dsimp only [nA, cA]
     refine JO.callPK (Lr := _) (Z7 (.pointer (some ⟨b, 0, none⟩)) (isT 5 s_rp z.2)) rfl (Z1a _) Z10 (.one rfl (.one rfl .nil)) (fun hbad => ?_) ?_
     · exact JX.pnI (by rw [Z36 hne]; rw [if_neg n3, if_neg n4, if_neg n2, if_neg n1]; rw [wantY hlp]; simp only [Option.bind_some]; rw [hz]; simp only [Option.bind_some]; rw [wantN hbad]; rfl)
     intro _ hrp
     try dsimp only [nA, cA]
     apply Ni
     repeat first | apply Nx | apply Nb
     refine Sl [2, 5] (.cons rfl (.cons rfl .nil)) ?_
     rw [ZO hrp]
     repeat apply Sq
     apply Pn
     refine Jt (Z2M Ze rfl) rfl ?_
     refine JO.m (Z3 rfl rfl (by repeat first | exact .here | apply Ut) (by first | exact cI rfl rfl | exact cE) (by first | exact cI rfl rfl | exact cE | exact cO) Zo) (by rfl) ?_
     apply Ni
     repeat first | apply Nx | apply Nb
     refine Sl [2] (.cons rfl .nil) ?_
     repeat apply Sq
     apply Rt
     repeat first | apply Rp | apply Rb
     refine JX.toP ?_
     exact JX.retLCs (Lr := [_, _, _]) (L1 := fun z : Ex × List T3 => [PB T b z.2]) (R := fun z => .rep (ExR z.1)) rfl (z.1, z.2.tail) (by rw [Z36 hne]; rw [if_neg n3, if_neg n4, if_neg n2, if_neg n1]; rw [wantY hlp]; simp only [Option.bind_some]; rw [hz]; simp only [Option.bind_some]; rw [wantY hrp]; rfl) (.refl _) rfl rfl hb0 rfl Ze HasOwn.mem Z1s (Sub.refl _)
theorem exprDn' (N : Nat) {us : List T3} {z : Ex × List T3} (h : exprP N us = some z) : z.2 <:+ us := (Z2p N _ _ h).1
theorem Z8p (T : Tk) (hc : T.ts.length ≤ T.cap) (b : Nat) : ∀ (N : Nat) (ts : List T3), ts <:+ T.ts → ts.length < N → CallP Tryz.prog Zx [PB T b (ts)] [T.G, AF] [.is (.pointer (some ⟨b, 0, none⟩))] (exprP N (ts) = none) flt (fun z : Ex × List T3 => exprP N (ts) = some z) (fun z => [PB T b z.2]) (fun z => .rep (ExR z.1))
  | 0, ts, hts, hl => absurd hl (by omega)
  | N + 1, ts, hts, hl => by
    have he := (Z2p N).le
    have hat : ∀ us, us <:+ T.ts → us.length ≤ N → CallP Tryz.prog Z2k [PB T b (us)] [T.G, AF] [.is (.pointer (some ⟨b, 0, none⟩))] (atomP (exprP N) (us) = none) flt (fun z : Ex × List T3 => atomP (exprP N) (us) = some z) (fun z => [PB T b z.2]) (fun z => .rep (ExR z.1)) := fun us hus hu => Z75 T hc b us hus (exprP N) (exprDn' N) fun vs hvs hv => Z8p T hc b N vs hvs (by omega)
    have hfa : ∀ us, us <:+ T.ts → us.length ≤ N → CallP Tryz.prog Z1p [PB T b (us)] [T.G, AF] [.is (.pointer (some ⟨b, 0, none⟩))] (factorP (exprP N) (us) = none) flt (fun z : Ex × List T3 => factorP (exprP N) (us) = some z) (fun z => [PB T b z.2]) (fun z => .rep (ExR z.1)) := fun us hus hu => Z3U T hc b (exprP N) N hat us.length us hus hu (Nat.le_refl _)
    have hpr : ∀ us, us <:+ T.ts → us.length ≤ N → CallP Tryz.prog Z20 [PB T b (us)] [T.G, AF] [.is (.pointer (some ⟨b, 0, none⟩))] (prodP (exprP N) (us) = none) flt (fun z : Ex × List T3 => prodP (exprP N) (us) = some z) (fun z => [PB T b z.2]) (fun z => .rep (ExR z.1)) := fun us hus hu => Z62 T hc b us hus (exprP N) he fun vs hvs hv => hfa vs hvs (by omega)
    have hsu : ∀ us, us <:+ T.ts → us.length ≤ N → CallP Tryz.prog Z2s [PB T b (us)] [T.G, AF] [.is (.pointer (some ⟨b, 0, none⟩))] (sumP (exprP N) (us) = none) flt (fun z : Ex × List T3 => sumP (exprP N) (us) = some z) (fun z => [PB T b z.2]) (fun z => .rep (ExR z.1)) := fun us hus hu => Z7F T hc b us hus (exprP N) he fun vs hvs hv => hpr vs hvs (by omega)
    have hno : ∀ us, us <:+ T.ts → us.length ≤ N → CallP Tryz.prog Z1H [PB T b (us)] [T.G, AF] [.is (.pointer (some ⟨b, 0, none⟩))] (notP (exprP N) (us) = none) flt (fun z : Ex × List T3 => notP (exprP N) (us) = some z) (fun z => [PB T b z.2]) (fun z => .rep (ExR z.1)) := fun us hus hu => Z4C T hc b (exprP N) he N hsu us.length us hus hu (Nat.le_refl _)
    have han : ∀ us, us <:+ T.ts → us.length ≤ N → CallP Tryz.prog Z2u [PB T b (us)] [T.G, AF] [.is (.pointer (some ⟨b, 0, none⟩))] (andP (exprP N) (us) = none) flt (fun z : Ex × List T3 => andP (exprP N) (us) = some z) (fun z => [PB T b z.2]) (fun z => .rep (ExR z.1)) := fun us hus hu => Z7D T hc b us hus (exprP N) he fun vs hvs hv => hno vs hvs (by omega)
    exact Z7k T hc b ts hts (exprP N) he fun vs hvs hv => han vs hvs (by omega)
end Go.Proofs.YtbedigkncjbggaaGreatDoor
namespace Go.Pz
open Go Go.Vc
abbrev agv (cs : List Value) : Value := .agg cs.toArray
theorem ZaH {x : Ex} {cs : List Value} {w : World} (h : ExR x (.agg cs.toArray) w) : ∃ k vk vn vs tb nm sl a len cap, cs = exCells k vk vn vs tb nm sl a len cap := by
 obtain ⟨k, vk, vn, vs, tb, nm, sl, a, len, cap, e⟩ := Z4X h
 exact ⟨k, vk, vn, vs, tb, nm, sl, a, len, cap, Z3M e⟩
theorem Z8y {x : Ex} {cs : List Value} {w : World} (h : ExR x (.agg cs.toArray) w) : cs.length = 8 := by
 obtain ⟨k, vk, vn, vs, tb, nm, sl, a, len, cap, rfl⟩ := ZaH h; rfl
theorem Z9B {x : Ex} {cs : List Value} {w : World} (h : ExR x (.agg cs.toArray) w) : ∀ u ∈ cs, u.oneCell' = true := by
 obtain ⟨k, vk, vn, vs, tb, nm, sl, a, len, cap, rfl⟩ := ZaH h
 intro u hu
 simp only [exCells, List.mem_cons, List.mem_nil_iff, or_false] at hu
 rcases hu with rfl | rfl | rfl | rfl | rfl | rfl | rfl | rfl <;> rfl
def exE : Enc Ex where
  sz := 8
  R x cs w := ExR x (.agg cs.toArray) w
  v := agv
  pos := by decide
  len := Z8y
  one := Z9B
  nu h := by
    obtain ⟨k, n, h0⟩ := Z4n h
    exact ⟨_, h0, by simp [undef]⟩
  inj _ _ h := Z3M h
def itE : Enc Itm where
  sz := 9
  R x cs w := ∃ es, cs = .bool x.all :: es ∧ ExR x.ex (.agg es.toArray) w
  v := agv
  pos := by decide
  len := by rintro x cs w ⟨es, rfl, h⟩; simp [Z8y h]
  one := by
    rintro x cs w ⟨es, rfl, h⟩ u hu
    rcases List.mem_cons.1 hu with rfl | hu
    · rfl
    · exact Z9B h u hu
  nu := by rintro x cs w ⟨es, rfl, h⟩; exact ⟨_, rfl, by simp [undef]⟩
  inj _ _ h := Z3M h
def kyE : Enc Ky where
  sz := 9
  R x cs w := ∃ es, cs = es ++ [.bool x.desc] ∧ ExR x.ex (.agg es.toArray) w
  v := agv
  pos := by decide
  len := by rintro x cs w ⟨es, rfl, h⟩; simp [Z8y h]
  one := by
    rintro x cs w ⟨es, rfl, h⟩ u hu
    rcases List.mem_append.1 hu with hu | hu
    · exact Z9B h u hu
    · rw [List.mem_singleton.1 hu]; rfl
  nu := by
    rintro x cs w ⟨es, rfl, h⟩
    obtain ⟨k, n, h0⟩ := Z4n h
    exact ⟨_, by rw [List.getElem?_append_left (by rw [Z8y h]; decide)]; exact h0, by simp [undef]⟩
  inj _ _ h := Z3M h
def Col.cells (c : Col) : List Value := [.string c.nm, .int .i64 c.ty, .bool c.nn, .bool c.un]
def coE : Enc Col where
  sz := 4
  R x cs _ := cs = x.cells
  v := agv
  pos := by decide
  len := by rintro x cs w rfl; rfl
  one := by
    rintro x cs w rfl u hu
    simp only [Col.cells, List.mem_cons, List.mem_nil_iff, or_false] at hu
    rcases hu with rfl | rfl | rfl | rfl <;> rfl
  nu := by rintro x cs w rfl; exact ⟨_, rfl, by simp [undef]⟩
  inj _ _ h := Z3M h
abbrev hdv (cs : List Value) : Value := cs.headD undef
theorem Z8C {cs cs' : List Value} (h : cs.length = 1) (h' : cs'.length = 1) (e : hdv cs = hdv cs') : cs = cs' := by
  match cs, cs', h, h' with
  | [a], [b], _, _ => simpa [hdv] using e
def stE : Enc ByteArray where
  sz := 1
  R x cs _ := cs = [.string x]
  v := hdv
  pos := by decide
  len := by rintro x cs w rfl; rfl
  one := by rintro x cs w rfl u hu; rw [List.mem_singleton.1 hu]; rfl
  nu := by rintro x cs w rfl; exact ⟨_, rfl, by simp [undef]⟩
  inj := Z8C
def pnE : Enc (ByteArray × Ex) where
  sz := 1
  R x cs _ := cs = [.string x.1]
  v := hdv
  pos := by decide
  len := by rintro x cs w rfl; rfl
  one := by rintro x cs w rfl u hu; rw [List.mem_singleton.1 hu]; rfl
  nu := by rintro x cs w rfl; exact ⟨_, rfl, by simp [undef]⟩
  inj := Z8C
theorem Z8D {xs : List Ex} {v : Value} {w : World} (h : ExsR xs v w) : ∃ a len cap, v = .slice a len cap := by
 obtain ⟨a, len, cap, e, _⟩ := h; exact ⟨a, len, cap, e⟩
def rwE : Enc (List Ex) where
  sz := 1
  R x cs w := ∃ v, cs = [v] ∧ ExsR x v w
  v := hdv
  pos := by decide
  len := by rintro x cs w ⟨v, rfl, h⟩; rfl
  one := by
    rintro x cs w ⟨v, rfl, h⟩ u hu
    obtain ⟨a, len, cap, rfl⟩ := Z8D h
    rw [List.mem_singleton.1 hu]; rfl
  nu := by
    rintro x cs w ⟨v, rfl, h⟩
    obtain ⟨a, len, cap, rfl⟩ := Z8D h
    exact ⟨_, rfl, by simp [undef]⟩
  inj := Z8C
def srE : Enc Src where
  sz := 3
  R x cs w := ∃ v, cs = [.string x.tb, .string x.nm, v] ∧ ExsR x.on v w
  v := agv
  pos := by decide
  len := by rintro x cs w ⟨v, rfl, h⟩; rfl
  one := by
    rintro x cs w ⟨v, rfl, h⟩ u hu
    obtain ⟨a, len, cap, rfl⟩ := Z8D h
    simp only [List.mem_cons, List.mem_nil_iff, or_false] at hu
    rcases hu with rfl | rfl | rfl <;> rfl
  nu := by rintro x cs w ⟨v, rfl, h⟩; exact ⟨_, rfl, by simp [undef]⟩
  inj _ _ h := Z3M h
theorem Cel.kids {ps : List (Cel exE)} {a : Option Addr} {len : Nat} {w : World} (h : RowG Cel.cs 8 ps a len w) (hF : CelF exE ps w) : KidsR (ps.map Cel.x) a len w := by
  obtain ⟨hl, hk⟩ := h
  refine ⟨by simp [hl], fun hn => ?_⟩
  obtain ⟨b, o, ha, hr⟩ := hk hn
  refine ⟨b, o, ha, Z6q (ps.map Cel.x) (ps.map Cel.cs) b o w (by simp) (fun i x cs hx hc => ?_) fun j v hj => ?_⟩
  · rw [List.getElem?_map] at hx hc
    cases hp : ps[i]? with
    | none => rw [hp] at hx; cases hx
    | some p =>
      rw [hp] at hx hc
      injection hx with hx
      injection hc with hc
      subst hx hc
      exact ⟨p.h, hF p (List.mem_of_getElem? hp)⟩
  · rw [← List.flatMap_def] at hj
    obtain ⟨x, hx, hu⟩ := Zaf (enc := Cel.cs) (sz := 8) (fun x : Cel exE => x.h) (by omega) hj
    have := hr _ x hx _ v hu
    rwa [show o + 8 * (j / 8) + j % 8 = o + j by rw [Nat.add_assoc, Nat.div_add_mod]] at this
theorem SlE.exs {G : GoS} {xs : List Ex} {v : Value} {w : World} (h : SlE exE G xs v w) : ExsR xs v w := by
 obtain ⟨ps, a, len, cap, rfl, rfl, _, h4, h5, _⟩ := h
 exact ⟨a, len, cap, rfl, Cel.kids h4 h5⟩
theorem Zj8 (x : Ex) (v : Value) (w : World) : exE.T x v w ↔ ExR x v w := by
  constructor
  · rintro ⟨cs, rfl, h⟩; exact h
  · intro h
    obtain ⟨k, vk, vn, vs, tb, nm, sl, a, len, cap, e⟩ := Z4X h
    exact ⟨_, e, by show ExR x (Value.agg (exCells k vk vn vs tb nm sl a len cap).toArray) w; rw [← e]; exact h⟩
theorem Z8z (x : Ex) : Ty.rep (ExR x) = Ty.rep (exE.T x) := by
 congr 1; funext v w; exact propext (Zj8 x v w).symm
end Go.Pz
namespace Go.Pz
open Go Go.Vc
theorem ZgN : Dn typeP := fun ts z h => by
 unfold typeP at h
 split at h
 · rename_i hi; injection h with h; subst h; exact Zr hi
 split at h
 · rename_i hi; injection h with h; subst h; exact Zr hi
 split at h
 · rename_i hi; injection h with h; subst h; exact Zr hi
 · cases h
theorem ZaS (n : ByteArray) (t : Int) (nn : Bool) : Dn0 (colEnd n t nn) := fun ts z h => by
  unfold colEnd at h
  split at h
  · rename_i hi
    obtain ⟨v, h7, rfl⟩ := mpd h
    exact (Zh _ _ _ _ h7).1.trans (Zr hi).1
  · injection h with h; subst h; exact Z3H _ _ _
theorem Zad : Dn colP := fun ts z h => by
  obtain ⟨n, h1, h2⟩ := bnd h
  obtain ⟨t, h3, h4⟩ := bnd h2
  have h5 : Lt t.2 ts := Lt.trans (ZgN _ _ h3) (ZE _ _ h1).1
  split at h4
  · rename_i hi
    obtain ⟨v, h6, h7⟩ := bnd h4
    exact Lt.trans' ((ZaS _ _ _ _ _ h7).trans ((Zh _ _ _ _ h6).1.trans (Zr hi).1)) h5
  · exact Lt.trans' (ZaS _ _ _ _ _ h4) h5
theorem Z99 {α : Type} {part : Ps α} (hp : Dn0 part) : ∀ n, Dn0 (listG part n)
  | 0, ts, z, h => by rw [listG] at h; injection h with h; subst h; exact List.suffix_refl ts
  | n + 1, ts, z, h => by
    rw [listG] at h
    split at h
    · rename_i hi
      obtain ⟨w, h1, h2⟩ := bnd h
      obtain ⟨y, h3, rfl⟩ := mpd h2
      exact (Z99 hp n _ _ h3).trans ((hp _ _ h1).trans (Zr hi).1)
    · injection h with h; subst h; exact List.suffix_refl ts
theorem Z26 {α : Type} {part : Ps α} (hp : Dn0 part) (most : Nat) : Dn0 (listP most part) := fun ts z h => by
 obtain ⟨w, h1, h2⟩ := bnd h
 obtain ⟨y, h3, h4⟩ := bnd h2
 split at h4
 · injection h4 with h4; subst h4; exact (show y.2 <:+ w.2 from Z99 hp _ _ _ h3).trans (hp _ _ h1)
 · cases h4
theorem Z5P {α : Type} {part : Ps α} (hp : Dn part) (most : Nat) : Dn (listP most part) := fun ts z h => by
 obtain ⟨w, h1, h2⟩ := bnd h
 obtain ⟨y, h3, h4⟩ := bnd h2
 split at h4
 · injection h4 with h4; subst h4; exact Lt.trans' (show y.2 <:+ w.2 from Z99 hp.le _ _ _ h3) (hp _ _ h1)
 · cases h4
theorem Z2t {α : Type} {part : Ps α} (hp : Dn0 part) : Dn (withinP part) := fun ts z h => by
 obtain ⟨a, h1, h2⟩ := bnd h
 obtain ⟨l, h3, h4⟩ := bnd h2
 obtain ⟨v, h5, rfl⟩ := mpd h4
 exact Lt.trans (Zh _ _ _ _ h5) ((Z26 hp 16 _ _ h3).trans (Zh _ _ _ _ h1).1)
theorem Z50 {e : Ps Ex} (he : Dn e) : Dn (itemP e) := fun ts z h => by
 unfold itemP at h
 split at h
 · rename_i hi; injection h with h; subst h; exact Zr hi
 · obtain ⟨v, h5, rfl⟩ := mpd h; exact he _ _ h5
theorem Z54 {e : Ps Ex} (he : Dn e) : Dn (keyP e) := fun ts z h => by
 obtain ⟨v, h5, h6⟩ := mpd h
 have h7 := he _ _ h5
 split at h6
 · rename_i hi; subst h6; exact Lt.trans (Zr hi) h7.1
 · subst h6; exact Lt.trans' (Z3H _ _ _) h7
theorem Z5H {e : Ps Ex} (he : Dn e) : Dn (setP e) := fun ts z h => by
 obtain ⟨a, h1, h2⟩ := bnd h
 obtain ⟨l, h3, h4⟩ := bnd h2
 obtain ⟨v, h5, rfl⟩ := mpd h4
 exact Lt.trans (he _ _ h5) ((Zh _ _ _ _ h3).1.trans (ZE _ _ h1).1)
theorem Z3L : Dn sourceP := fun ts z h => by
  obtain ⟨a, h1, h2⟩ := bnd h
  have h3 := ZE _ _ h1
  split at h2
  · rename_i hi
    obtain ⟨v, h5, rfl⟩ := mpd h2
    exact Lt.trans (ZE _ _ h5) ((Zr hi).1.trans h3.1)
  split at h2
  · obtain ⟨v, h5, rfl⟩ := mpd h2
    exact Lt.trans (ZE _ _ h5) h3.1
  · injection h2 with h2; subst h2; exact h3
theorem Z4N {e : Ps Ex} (he : Dn e) : Dn (joinP e) := fun ts z h => by
 obtain ⟨a, h1, h2⟩ := bnd h
 obtain ⟨s, h3, h4⟩ := bnd h2
 obtain ⟨b, h5, h6⟩ := bnd h4
 obtain ⟨v, h7, rfl⟩ := mpd h6
 exact Lt.trans (he _ _ h7) ((Zh _ _ _ _ h5).1.trans ((Z3L _ _ h3).1.trans (Zh _ _ _ _ h1).1))
def Stop (q : List T3) : Prop := ∀ k s, (k == 5 && (sq s Z1I || sq s s_rp)) = false → isT k s q = false
theorem Z8v : Stop [⟨5, Z1I, 0⟩] := fun k s h => by
  show ((5 == k) && (Z1I.data.toList == s.data.toList)) = false
  cases hk : ((5 : Int) == k) with
  | false => rfl
  | true =>
    have : k = 5 := (beq_iff_eq.1 hk).symm
    subst this
    simp only [sq, beq_self_eq_true, Bool.true_and, Bool.or_eq_false_iff] at h
    rw [Bool.true_and, Bool.beq_comm]; exact h.1
def Stab {α : Type} (q : List T3) (p p' : Ps α) : Prop := ∀ l z, p l = some z → p' (l ++ q) = some (z.1, z.2 ++ q)
section
variable {q : List T3} (hq : Stop q)
theorem Z1g {k : Int} {s : ByteArray} (h : isT k s q = false) (l : List T3) : isT k s (l ++ q) = isT k s l := by
 cases l with
 | nil => exact h
 | cons t r => rfl
theorem Z1f {l : List T3} (h : l ≠ []) : (l ++ q).tail = l.tail ++ q := by
 cases l with
 | nil => exact absurd rfl h
 | cons t r => rfl
theorem Z1C {k : Int} {s : ByteArray} {l : List T3} (h : isT k s l = true) : l ≠ [] := by
 obtain ⟨t, r, rfl, _⟩ := Z53 h; simp
theorem Za0 {k : Int} {s : ByteArray} (h : isT k s q = false) (l : List T3) : skT k s (l ++ q) = skT k s l ++ q := by
 unfold skT
 rw [Z1g h]
 split
 · rename_i hi; exact Z1f (Z1C hi)
 · rfl
theorem ZH (k : Int) (s : ByteArray) : Stab q (wantP k s) (wantP k s) := fun l z h => by
  unfold wantP at h ⊢
  split at h
  · rename_i hi
    injection h with h; subst h
    obtain ⟨t, r, rfl, _⟩ := Z53 hi
    rw [if_pos (by exact hi)]; rfl
  · cases h
theorem Z5F (k : Int) : Stab q (takeP k) (takeP k) := fun l z h => by
  cases l with
  | nil => cases h
  | cons t r =>
    rw [takeP] at h
    rw [List.cons_append, takeP]
    split at h
    · rename_i hi; injection h with h; subst h; rw [if_pos hi]
    · cases h
theorem Z1y : Stab q nameP nameP := fun l z h => by
 obtain ⟨y, h1, rfl⟩ := mpd h
 unfold nameP
 rw [Z5F 2 _ _ h1]; rfl
theorem bdS {α β : Type} {p p' : Ps α} (hp : Stab q p p') {l : List T3} {f g : α × List T3 → Option (β × List T3)} {z : β × List T3} (h : (p l).bind f = some z) (hf : ∀ w, p l = some w → f w = some z → g (w.1, w.2 ++ q) = some (z.1, z.2 ++ q)) : (p' (l ++ q)).bind g = some (z.1, z.2 ++ q) := by
 obtain ⟨w, h1, h2⟩ := bnd h
 rw [hp _ _ h1, Option.bind_some]
 exact hf w h1 h2
theorem mdS {α β : Type} {p p' : Ps α} (hp : Stab q p p') {l : List T3} {f g : α × List T3 → β × List T3} {z : β × List T3} (h : (p l).map f = some z) (hf : ∀ w, p l = some w → f w = z → g (w.1, w.2 ++ q) = (z.1, z.2 ++ q)) : (p' (l ++ q)).map g = some (z.1, z.2 ++ q) := by
 obtain ⟨w, h1, h2⟩ := mpd h
 rw [hp _ _ h1, Option.map_some, hf w h1 h2]
def opsOK (k : Int) (ops : List (ByteArray × Int)) : Bool := ops.all fun o => !(k == 5 && (sq o.1 Z1I || sq o.1 s_rp))
theorem Z97 {k : Int} {ops : List (ByteArray × Int)} (ho : opsOK k ops = true) (l : List T3) (hq : Stop q) : opOf k ops (l ++ q) = opOf k ops l := by
  induction ops with
  | nil => rfl
  | cons a os ih =>
    obtain ⟨s, n⟩ := a
    simp only [opsOK, List.all_cons, Bool.and_eq_true, Bool.not_eq_true'] at ho
    rw [opOf, opOf, Z1g (hq k s ho.1), ih ho.2]
theorem Zau {k r : Int} {ops : List (ByteArray × Int)} {l : List T3} (h : opOf k ops l = some r) : l ≠ [] := by
 have := (Z3I h).2
 intro e; subst e; simp at this
include hq
theorem Z8S {part part' : Ps Ex} {k : Int} {ops : List (ByteArray × Int)} (ho : opsOK k ops = true) (hd : Dn0 part) (hp : Stab q part part') : ∀ (n m : Nat) (x : Ex) (l : List T3) (z : Ex × List T3), n ≤ m → l.length ≤ n → chainG part k ops n x l = some z → chainG part' k ops m x (l ++ q) = some (z.1, z.2 ++ q)
  | 0, m, x, l, z, hm, hl, h => by
    have : l = [] := List.length_eq_zero_iff.1 (by omega)
    subst this
    rw [chainG] at h; injection h with h; subst h
    have e := Z97 (q := q) ho [] hq
    have e0 : opOf k ops [] = none := by
      cases hh : opOf k ops [] with
      | none => rfl
      | some r => exact absurd rfl (Zau hh)
    rw [e0] at e
    cases m with
    | zero => rfl
    | succ m => rw [chainG, e]
  | n + 1, 0, x, l, z, hm, hl, h => absurd hm (by omega)
  | n + 1, m + 1, x, l, z, hm, hl, h => by
    rw [chainG] at h
    rw [chainG, Z97 ho l hq]
    split at h
    · rename_i e; injection h with h; subst h; rfl
    · rename_i r e
      rw [Z1f (Zau e)]
      refine bdS hp h fun w h1 h2 => ?_
      have h3 := (hd _ _ h1).length_le
      have h4 := (Z3I e).2
      exact Z8S ho hd hp n m _ _ _ (by omega) (by omega) h2
theorem Z5a {part part' : Ps Ex} {k : Int} {ops : List (ByteArray × Int)} (ho : opsOK k ops = true) (hd : Dn0 part) (hp : Stab q part part') : Stab q (chainP part k ops) (chainP part' k ops) := fun l z h =>
 bdS hp h fun w _ h2 => Z8S hq ho hd hp _ _ _ _ _ (by simp) (Nat.le_refl _) h2
section
variable {e e' : Ps Ex} (he : Stab q e e')
include he
theorem ZgD : Stab q (kwP e) (kwP e') := fun l z h => by
  unfold kwP at h ⊢
  refine bdS (Z5F 1) h fun w h1 h2 => ?_
  dsimp only at h2 ⊢
  split at h2
  · rename_i h3; injection h2 with h2; subst h2; rw [if_pos h3]
  rename_i n1; rw [if_neg n1]
  split at h2
  · rename_i h3; injection h2 with h2; subst h2; rw [if_pos h3]
  rename_i n2; rw [if_neg n2]
  split at h2
  · rename_i h3; injection h2 with h2; subst h2; rw [if_pos h3]
  rename_i n3; rw [if_neg n3]
  split at h2
  · cases h2
  rename_i r e3
  refine bdS (ZH 5 s_lp) h2 fun u h4 h5 => ?_
  dsimp only at h5 ⊢
  rw [Z1g (hq 5 Z2i (by decide))]
  split at h5
  · rename_i hi
    rw [if_pos hi, Z1f (Z1C (by simp at hi; exact hi.2))]
    exact mdS (ZH 5 s_rp) h5 fun v _ h6 => by subst h6; rfl
  · rename_i hi
    rw [if_neg hi]
    exact bdS he h5 fun x h6 h7 => mdS (ZH 5 s_rp) h7 fun v _ h8 => by subst h8; rfl
theorem Ze3 : Stab q (atomP e) (atomP e') := fun l z h => by
  cases l with
  | nil => cases h
  | cons t r =>
    rw [List.cons_append]
    rw [atomP] at h ⊢
    split at h
    · rename_i h3; injection h with h; subst h; rw [if_pos h3]
    rename_i n1; rw [if_neg n1]
    split at h
    · rename_i h3; injection h with h; subst h; rw [if_pos h3]
    rename_i n2; rw [if_neg n2]
    split at h
    · rename_i h3
      rw [if_pos h3, Z1g (hq 5 Z6B (by decide))]
      split at h
      · rename_i h4
        rw [if_pos h4, Z1f (Z1C h4)]
        exact mdS Z1y h fun v _ h6 => by subst h6; rfl
      · rename_i h4; injection h with h; subst h; rw [if_neg h4]
    rename_i n3; rw [if_neg n3]
    split at h
    · rename_i h3; rw [if_pos h3]; exact ZgD hq he _ _ h
    rename_i n4; rw [if_neg n4]
    refine bdS (l := t :: r) (ZH 5 s_lp) h fun w h1 h2 => ?_
    exact bdS he h2 fun x h6 h7 => mdS (ZH 5 s_rp) h7 fun v _ h8 => by subst h8; rfl
theorem Z8e : ∀ (l : List T3) (z : Ex × List T3), factorP e l = some z → factorP e' (l ++ q) = some (z.1, z.2 ++ q)
  | [], z, h => by rw [factorP] at h; cases h
  | t :: r, z, h => by
    rw [List.cons_append]
    rw [factorP] at h ⊢
    have e1 : isT 5 Z3n (t :: (r ++ q)) = isT 5 Z3n (t :: r) := rfl
    rw [e1]
    split at h
    · rename_i h3
      rw [if_pos h3]
      obtain ⟨w, h4, h5⟩ := mpd h
      rw [Z8e r w h4, Option.map_some, ← h5]
    · rename_i h3
      rw [if_neg h3]
      exact Ze3 hq he (t :: r) z h
theorem Zee (hd : Dn0 e) : Stab q (prodP e) (prodP e') := Z5a hq (by decide) (Z5B hd).le (Z8e hq he)
theorem ZaN (hd : Dn0 e) : Stab q (sumP e) (sumP e') := Z5a hq (by decide) (Z9p hd).le (Zee hq he hd)
theorem Zeu (hd : Dn0 e) (x : Ex) : Stab q (cmpP e x) (cmpP e' x) := fun l z h => by
  unfold cmpP at h ⊢
  rw [Z97 (by decide) l hq]
  split at h
  · rename_i r e1
    rw [Z1f (Zau e1)]
    exact mdS (ZaN hq he hd) h fun v _ h6 => by subst h6; rfl
  · rename_i e1
    rw [Z1g (hq 1 w_IS (by decide))]
    split at h
    · rename_i h3
      rw [if_pos h3, Z1f (Z1C h3), Z1g (hq 1 Z29 (by decide))]
      split at h
      · rename_i h4
        rw [if_pos h4, Z1f (Z1C h4)]
        exact mdS (ZH 1 Z3f) h fun v _ h6 => by subst h6; rfl
      · rename_i h4
        rw [if_neg h4]
        exact mdS (ZH 1 Z3f) h fun v _ h6 => by subst h6; rfl
    · rename_i h3; injection h with h; subst h; rw [if_neg h3]
theorem ZaL (hd : Dn0 e) : ∀ (l : List T3) (z : Ex × List T3), notP e l = some z → notP e' (l ++ q) = some (z.1, z.2 ++ q)
  | [], z, h => by
    rw [notP] at h
    obtain ⟨w, h1, _⟩ := bnd h
    have := (Z34 hd _ _ h1).2
    simp at this
  | t :: r, z, h => by
    rw [List.cons_append]
    rw [notP] at h ⊢
    have e1 : isT 1 Z29 (t :: (r ++ q)) = isT 1 Z29 (t :: r) := rfl
    rw [e1]
    split at h
    · rename_i h3
      rw [if_pos h3]
      obtain ⟨w, h4, h5⟩ := mpd h
      rw [ZaL hd r w h4, Option.map_some, ← h5]
    · rename_i h3
      rw [if_neg h3]
      exact bdS (l := t :: r) (ZaN hq he hd) h fun w _ h2 => Zeu hq he hd _ _ _ h2
theorem ZfQ (hd : Dn0 e) : Stab q (andP e) (andP e') := Z5a hq (by decide) (Z8A hd).le (ZaL hq he hd)
theorem ZgK (hd : Dn0 e) : Stab q (orP e) (orP e') := Z5a hq (by decide) (Zap hd).le (ZfQ hq he hd)
end
theorem Z7u : ∀ n m, n ≤ m → Stab q (exprP n) (exprP m)
 | 0, _, _ => fun l z h => by cases h
 | n + 1, 0, h => absurd h (by omega)
 | n + 1, m + 1, h => ZgK hq (Z7u n m (by omega)) (Z2p n).le
theorem Z9D {α : Type} {part part' : Ps α} (hd : Dn0 part) (hp : Stab q part part') : ∀ (n m : Nat) (l : List T3) (z : List α × List T3), n ≤ m → l.length ≤ n → listG part n l = some z → listG part' m (l ++ q) = some (z.1, z.2 ++ q)
  | 0, m, l, z, hm, hl, h => by
    have : l = [] := List.length_eq_zero_iff.1 (by omega)
    subst this
    rw [listG] at h; injection h with h; subst h
    cases m with
    | zero => rfl
    | succ m => rw [listG, if_neg (by rw [List.nil_append, hq 5 ZV (by decide)]; decide)]
  | n + 1, 0, l, z, hm, hl, h => absurd hm (by omega)
  | n + 1, m + 1, l, z, hm, hl, h => by
    rw [listG] at h ⊢
    rw [Z1g (hq 5 ZV (by decide))]
    split at h
    · rename_i hi
      rw [if_pos hi, Z1f (Z1C hi)]
      refine bdS hp h fun w h1 h2 => ?_
      have h3 := (hd _ _ h1).length_le
      have h4 := (Zr hi).2
      obtain ⟨y, h5, h6⟩ := mpd h2
      dsimp only
      rw [Z9D hd hp n m _ _ (by omega) (by omega) h5, Option.map_some, ← h6]
    · rename_i hi; injection h with h; subst h; rw [if_neg hi]
theorem Z3Q {α : Type} {part part' : Ps α} (hd : Dn0 part) (hp : Stab q part part') (most : Nat) : Stab q (listP most part) (listP most part') := fun l z h => by
 unfold listP at h ⊢
 refine bdS hp h fun w h1 h2 => ?_
 obtain ⟨y, h3, h4⟩ := bnd h2
 dsimp only
 rw [Z9D hq hd hp _ _ _ _ (by simp) (Nat.le_refl _) h3, Option.bind_some]
 split at h4
 · rename_i h5; injection h4 with h4; subst h4; rw [if_pos h5]
 · cases h4
theorem Z5S {α : Type} {part part' : Ps α} (hd : Dn0 part) (hp : Stab q part part') : Stab q (withinP part) (withinP part') := fun l z h => by
 unfold withinP at h ⊢
 exact bdS (ZH 5 s_lp) h fun w h1 h2 => bdS (Z3Q hq hd hp 16) h2 fun w h1 h2 => mdS (ZH 5 s_rp) h2 fun w h1 h2 => by subst h2; rfl
theorem Zei : Stab q typeP typeP := fun l z h => by
 unfold typeP at h ⊢
 rw [Z1g (hq 1 Zbe (by decide)), Z1g (hq 1 Z9w (by decide)), Z1g (hq 1 Z9H (by decide))]
 split at h
 · rename_i hi; injection h with h; subst h; rw [if_pos hi, Z1f (Z1C hi)]
 rename_i n1; rw [if_neg n1]
 split at h
 · rename_i hi; injection h with h; subst h; rw [if_pos hi, Z1f (Z1C hi)]
 rename_i n2; rw [if_neg n2]
 split at h
 · rename_i hi; injection h with h; subst h; rw [if_pos hi, Z1f (Z1C hi)]
 · cases h
theorem Z94 (n : ByteArray) (t : Int) (nn : Bool) : Stab q (colEnd n t nn) (colEnd n t nn) := fun l z h => by
  unfold colEnd at h ⊢
  rw [Z1g (hq 1 Z39 (by decide)), Z1g (hq 1 Z2W (by decide)), Za0 (hq 1 Z2W (by decide))]
  split at h
  · rename_i hi
    rw [if_pos hi, Z1f (Z1C hi)]
    exact mdS (ZH 1 Zbj) h fun w h1 h2 => by subst h2; rfl
  · rename_i hi; injection h with h; subst h; rw [if_neg hi]
theorem ZeL : Stab q colP colP := fun l z h => by
  unfold colP at h ⊢
  refine bdS Z1y h fun w _ h => bdS (Zei hq) h fun v _ h => ?_
  dsimp only at h ⊢
  rw [Z1g (hq 1 Z29 (by decide))]
  split at h
  · rename_i hi
    rw [if_pos hi, Z1f (Z1C hi)]
    exact bdS (ZH 1 Z3f) h fun u _ h => Z94 hq _ _ _ _ _ h
  · rename_i hi
    rw [if_neg hi]
    exact Z94 hq _ _ _ _ _ h
theorem Zc3 : Stab q createP createP := fun l z h => by
  unfold createP at h ⊢
  rw [Z1g (hq 1 Z71 (by decide))]
  split at h
  · rename_i hi
    rw [if_pos hi, Z1f (Z1C hi)]
    refine bdS Z1y h fun w _ h => mdS (Z5S hq Zad.le (ZeL hq)) h fun v _ h => by subst h; rfl
  · rename_i hi
    rw [if_neg hi]
    refine bdS (ZH 1 Za7) h fun w _ h => bdS Z1y h fun w _ h => bdS (ZH 1 w_ON) h fun w _ h => bdS Z1y h fun w _ h => bdS (ZH 5 s_lp) h fun w _ h => bdS Z1y h fun w _ h => bdS (ZH 5 s_rp) h fun w _ h => ?_
    dsimp only at h ⊢
    rw [Z1g (hq 1 Z5K (by decide))]
    split at h
    · rename_i hi
      rw [if_pos hi, Z1f (Z1C hi)]
      exact mdS (ZH 1 ZbW) h fun w h1 h2 => by subst h2; rfl
    · rename_i hi; injection h with h; subst h; rw [if_neg hi]
theorem Zgp (l : List T3) : isLp (l ++ q) = isLp l := by
  cases l with
  | nil =>
    show isLp q = false
    cases q with
    | nil => rfl
    | cons t r =>
      have := hq 5 s_lp (by decide)
      show ((t.k == 5) && (sq t.t s_lp && (t.n == 0))) = false
      have h2 : ((t.k == 5) && sq t.t s_lp) = false := this
      rw [← Bool.and_assoc, h2]; rfl
  | cons t r => rfl
section
variable {e e' : Ps Ex} (he : Stab q e e') (hd : Dn e)
include he
theorem Z6H : Stab q (whereP e) (whereP e') := fun l z h => by
  unfold whereP at h ⊢
  rw [Z1g (hq 1 Z5J (by decide))]
  split at h
  · rename_i hi
    rw [if_pos hi, Z1f (Z1C hi)]
    exact mdS he h fun w h1 h2 => by subst h2; rfl
  · rename_i hi; injection h with h; subst h; rw [if_neg hi]
theorem ZdX : Stab q (itemP e) (itemP e') := fun l z h => by
  unfold itemP at h ⊢
  rw [Z1g (hq 5 Z2i (by decide))]
  split at h
  · rename_i hi; injection h with h; subst h; rw [if_pos hi, Z1f (Z1C hi)]
  · rename_i hi
    rw [if_neg hi]
    exact mdS he h fun w h1 h2 => by subst h2; rfl
theorem ZeB : Stab q (keyP e) (keyP e') := fun l z h => by
 unfold keyP at h ⊢
 refine mdS he h fun w h1 h2 => ?_
 dsimp only at h2 ⊢
 rw [Z1g (hq 1 Z8G (by decide)), Z1g (hq 1 Z5X (by decide)), Za0 (hq 1 Z5X (by decide))]
 split at h2
 · rename_i hi; subst h2; rw [if_pos hi, Z1f (Z1C hi)]
 · rename_i hi; subst h2; rw [if_neg hi]
omit hq in
theorem ZfT : Stab q (setP e) (setP e') := fun l z h => by
 unfold setP at h ⊢
 exact bdS Z1y h fun w _ h => bdS (ZH 5 s_eq) h fun w _ h => mdS he h fun w h1 h2 => by subst h2; rfl
omit he in
theorem Zhu (k : Int) (hk : k ≠ 5) (hq5 : ∀ t r, q = t :: r → t.k = 5) (l : List T3) : isK k (l ++ q) = isK k l := by
  cases l with
  | nil =>
    show isK k q = false
    cases q with
    | nil => rfl
    | cons t r => 
      show (t.k == k) = false
      rw [hq5 t r rfl]
      simpa using fun h => hk h.symm
  | cons t r => rfl
omit he in
theorem Z8d (hq5 : ∀ t r, q = t :: r → t.k = 5) : Stab q sourceP sourceP := fun l z h => by
  unfold sourceP at h ⊢
  refine bdS Z1y h fun w _ h => ?_
  dsimp only at h ⊢
  rw [Z1g (hq 1 w_AS (by decide)), Zhu hq 2 (by decide) hq5]
  split at h
  · rename_i hi
    rw [if_pos hi, Z1f (Z1C hi)]
    exact mdS Z1y h fun w h1 h2 => by subst h2; rfl
  rename_i n1; rw [if_neg n1]
  split at h
  · rename_i hi
    rw [if_pos hi]
    exact mdS Z1y h fun w h1 h2 => by subst h2; rfl
  · rename_i hi; injection h with h; subst h; rw [if_neg hi]
theorem Ze8 (hq5 : ∀ t r, q = t :: r → t.k = 5) : Stab q (joinP e) (joinP e') := fun l z h => by
 unfold joinP at h ⊢
 exact bdS (ZH 1 Z3G) h fun w _ h => bdS (Z8d hq hq5) h fun w _ h => bdS (ZH 1 w_ON) h fun w _ h => mdS he h fun w h1 h2 => by subst h2; rfl
include hd
theorem Z91 (hq5 : ∀ t r, q = t :: r → t.k = 5) : ∀ (n m : Nat) (l : List T3) (z : List Src × List T3), n ≤ m → l.length ≤ n → joinsG e n l = some z → joinsG e' m (l ++ q) = some (z.1, z.2 ++ q)
  | 0, m, l, z, hm, hl, h => by
    have : l = [] := List.length_eq_zero_iff.1 (by omega)
    subst this
    rw [joinsG] at h; injection h with h; subst h
    cases m with
    | zero => rfl
    | succ m => rw [joinsG, if_neg (by rw [List.nil_append, hq 1 ZT (by decide), hq 1 Z3G (by decide)]; decide)]
  | n + 1, 0, l, z, hm, hl, h => absurd hm (by omega)
  | n + 1, m + 1, l, z, hm, hl, h => by
    rw [joinsG] at h ⊢
    rw [Z1g (hq 1 ZT (by decide)), Z1g (hq 1 Z3G (by decide)), Za0 (hq 1 ZT (by decide))]
    split at h
    · rename_i hi
      rw [if_pos hi]
      refine bdS (Ze8 hq he hq5) h fun w h1 h2 => ?_
      have h3 := (Z4N hd _ _ h1).2
      have h4 := (Z3H 1 ZT l).length_le
      obtain ⟨y, h5, h6⟩ := mpd h2
      dsimp only
      rw [Z91 hq5 n m _ _ (by omega) (by omega) h5, Option.map_some, ← h6]
    · rename_i hi; injection h with h; subst h; rw [if_neg hi]
theorem Zd3 : Stab q (groupP e) (groupP e') := fun l z h => by
  unfold groupP at h ⊢
  rw [Z1g (hq 1 Z4h (by decide))]
  split at h
  · rename_i hi
    rw [if_pos hi, Z1f (Z1C hi)]
    exact bdS (ZH 1 w_BY) h fun w _ h => Z3Q hq hd.le he 16 _ _ h
  · rename_i hi; injection h with h; subst h; rw [if_neg hi]
theorem ZcL : Stab q (orderP e) (orderP e') := fun l z h => by
  unfold orderP at h ⊢
  rw [Z1g (hq 1 Z2J (by decide))]
  split at h
  · rename_i hi
    rw [if_pos hi, Z1f (Z1C hi)]
    exact bdS (ZH 1 w_BY) h fun w _ h => Z3Q hq (Z54 hd).le (ZeB hq he) 16 _ _ h
  · rename_i hi; injection h with h; subst h; rw [if_neg hi]
omit he hd in
theorem ZcW : Stab q limitP limitP := fun l z h => by
  unfold limitP at h ⊢
  rw [Z1g (hq 1 Z1z (by decide))]
  split at h
  · rename_i hi
    rw [if_pos hi, Z1f (Z1C hi)]
    exact mdS (Z5F 3) h fun w h1 h2 => by subst h2; rfl
  · rename_i hi; injection h with h; subst h; rw [if_neg hi]
theorem Z88 (tb : ByteArray) (ns : List ByteArray) : Stab q (insRows e tb ns) (insRows e' tb ns) := fun l z h => by
 unfold insRows at h ⊢
 exact bdS (ZH 1 Z66) h fun w _ h => mdS (Z3Q hq (Z2t hd.le).le (Z5S hq hd.le he) 32) h fun w h1 h2 => by subst h2; rfl
theorem Zbt : Stab q (insertP e) (insertP e') := fun l z h => by
  unfold insertP at h ⊢
  refine bdS (ZH 1 Z9K) h fun w _ h => bdS Z1y h fun w _ h => ?_
  dsimp only at h ⊢
  rw [Zgp hq]
  split at h
  · rename_i hi
    rw [if_pos hi]
    exact bdS (Z5S hq ZE.le Z1y) h fun w _ h => Z88 hq he hd _ _ _ _ h
  · rename_i hi
    rw [if_neg hi]
    exact Z88 hq he hd _ _ _ _ h
theorem ZcS (hq5 : ∀ t r, q = t :: r → t.k = 5) : Stab q (queryP e) (queryP e') := fun l z h => by
  unfold queryP at h ⊢
  refine bdS (Z3Q hq (Z50 hd).le (ZdX hq he) 16) h fun i _ h => bdS (ZH 1 Z4D) h fun a _ h => bdS (Z8d hq hq5) h fun s _ h => ?_
  obtain ⟨j, h3, h4⟩ := bnd h
  dsimp only
  rw [Z91 hq he hd hq5 _ _ _ _ (by simp) (Nat.le_refl _) h3, Option.bind_some]
  split at h4
  · rename_i h5
    rw [if_pos h5]
    exact bdS (Z6H hq he) h4 fun w _ h => bdS (Zd3 hq he hd) h fun w _ h => bdS (ZcL hq he hd) h fun w _ h => mdS (ZcW hq) h fun w h1 h2 => by subst h2; rfl
  · cases h4
theorem Zck : Stab q (updateP e) (updateP e') := fun l z h => by
 unfold updateP at h ⊢
 exact bdS Z1y h fun w _ h => bdS (ZH 1 Zbh) h fun w _ h => bdS (Z3Q hq (Z5H hd).le (ZfT he) 16) h fun w _ h => mdS (Z6H hq he) h fun w h1 h2 => by subst h2; rfl
omit hd in
theorem Zc1 : Stab q (removeP e) (removeP e') := fun l z h => by
 unfold removeP at h ⊢
 exact bdS (ZH 1 Z4D) h fun w _ h => bdS Z1y h fun w _ h => mdS (Z6H hq he) h fun w h1 h2 => by subst h2; rfl
theorem Z9Q (hq5 : ∀ t r, q = t :: r → t.k = 5) : Stab q (stmtP e) (stmtP e') := fun l z h => by
 unfold stmtP at h ⊢
 refine bdS (Z5F 1) h fun w _ h => ?_
 dsimp only at h ⊢
 split at h
 · rename_i hi; rw [if_pos hi]; exact Zc3 hq _ _ h
 rename_i n1; rw [if_neg n1]
 split at h
 · rename_i hi; rw [if_pos hi]; exact Zbt hq he hd _ _ h
 rename_i n1; rw [if_neg n1]
 split at h
 · rename_i hi; rw [if_pos hi]; exact ZcS hq he hd hq5 _ _ h
 rename_i n1; rw [if_neg n1]
 split at h
 · rename_i hi; rw [if_pos hi]; exact Zck hq he hd _ _ h
 rename_i n1; rw [if_neg n1]
 split at h
 · rename_i hi; rw [if_pos hi]; exact Zc1 hq he _ _ h
 rename_i n1; rw [if_neg n1]
 split at h
 · rename_i hi; injection h with h; subst h; rw [if_pos hi]
 rename_i n1; rw [if_neg n1]
 split at h
 · rename_i hi; injection h with h; subst h; rw [if_pos hi]
 rename_i n1; rw [if_neg n1]
 split at h
 · rename_i hi; injection h with h; subst h; rw [if_pos hi]
 · cases h
end
end
end Go.Pz
namespace Go.Pz
open Go Go.Vc
theorem Z7C {α : Type} {part : Ps α} (hp : Dn0 part) : ∀ (n m : Nat) (ts : List T3), ts.length ≤ n → ts.length ≤ m → listG part n ts = listG part m ts
  | 0, m, ts, h, _ => by
    have : ts = [] := List.length_eq_zero_iff.1 (by omega)
    subst this
    cases m with
    | zero => rfl
    | succ m => rw [listG, listG, if_neg (by exact Bool.false_ne_true)]
  | n + 1, 0, ts, _, h => by
    have : ts = [] := List.length_eq_zero_iff.1 (by omega)
    subst this
    rw [listG, listG, if_neg (by exact Bool.false_ne_true)]
  | n + 1, m + 1, ts, h, h' => by
    rw [listG, listG]
    split
    · rename_i hi
      have h1 := (Zr hi).2
      exact Z1W fun y hy => by
        have h2 := (hp _ _ hy).length_le
        rw [Z7C hp n m y.2 (by omega) (by omega)]
    · rfl
def listC {α : Type} (part : Ps α) : Ps (List α) := fun ts => listG part ts.length ts
theorem ZgE {α : Type} {part : Ps α} {ts : List T3} (h : isT 5 ZV ts = false) : listC part ts = some ([], ts) := by
 unfold listC
 cases ts.length with
 | zero => rfl
 | succ n => rw [listG, if_neg (by rw [h]; decide)]
theorem Zf1 {α : Type} {part : Ps α} (hp : Dn0 part) {ts : List T3} (h : isT 5 ZV ts = true) : listC part ts = (part ts.tail).bind fun z => (listC part z.2).map fun y => (z.1 :: y.1, y.2) := by
  have h1 := (Zr h).2
  unfold listC
  rw [Z7C hp _ (ts.length + 1) ts (by omega) (by omega), listG, if_pos h]
  exact Z1W fun y hy => by
    have h2 := (hp _ _ hy).length_le
    rw [Z7C hp _ y.2.length y.2 (by omega) (by omega)]
def listI {α : Type} (most : Nat) (part : Ps α) (xs : List α) : Ps (List α) := fun us => (listC part us).bind fun y => if xs.length + y.1.length ≤ most then some (xs ++ y.1, y.2) else none
theorem Z1E {α : Type} (most : Nat) (part : Ps α) (ts : List T3) : listP most part ts = (part ts).bind fun z => listI most part [z.1] z.2 := by
 unfold listP listI
 refine Z1W fun z _ => Z1W fun y _ => ?_
 simp only [List.length_singleton, List.singleton_append]
 rw [Nat.add_comm]
theorem Z48 {α : Type} {most : Nat} {part : Ps α} {xs : List α} {us : List T3} (h : isT 5 ZV us = false) : listI most part xs us = if xs.length ≤ most then some (xs, us) else none := by
 unfold listI
 rw [ZgE h]
 simp
theorem Z23 {α : Type} {most : Nat} {part : Ps α} (hp : Dn0 part) {xs : List α} {us : List T3} (h : isT 5 ZV us = true) : listI most part xs us = (part us.tail).bind fun z => listI most part (xs ++ [z.1]) z.2 := by
  unfold listI
  rw [Zf1 hp h, bas]
  refine Z1W fun z _ => ?_
  cases listC part z.2 with
  | none => rfl
  | some y =>
    simp only [Option.map_some, Option.bind_some, List.length_cons, List.length_append, List.length_nil, List.append_assoc, List.singleton_append]
    congr 1
    simp only [eq_iff_iff]; omega
theorem Z3K {α : Type} {most : Nat} {part : Ps α} {xs : List α} {us : List T3} (h : isT 5 ZV us = false) (hm : ¬ xs.length ≤ most) : listI most part xs us = none := by rw [Z48 h, if_neg hm]
end Go.Pz
set_option maxRecDepth 20000
namespace Go.Proofs.YtbedigkncjbggaaGreatDoor
open Go Go.Vc Go.Pz
theorem Zev {v : Value} (h : v.oneCell' = true) : v.cells = #[v] := by
 cases v <;> first | rfl | cases h
theorem Z9e {cs : List Value} (h : cs.length = 1) (ho : ∀ u ∈ cs, u.oneCell' = true) : (hdv cs).cells = cs.toArray := by
  match cs, h with
  | [a], _ => exact Zev (ho a List.mem_cons_self)
theorem Z47 : exE.flat := fun p => rfl
theorem ZgJ : itE.flat := fun p => rfl
theorem ZbJ : kyE.flat := fun p => rfl
theorem Zgt : coE.flat := fun p => rfl
theorem ZbK : srE.flat := fun p => rfl
theorem ZbP : stE.flat := fun p => Z9e p.h p.o
theorem ZbD : rwE.flat := fun p => Z9e p.h p.o
abbrev FC (N : Nat) : GoS := FrS N ZS 4
abbrev FN (N : Nat) : GoS := FrS N ZN 1
abbrev FX (N : Nat) : GoS := FrS N Z6 8
abbrev stV (st : St) (vc vn vr vi vf vw vg vo vs : Value) : Value := .agg #[.int .i64 st.kind, .string st.tb, .string st.nm, vc, vn, vr, vi, vf, vw, vg, vo, .int .i64 st.limit, vs, .bool st.hash]
def StR (N : Nat) (st : St) (v : Value) (w : World) : Prop := ∃ vc vn vr vi vf vw vg vo vs : Value, v = stV st vc vn vr vi vf vw vg vo vs ∧ SlE coE (FC N) st.cols vc w ∧ SlE stE (FN N) st.names vn w ∧ SlE rwE noS st.rows vr w ∧ SlE itE noS st.items vi w ∧ SlE srE noS st.from_ vf w ∧ SlE exE (FX N) st.where_ vw w ∧ ExsR st.group vg w ∧ SlE kyE noS st.order vo w ∧ ExsR st.sets vs w
abbrev nilv : Value := .slice none 0 0
theorem Zb {α : Type} {E : Enc α} {G : GoS} {w : World} (hG : G none 0 0 w) : SlE E G [] nilv w := ⟨[], none, 0, 0, rfl, rfl, Nat.le_refl _, ⟨rfl, fun h => absurd rfl h⟩, (fun p hp => by cases hp), hG⟩
theorem Z13 {w : World} : ExsR [] nilv w := ⟨none, 0, 0, rfl, rfl, fun h => absurd rfl h⟩
theorem Sub.st {L : List Own} {Φ : List (World → Prop)} {N : Nat} {st : St} {cs : Array Value} {vc vn vr vi vf vw vg vo vs : Value} (hc : Value.agg cs = stV st vc vn vr vi vf vw vg vo vs)
    (h : ∀ X w, (∀ F ∈ Φ, Pers X w F) → ∀ w', Keeps X w w' → SlE coE (FC N) st.cols vc w' ∧ SlE stE (FN N) st.names vn w' ∧ SlE rwE noS st.rows vr w' ∧ SlE itE noS st.items vi w' ∧ SlE srE noS st.from_ vf w' ∧ SlE exE (FX N) st.where_ vw w' ∧ ExsR st.group vg w' ∧ SlE kyE noS st.order vo w' ∧ ExsR st.sets vs w') :
    Sub L Φ (.is (.agg cs)) (.rep (StR N st)) := fun X v w hf e => by
  rw [show v = _ from e, hc]
  intro w' hk
  exact ⟨vc, vn, vr, vi, vf, vw, vg, vo, vs, rfl, h X w hf.2 w' hk⟩
theorem Zfq {N : Nat} {st : St} {X : Nat → Prop} {v : Value} {w : World} (h : Pers X w (StR N st v)) : ∃ vc vn vr vi vf vw vg vo vs : Value, v = stV st vc vn vr vi vf vw vg vo vs ∧ Pers X w (SlE coE (FC N) st.cols vc) ∧ Pers X w (SlE stE (FN N) st.names vn) ∧ Pers X w (SlE rwE noS st.rows vr) ∧ Pers X w (SlE itE noS st.items vi) ∧ Pers X w (SlE srE noS st.from_ vf) ∧ Pers X w (SlE exE (FX N) st.where_ vw) ∧ Pers X w (ExsR st.group vg) ∧ Pers X w (SlE kyE noS st.order vo) ∧ Pers X w (ExsR st.sets vs) := by
  obtain ⟨vc, vn, vr, vi, vf, vw, vg, vo, vs, hv, _⟩ := h.now
  have key : ∀ w', Keeps X w w' → SlE coE (FC N) st.cols vc w' ∧ SlE stE (FN N) st.names vn w' ∧ SlE rwE noS st.rows vr w' ∧ SlE itE noS st.items vi w' ∧ SlE srE noS st.from_ vf w' ∧ SlE exE (FX N) st.where_ vw w' ∧ ExsR st.group vg w' ∧ SlE kyE noS st.order vo w' ∧ ExsR st.sets vs w' := fun w' hk => by
    obtain ⟨vc', vn', vr', vi', vf', vw', vg', vo', vs', hv', h1⟩ := h w' hk
    rw [hv] at hv'
    injection hv' with hv'
    injection hv' with hv'
    simp only [List.cons.injEq, and_true, true_and] at hv'
    obtain ⟨e1, e2, e3, e4, e5, e6, e7, e8, e9⟩ := hv'
    subst e1 e2 e3 e4 e5 e6 e7 e8 e9
    exact h1
  exact ⟨vc, vn, vr, vi, vf, vw, vg, vo, vs, hv, fun w' hk => (key w' hk).1, fun w' hk => (key w' hk).2.1, fun w' hk => (key w' hk).2.2.1, fun w' hk => (key w' hk).2.2.2.1, fun w' hk => (key w' hk).2.2.2.2.1, fun w' hk => (key w' hk).2.2.2.2.2.1, fun w' hk => (key w' hk).2.2.2.2.2.2.1, fun w' hk => (key w' hk).2.2.2.2.2.2.2.1, fun w' hk => (key w' hk).2.2.2.2.2.2.2.2⟩
section
variable {P : Program} {c : Ctx} {K : List (Nat × Ty)} {L : List Own} {Φ : List (World → Prop)} {Q : Exit → Act → World → Prop}
theorem SA.openSt {N s : Nat} {st : St} {X : Nat → Prop} {a : Act} {w : World} (h : Go.Vc.look K s = some (.rep (StR N st))) (hs : SA c K L Φ X a w) : ∃ vc vn vr vi vf vw vg vo vs : Value, SA c ((s, .is (stV st vc vn vr vi vf vw vg vo vs)) :: K) L (SlE coE (FC N) st.cols vc :: SlE stE (FN N) st.names vn :: SlE rwE noS st.rows vr :: SlE itE noS st.items vi :: SlE srE noS st.from_ vf :: SlE exE (FX N) st.where_ vw :: ExsR st.group vg :: SlE kyE noS st.order vo :: ExsR st.sets vs :: Φ) X a w := by
 obtain ⟨vc, vn, vr, vi, vf, vw, vg, vo, vs, hv, h1, h2, h3, h4, h5, h6, h7, h8, h9⟩ := Zfq (hs.k s _ h : Pers X w (StR N st (a.tmps.getD s undef)))
 refine ⟨vc, vn, vr, vi, vf, vw, vg, vo, vs, hs.tell hv [_, _, _, _, _, _, _, _, _] fun F hF => ?_⟩
 simp only [List.mem_cons, List.mem_nil_iff, or_false] at hF
 rcases hF with rfl | rfl | rfl | rfl | rfl | rfl | rfl | rfl | rfl <;> assumption
theorem J.openSt {N s : Nat} {st : St} {y : Code} (h : Go.Vc.look K s = some (.rep (StR N st)))
  (hj : ∀ vc vn vr vi vf vw vg vo vs : Value, J P c ((s, .is (stV st vc vn vr vi vf vw vg vo vs)) :: K) L (SlE coE (FC N) st.cols vc :: SlE stE (FN N) st.names vn :: SlE rwE noS st.rows vr :: SlE itE noS st.items vi :: SlE srE noS st.from_ vf :: SlE exE (FX N) st.where_ vw :: ExsR st.group vg :: SlE kyE noS st.order vo :: ExsR st.sets vs :: Φ) y Q) : J P c K L Φ y Q := by
 refine ⟨fun X a w hs => ?_⟩
 obtain ⟨vc, vn, vr, vi, vf, vw, vg, vo, vs, h1⟩ := SA.openSt h hs
 exact (hj vc vn vr vi vf vw vg vo vs).out X a w h1
end
end Go.Proofs.YtbedigkncjbggaaGreatDoor
