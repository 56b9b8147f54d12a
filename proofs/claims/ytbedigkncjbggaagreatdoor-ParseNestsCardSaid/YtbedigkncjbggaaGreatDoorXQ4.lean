/- The parser: atoms; expressions, by the tokens that are left. No condition. -/
import Derived.Test.YtbedigkncjbggaaGreatDoorXQ3
import Derived.Test.YtbedigkncjbggaaGreatDoorXQ1
import Derived.Test.YtbedigkncjbggaaGreatDoorXG7
import Derived.Test.YtbedigkncjbggaaGreatDoorXQ2
set_option maxRecDepth 20000
namespace Go.Proofs.YtbedigkncjbggaaGreatDoor
open Go Go.Vc
open Go.Pz
theorem Z2V {e : Ps Ex} {ts : List T3} (h : ts ≠ []) : atomP e ts = if ((ts.headD t3D).k == 3) = true then some (lit 1 (ts.headD t3D).n em, ts.tail) else if ((ts.headD t3D).k == 4) = true then some (lit 3 0 (ts.headD t3D).t, ts.tail) else if ((ts.headD t3D).k == 2) = true then (if isT 5 Z7a ts.tail = true then (nameP ts.tail.tail).map fun z => (.mk 2 0 0 em (ts.headD t3D).t z.1 0 [], z.2) else some (.mk 2 0 0 em em (ts.headD t3D).t 0 [], ts.tail)) else if ((ts.headD t3D).k == 1) = true then kwP e ts else (wantP 5 s_lp ts).bind fun y => (e y.2).bind fun x => (wantP 5 s_rp x.2).map fun v => (x.1, v.2) := by
 cases ts with
 | nil => exact absurd rfl h
 | cons t r => rw [atomP]; rfl
theorem Zcs {ts : List T3} (h : ts ≠ []) (hk : ((ts.headD t3D).k == 2) = true) : nameP ts = some ((ts.headD t3D).t, ts.tail) := by
 cases ts with
 | nil => exact absurd rfl h
 | cons t r => unfold nameP; rw [takeP, if_pos (show (t.k == 2) = true from hk)]; rfl
theorem Z6F (T : Tk) (hc : T.ts.length ≤ T.cap) (b : Nat) (ts : List T3) (hts : ts <:+ T.ts) (e : Ps Ex) (exprDn : ∀ {us : List T3} {z : Ex × List T3}, e us = some z → z.2 <:+ us) (hex : ∀ us, us <:+ T.ts → us.length < ts.length → CallP Tryz.prog Zw [PB T b (us)] [T.G, AF] [.is (.pointer (some ⟨b, 0, none⟩))] (e (us) = none) flt (fun z : Ex × List T3 => e (us) = some z) (fun z => [PB T b z.2]) (fun z => .rep (ExR z.1))) : CallP Tryz.prog Z2d [PB T b ts] [T.G, AF] [.is (.pointer (some ⟨b, 0, none⟩))] (atomP e ts = none) flt (fun z : Ex × List T3 => atomP e ts = some z) (fun z => [PB T b z.2]) (fun z => .rep (ExR z.1)) :=
CallP.of (fn := Tryz.f192) Tryz.func192 (n := 79) rfl rfl rfl (fun _ _ => by kernel_rfl) fun E W hb0 => by
 repeat apply Sq
 apply Pn
 refine JO.alloc ZY rfl fun b2 => ?_
 apply Ni
 repeat first | apply Nx | apply Nb
 refine Sl [0, 2] (.cons rfl (.cons rfl .nil)) ?_
 repeat apply Sq
 apply Pn
 refine Jt (Z0 rfl) rfl ?_
 refine Jt (Z0 rfl) rfl ?_
 refine Jt (Z5 rfl) rfl ?_
 refine Jt (Z1 Zh rfl) rfl ?_
 refine Jt (Z3 Zt rfl rfl) rfl ?_
 refine Jt (Zq ZU rfl) rfl ?_
 refine Jt (Z2L rfl rfl) rfl ?_
 refine JO.callPK (Lr := _) (Z8 (.pointer (some ⟨b, 0, none⟩)) _) rfl (Z19 _) ZV (.one rfl (.one rfl .nil)) (fun hbad => ?_) ?_
 · exact JX.pnI (by cases ts with | nil => rfl | cons t r => simp at hbad)
 intro z hz
 have hne : ts ≠ [] := Z2m hz
 try dsimp only [nA, cA]
 apply Ni
 repeat first | apply Nx | apply Nb
 refine Sl [0, 2] (.cons rfl (.cons rfl .nil)) ?_
 repeat apply Sq
 apply Pn
 refine Jt (Z0 rfl) rfl ?_
 refine Jt (Z5 rfl) rfl ?_
 refine Jt (Z1 Zh rfl) rfl ?_
 refine Jt (Z3 Zt rfl rfl) rfl ?_
 refine Jt (Z7 ZT rfl rfl rfl (by omega) (Z2c hne)) rfl ?_
 refine Jt (Z34 (enc := T3.cells) (sz := 3) (i := T.k ts) (y := ts.headD t3D) (cs := T3.cells (ts.headD t3D)) ZS rfl (by repeat first | exact Mh | apply Mt) rfl (Tk.head hts hne) (by rw [Tk.j_eq hc hts hne]; rfl) rfl) rfl ?_
 refine JO.alloc Z28 rfl fun b3 => ?_
 refine JO.m (Z4 rfl rfl (by repeat first | exact .here | apply Ut) (by first | exact cI rfl rfl | exact cE) (by first | exact cI rfl rfl | exact cE | exact cO) Z17) (by rfl) ?_
 apply Ni
 repeat first | apply Nx | apply Nb
 refine Sl [0, 2, 3] (.cons rfl (.cons rfl (.cons rfl .nil))) ?_
 repeat apply Sq
 apply Pn
 refine Jt (Z1 Z2r rfl) rfl ?_
 refine Jt (Z3 Zy rfl rfl) rfl ?_
 apply Ni
 repeat first | apply Nx | apply Nb
 refine Sl [0, 2, 3, 21] (.cons rfl (.cons rfl (.cons rfl (.cons rfl .nil)))) ?_
 repeat apply Sq
 apply Bk
 repeat apply Sq
 apply Pn
 refine Jt (Z1e rfl rfl) rfl ?_
 refine Jt (Z2 rfl) rfl ?_
 apply Ni
 repeat first | apply Nx | apply Nb
 refine Sl [0, 2, 3, 21, 22] (.cons rfl (.cons rfl (.cons rfl (.cons rfl (.cons rfl .nil))))) ?_
 repeat apply Sq
 refine Cd rfl (fun ht22 => ?_) (fun ht22 => ?_)
 ·
  try simp only [dT, dF] at ht22
  have k3 : ((ts.headD t3D).k == 3) = true := ht22
  repeat apply Sq
  apply Pn
  refine Jt (Z0 rfl) rfl ?_
  refine Jt (Z0 rfl) rfl ?_
  refine Jt (Z5 rfl) rfl ?_
  refine Jt (Z1 Zh rfl) rfl ?_
  refine Jt (Z3 Zt rfl rfl) rfl ?_
  refine Jt (Z5q ZU ZT rfl rfl (by omega) (by have := Z2c hne; omega)) rfl ?_
  refine Jt (Z5 rfl) rfl ?_
  refine Jt (Z1 Zh rfl) rfl ?_
  refine JO.m (Zg (cs' := [_]) rfl rfl (by repeat first | exact .here | apply Ut) rfl rfl rfl rfl Z3o) (by rfl) ?_
  apply Ni
  repeat first | apply Nx | apply Nb
  refine Sl [2, 3] (.cons rfl (.cons rfl .nil)) ?_
  repeat apply Sq
  apply Pn
  refine Jt (Z1 Z9p rfl) rfl ?_
  refine Jt (Z3 Zfo rfl rfl) rfl ?_
  refine Jt (Zv (cs := [_, _, _]) Z3x (.cons rfl (.cons rfl .nil)) rfl rfl) rfl ?_
  refine Jt (ZM rfl (Z2J 1 (ts.headD t3D).n em) (.one rfl .nil)) rfl ?_
  refine JO.m (Z4 rfl rfl (by repeat first | exact .here | apply Ut) (by first | exact cI rfl rfl | exact cE) (by first | exact cI rfl rfl | exact cE | exact cO) Zn) (by rfl) ?_
  apply Ni
  repeat first | apply Nx | apply Nb
  refine Sl [2] (.cons rfl .nil) ?_
  repeat apply Sq
  apply Rt
  repeat first | apply Rp | apply Rb
  refine JX.toP ?_
  exact JX.retLCs (Lr := [_, _]) (L1 := fun z : Ex × List T3 => [PB T b z.2]) (R := fun z => .rep (ExR z.1)) rfl (lit 1 (ts.headD t3D).n em, ts.tail) (by rw [Z2V hne]; rw [if_pos k3]) (List.Perm.trans (List.perm_append_comm (l₁ := [_, _]) (l₂ := [_])) (.of_eq (congrArg (fun v => Own.mk b Z2e (.is (.agg #[v])) :: [_, _]) (Tk.tail hc hts hne)))) rfl rfl hb0 rfl Zd HasOwn.mem Z1t (Sub.refl _)
 ·
  try simp only [dT, dF] at ht22
  have n3 : ¬ ((ts.headD t3D).k == 3) = true := by rw [ht22]; decide
  repeat apply Sq
  apply Pn
  refine Jt (Z1e rfl rfl) rfl ?_
  refine Jt (Z2 rfl) rfl ?_
  apply Ni
  repeat first | apply Nx | apply Nb
  refine Sl [0, 2, 3, 21, 36] (.cons rfl (.cons rfl (.cons rfl (.cons rfl (.cons rfl .nil))))) ?_
  repeat apply Sq
  refine Cd rfl (fun ht36 => ?_) (fun ht36 => ?_)
  ·
   try simp only [dT, dF] at ht36
   have k4 : ((ts.headD t3D).k == 4) = true := ht36
   repeat apply Sq
   apply Pn
   refine Jt (Z0 rfl) rfl ?_
   refine Jt (Z0 rfl) rfl ?_
   refine Jt (Z5 rfl) rfl ?_
   refine Jt (Z1 Zh rfl) rfl ?_
   refine Jt (Z3 Zt rfl rfl) rfl ?_
   refine Jt (Z5q ZU ZT rfl rfl (by omega) (by have := Z2c hne; omega)) rfl ?_
   refine Jt (Z5 rfl) rfl ?_
   refine Jt (Z1 Zh rfl) rfl ?_
   refine JO.m (Zg (cs' := [_]) rfl rfl (by repeat first | exact .here | apply Ut) rfl rfl rfl rfl Z3o) (by rfl) ?_
   apply Ni
   repeat first | apply Nx | apply Nb
   refine Sl [2, 3] (.cons rfl (.cons rfl .nil)) ?_
   repeat apply Sq
   apply Pn
   refine Jt (Z1 Z4S rfl) rfl ?_
   refine Jt (Z3 Zr rfl rfl) rfl ?_
   refine Jt (Zv (cs := [_, _, _]) Z3x (.cons rfl (.cons rfl .nil)) rfl rfl) rfl ?_
   refine Jt (ZM rfl (Z2J 3 0 (ts.headD t3D).t) (.one rfl .nil)) rfl ?_
   refine JO.m (Z4 rfl rfl (by repeat first | exact .here | apply Ut) (by first | exact cI rfl rfl | exact cE) (by first | exact cI rfl rfl | exact cE | exact cO) Zn) (by rfl) ?_
   apply Ni
   repeat first | apply Nx | apply Nb
   refine Sl [2] (.cons rfl .nil) ?_
   repeat apply Sq
   apply Rt
   repeat first | apply Rp | apply Rb
   refine JX.toP ?_
   exact JX.retLCs (Lr := [_, _]) (L1 := fun z : Ex × List T3 => [PB T b z.2]) (R := fun z => .rep (ExR z.1)) rfl (lit 3 0 (ts.headD t3D).t, ts.tail) (by rw [Z2V hne]; rw [if_neg n3, if_pos k4]) (List.Perm.trans (List.perm_append_comm (l₁ := [_, _]) (l₂ := [_])) (.of_eq (congrArg (fun v => Own.mk b Z2e (.is (.agg #[v])) :: [_, _]) (Tk.tail hc hts hne)))) rfl rfl hb0 rfl Zd HasOwn.mem Z1t (Sub.refl _)
  ·
   try simp only [dT, dF] at ht36
   have n4 : ¬ ((ts.headD t3D).k == 4) = true := by rw [ht36]; decide
   repeat apply Sq
   apply Pn
   refine Jt (Z1e rfl rfl) rfl ?_
   refine Jt (Z2 rfl) rfl ?_
   apply Ni
   repeat first | apply Nx | apply Nb
   refine Sl [0, 2, 21, 50] (.cons rfl (.cons rfl (.cons rfl (.cons rfl .nil)))) ?_
   repeat apply Sq
   refine Cd rfl (fun ht50 => ?_) (fun ht50 => ?_)
   ·
    try simp only [dT, dF] at ht50
    have k2 : ((ts.headD t3D).k == 2) = true := ht50
    repeat apply Sq
    apply Pn
    refine Jt (Z0 rfl) rfl ?_
    refine JO.callPK (Lr := [_, _]) (Zz T hc b ts hts) rfl (List.perm_append_comm (l₁ := [_, _]) (l₂ := [_])) (fun F hF => by repeat (first | (rcases Mc.1 hF with rfl | hF; · (repeat first | exact Mh | apply Mt)) | (cases hF; done))) (.one rfl .nil) (fun hbad => ?_) ?_
    · exact JX.pnI (by exact absurd hbad (by rw [Zcs hne k2]; simp))
    intro z1 hz1
    obtain rfl : z1 = ((ts.headD t3D).t, ts.tail) := by rw [Zcs hne k2] at hz1; exact (Option.some.inj hz1).symm
    try dsimp only [nA, cA]
    refine Jt (Zv (cs := [_, _, _, _, _, _, _, _]) Z4X (.cons rfl (.cons rfl .nil)) rfl rfl) rfl ?_
    refine JO.alloc ZY rfl fun b4 => ?_
    refine JO.m (Z4 rfl rfl (by repeat first | exact .here | apply Ut) (by first | exact cI rfl rfl | exact cE) (by first | exact cI rfl rfl | exact cE | exact cO) Zn) (by rfl) ?_
    apply Ni
    repeat first | apply Nx | apply Nb
    refine Sl [0, 2, 4] (.cons rfl (.cons rfl (.cons rfl .nil))) ?_
    repeat apply Sq
    apply Pn
    refine Jt (Z0 rfl) rfl ?_
    refine JO.callK (Lr := [_, _, _]) (Z9 T hc b ts.tail (Zj hts) Z7a) rfl (.swap _ _ _) (fun F hF => by repeat (first | (rcases Mc.1 hF with rfl | hF; · (repeat first | exact Mh | apply Mt)) | (cases hF; done))) (.one rfl (.one rfl .nil)) ?_
    intro _ _
    try dsimp only [nA, cA]
    apply Ni
    repeat first | apply Nx | apply Nb
    refine Sl [0, 2, 4, 56] (.cons rfl (.cons rfl (.cons rfl (.cons rfl .nil)))) ?_
    repeat apply Sq
    refine Cd rfl (fun ht56 => ?_) (fun ht56 => ?_)
    ·
     try simp only [dT, dF] at ht56
     have hdt : isT 5 Z7a ts.tail = true := ht56
     rw [ZK hdt]
     repeat apply Sq
     refine J.regBPm (Bad := nameP ts.tail.tail = none) (ch := flt) (G := { z : ByteArray × List T3 // nameP ts.tail.tail = some z }) 3 5 (fun hbad => ?_) (Tg := fun g => .is (.string g.1.1)) (Lg := fun g => [PB T b g.1.2] ++ [⟨b4, Z6, .is (.agg #[.int .i64 2, .int .i64 0, .int .i64 0, .string ⟨#[]⟩, .string ⟨#[]⟩, .string (ts.headD t3D).t, .int .i64 0, .slice none 0 0])⟩, ⟨b3, Z1Y, .is (.agg #[.int .i64 (ts.headD t3D).k, .string (ts.headD t3D).t, .int .i64 (ts.headD t3D).n])⟩, ⟨b2, Z6, .is (.agg #[.int .i64 0, .int .i64 0, .int .i64 0, .string ⟨#[]⟩, .string ⟨#[]⟩, .string ⟨#[]⟩, .int .i64 0, .slice none 0 0])⟩]) ([⟨b4, Z6, .is (.agg #[.int .i64 2, .int .i64 0, .int .i64 0, .string ⟨#[]⟩, .string ⟨#[]⟩, .string (ts.headD t3D).t, .int .i64 0, .slice none 0 0])⟩, ⟨b3, Z1Y, .is (.agg #[.int .i64 (ts.headD t3D).k, .string (ts.headD t3D).t, .int .i64 (ts.headD t3D).n])⟩, ⟨b2, Z6, .is (.agg #[.int .i64 0, .int .i64 0, .int .i64 0, .string ⟨#[]⟩, .string ⟨#[]⟩, .string ⟨#[]⟩, .int .i64 0, .slice none 0 0])⟩]) rfl rfl rfl rfl hmx (by kernel_rfl) rfl (by kernel_rfl) (fun _ h => List.mem_cons_of_mem _ h) (fun g o ho => List.mem_cons_of_mem _ ho) ?_
     · exact JX.pnI (by rw [Z2V hne]; rw [if_neg n3, if_neg n4, if_pos k2]; rw [if_pos hdt, hbad]; rfl)
     refine Rq (Z1 Z3c rfl) ?_
     refine Rq (Z3 Zr rfl rfl) ?_
     refine Rq (Z0 rfl) ?_
     refine RT.bigP (Lq := [⟨b4, Z6, .is (.agg #[.int .i64 2, .int .i64 0, .int .i64 0, .string ⟨#[]⟩, .string ⟨#[]⟩, .string (ts.headD t3D).t, .int .i64 0, .slice none 0 0])⟩, ⟨b3, Z1Y, .is (.agg #[.int .i64 (ts.headD t3D).k, .string (ts.headD t3D).t, .int .i64 (ts.headD t3D).n])⟩, ⟨b2, Z6, .is (.agg #[.int .i64 0, .int .i64 0, .int .i64 0, .string ⟨#[]⟩, .string ⟨#[]⟩, .string ⟨#[]⟩, .int .i64 0, .slice none 0 0])⟩]) (Z57 rfl (Zz T hc b ts.tail.tail (Zj (Zj hts))) (.refl _) (fun F hF => by repeat (first | (rcases Mc.1 hF with rfl | hF; · (repeat first | exact Mh | apply Mt)) | (cases hF; done))) (.one rfl .nil)) ?_
     refine Rq (Z1 Z5f rfl) ?_
     apply Rn
     intro g
     obtain ⟨z, hg2⟩ := g
     try dsimp only [nA, cA]
     refine JO.m (Zg (cs' := [_, _, _, _, _, _, _, _]) rfl rfl (by repeat first | exact .here | apply Ut) rfl rfl rfl rfl Z45) (by rfl) ?_
     refine Jt (Z1 Z3c rfl) rfl ?_
     refine JO.m (Zg (cs' := [_, _, _, _, _, _, _, _]) rfl rfl (by repeat first | exact .here | apply Ut) rfl rfl rfl rfl Z45) (by rfl) ?_
     apply Ni
     repeat first | apply Nx | apply Nb
     refine Sl [2, 4] (.cons rfl (.cons rfl .nil)) ?_
     first | (have hdt : isT 5 Z7a ts.tail = false := ht56; rw [ZO hdt]) | skip
     repeat apply Sq
     apply Pn
     refine Jt (Ob.im (ZN (cs := [_, _, _, _, _, _, _, _]) Zd rfl rfl rfl) (Sub.leaf (k := 2) (vk := 0) (vn := 0) (vs := em) (sl := 0))) rfl ?_
     refine JO.m (Z4 rfl rfl (by repeat first | exact .here | apply Ut) (by first | exact cI rfl rfl | exact cE) (by first | exact cI rfl rfl | exact cE | exact cO) Zn) (by rfl) ?_
     apply Ni
     repeat first | apply Nx | apply Nb
     refine Sl [2] (.cons rfl .nil) ?_
     repeat apply Sq
     apply Rt
     repeat first | apply Rp | apply Rb
     refine JX.toP ?_
     exact JX.retLCs (Lr := [_, _, _]) (L1 := fun z : Ex × List T3 => [PB T b z.2]) (R := fun z => .rep (ExR z.1)) rfl (.mk 2 0 0 em (ts.headD t3D).t z.1 0 [], z.2) (by rw [Z2V hne]; rw [if_neg n3, if_neg n4, if_pos k2]; rw [if_pos hdt, hg2]; rfl) (.refl _) rfl rfl hb0 rfl Zd HasOwn.mem Z1t (Sub.refl _)
    ·
     try simp only [dT, dF] at ht56
     apply Sk
     repeat first | apply Nx | apply Nb
     first | (have hdt : isT 5 Z7a ts.tail = false := ht56; rw [ZO hdt]) | skip
     repeat apply Sq
     apply Pn
     refine Jt (Ob.im (ZN (cs := [_, _, _, _, _, _, _, _]) Zd rfl rfl rfl) (Sub.leaf (k := 2) (vk := 0) (vn := 0) (vs := em) (sl := 0))) rfl ?_
     refine JO.m (Z4 rfl rfl (by repeat first | exact .here | apply Ut) (by first | exact cI rfl rfl | exact cE) (by first | exact cI rfl rfl | exact cE | exact cO) Zn) (by rfl) ?_
     apply Ni
     repeat first | apply Nx | apply Nb
     refine Sl [2] (.cons rfl .nil) ?_
     repeat apply Sq
     apply Rt
     repeat first | apply Rp | apply Rb
     refine JX.toP ?_
     exact JX.retLCs (Lr := [_, _, _]) (L1 := fun z : Ex × List T3 => [PB T b z.2]) (R := fun z => .rep (ExR z.1)) rfl (.mk 2 0 0 em em (ts.headD t3D).t 0 [], ts.tail) (by rw [Z2V hne]; rw [if_neg n3, if_neg n4, if_pos k2]; rw [if_neg (by rw [hdt]; decide)]) (.refl _) rfl rfl hb0 rfl Zd HasOwn.mem Z1t (Sub.refl _)
   ·
    try simp only [dT, dF] at ht50
    have n2 : ¬ ((ts.headD t3D).k == 2) = true := by rw [ht50]; decide
    repeat apply Sq
    apply Pn
    refine Jt (Z1e rfl rfl) rfl ?_
    refine Jt (Z2 rfl) rfl ?_
    apply Ni
    repeat first | apply Nx | apply Nb
    refine Sl [0, 2, 64] (.cons rfl (.cons rfl (.cons rfl .nil))) ?_
    repeat apply Sq
    refine Cd rfl (fun ht64 => ?_) (fun ht64 => ?_)
    ·
     try simp only [dT, dF] at ht64
     have k1 : ((ts.headD t3D).k == 1) = true := ht64
     repeat apply Sq
     apply Pn
     refine Jt (Z0 rfl) rfl ?_
     refine JO.callPK (Lr := [_, _]) (Z5E T hc b ts hts e exprDn hex) rfl (List.perm_append_comm (l₁ := [_, _]) (l₂ := [_])) (fun F hF => by repeat (first | (rcases Mc.1 hF with rfl | hF; · (repeat first | exact Mh | apply Mt)) | (cases hF; done))) (.one rfl .nil) (fun hbad => ?_) ?_
     · exact JX.pnI (by rw [Z2V hne]; rw [if_neg n3, if_neg n4, if_neg n2, if_pos k1]; exact hbad)
     intro z hz
     try dsimp only [nA, cA]
     refine JO.m (Z4 rfl rfl (by repeat first | exact .here | apply Ut) (by first | exact cI rfl rfl | exact cE) (by first | exact cI rfl rfl | exact cE | exact cO) Zn) (by rfl) ?_
     apply Ni
     repeat first | apply Nx | apply Nb
     refine Sl [2] (.cons rfl .nil) ?_
     repeat apply Sq
     apply Rt
     repeat first | apply Rp | apply Rb
     refine JX.toP ?_
     exact JX.retLCs (Lr := [_, _]) (L1 := fun z : Ex × List T3 => [PB T b z.2]) (R := fun z => .rep (ExR z.1)) rfl z (by rw [Z2V hne]; rw [if_neg n3, if_neg n4, if_neg n2, if_pos k1]; exact hz) (.refl _) rfl rfl hb0 rfl Zd HasOwn.mem Z1t (Sub.refl _)
    ·
     try simp only [dT, dF] at ht64
     apply Sk
     repeat first | apply Nx | apply Nb
     have n1 : ¬ ((ts.headD t3D).k == 1) = true := by rw [ht64]; decide
     repeat apply Sq
     apply Pn
     refine Jt (Z0 rfl) rfl ?_
     refine Jt (Z0 rfl) rfl ?_
     refine JO.callK (Lr := [_, _]) (Z9 T hc b ts hts s_lp) rfl (List.perm_append_comm (l₁ := [_, _]) (l₂ := [_])) (fun F hF => by repeat (first | (rcases Mc.1 hF with rfl | hF; · (repeat first | exact Mh | apply Mt)) | (cases hF; done))) (.one rfl (.one rfl .nil)) ?_
     intro _ _
     try dsimp only [nA, cA]
     refine JO.callPK (Lr := _) (Z8 (.pointer (some ⟨b, 0, none⟩)) (isT 5 s_lp ts)) rfl (Z19 _) ZV (.one rfl (.one rfl .nil)) (fun hbad => ?_) ?_
     · exact JX.pnI (by rw [Z2V hne]; rw [if_neg n3, if_neg n4, if_neg n2, if_neg n1]; rw [wantN hbad]; rfl)
     intro _ hlp
     try dsimp only [nA, cA]
     apply Ni
     repeat first | apply Nx | apply Nb
     refine Sl [0, 2] (.cons rfl (.cons rfl .nil)) ?_
     rw [ZK hlp]
     repeat apply Sq
     apply Pn
     refine Jt (Z0 rfl) rfl ?_
     refine JO.callPK (Lr := [_, _]) (hex ts.tail (Zj hts) (Zu hlp).2) rfl (.refl _) (fun F hF => by repeat (first | (rcases Mc.1 hF with rfl | hF; · (repeat first | exact Mh | apply Mt)) | (cases hF; done))) (.one rfl .nil) (fun hbad => ?_) ?_
     · exact JX.pnI (by rw [Z2V hne]; rw [if_neg n3, if_neg n4, if_neg n2, if_neg n1]; rw [wantY hlp]; simp only [Option.bind_some]; rw [hbad]; rfl)
     intro z hz
     try dsimp only [nA, cA]
     refine JO.alloc ZY rfl fun b5 => ?_
     refine JO.m (Z4 rfl rfl (by repeat first | exact .here | apply Ut) (by first | exact cI rfl rfl | exact cE) (by first | exact cI rfl rfl | exact cE | exact cO) Zn) (by rfl) ?_
     apply Ni
     repeat first | apply Nx | apply Nb
     refine Sl [0, 2, 5] (.cons rfl (.cons rfl (.cons rfl .nil))) ?_
     repeat apply Sq
     apply Pn
     refine Jt (Z0 rfl) rfl ?_
     refine Jt (Z0 rfl) rfl ?_
     refine JO.callK (Lr := [_, _, _]) (Z9 T hc b z.2 ((exprDn hz).trans (Zj hts)) s_rp) rfl (.swap _ _ _) (fun F hF => by repeat (first | (rcases Mc.1 hF with rfl | hF; · (repeat first | exact Mh | apply Mt)) | (cases hF; done))) (.one rfl (.one rfl .nil)) ?_
     intro _ _
     try dsimp only [nA, cA]
     refine JO.callPK (Lr := _) (Z8 (.pointer (some ⟨b, 0, none⟩)) (isT 5 s_rp z.2)) rfl (Z19 _) ZV (.one rfl (.one rfl .nil)) (fun hbad => ?_) ?_
     · exact JX.pnI (by rw [Z2V hne]; rw [if_neg n3, if_neg n4, if_neg n2, if_neg n1]; rw [wantY hlp]; simp only [Option.bind_some]; rw [hz]; simp only [Option.bind_some]; rw [wantN hbad]; rfl)
     intro _ hrp
     try dsimp only [nA, cA]
     apply Ni
     repeat first | apply Nx | apply Nb
     refine Sl [2, 5] (.cons rfl (.cons rfl .nil)) ?_
     rw [ZK hrp]
     repeat apply Sq
     apply Pn
     refine Jt (Z2F Zd rfl) rfl ?_
     refine JO.m (Z4 rfl rfl (by repeat first | exact .here | apply Ut) (by first | exact cI rfl rfl | exact cE) (by first | exact cI rfl rfl | exact cE | exact cO) Zn) (by rfl) ?_
     apply Ni
     repeat first | apply Nx | apply Nb
     refine Sl [2] (.cons rfl .nil) ?_
     repeat apply Sq
     apply Rt
     repeat first | apply Rp | apply Rb
     refine JX.toP ?_
     exact JX.retLCs (Lr := [_, _, _]) (L1 := fun z : Ex × List T3 => [PB T b z.2]) (R := fun z => .rep (ExR z.1)) rfl (z.1, z.2.tail) (by rw [Z2V hne]; rw [if_neg n3, if_neg n4, if_neg n2, if_neg n1]; rw [wantY hlp]; simp only [Option.bind_some]; rw [hz]; simp only [Option.bind_some]; rw [wantY hrp]; rfl) (.refl _) rfl rfl hb0 rfl Zd HasOwn.mem Z1t (Sub.refl _)
theorem exprDn' (N : Nat) {us : List T3} {z : Ex × List T3} (h : exprP N us = some z) : z.2 <:+ us := (Z37 N _ _ h).1
theorem Z82 (T : Tk) (hc : T.ts.length ≤ T.cap) (b : Nat) : ∀ (N : Nat) (ts : List T3), ts <:+ T.ts → ts.length < N → CallP Tryz.prog Zw [PB T b (ts)] [T.G, AF] [.is (.pointer (some ⟨b, 0, none⟩))] (exprP N (ts) = none) flt (fun z : Ex × List T3 => exprP N (ts) = some z) (fun z => [PB T b z.2]) (fun z => .rep (ExR z.1))
  | 0, ts, hts, hl => absurd hl (by omega)
  | N + 1, ts, hts, hl => by
    have he := (Z37 N).le
    have hat : ∀ us, us <:+ T.ts → us.length ≤ N → CallP Tryz.prog Z2d [PB T b (us)] [T.G, AF] [.is (.pointer (some ⟨b, 0, none⟩))] (atomP (exprP N) (us) = none) flt (fun z : Ex × List T3 => atomP (exprP N) (us) = some z) (fun z => [PB T b z.2]) (fun z => .rep (ExR z.1)) := fun us hus hu => Z6F T hc b us hus (exprP N) (exprDn' N) fun vs hvs hv => Z82 T hc b N vs hvs (by omega)
    have hfa : ∀ us, us <:+ T.ts → us.length ≤ N → CallP Tryz.prog Z1p [PB T b (us)] [T.G, AF] [.is (.pointer (some ⟨b, 0, none⟩))] (factorP (exprP N) (us) = none) flt (fun z : Ex × List T3 => factorP (exprP N) (us) = some z) (fun z => [PB T b z.2]) (fun z => .rep (ExR z.1)) := fun us hus hu => Z3K T hc b (exprP N) N hat us.length us hus hu (Nat.le_refl _)
    have hpr : ∀ us, us <:+ T.ts → us.length ≤ N → CallP Tryz.prog Z1U [PB T b (us)] [T.G, AF] [.is (.pointer (some ⟨b, 0, none⟩))] (prodP (exprP N) (us) = none) flt (fun z : Ex × List T3 => prodP (exprP N) (us) = some z) (fun z => [PB T b z.2]) (fun z => .rep (ExR z.1)) := fun us hus hu => Z5S T hc b us hus (exprP N) he fun vs hvs hv => hfa vs hvs (by omega)
    have hsu : ∀ us, us <:+ T.ts → us.length ≤ N → CallP Tryz.prog Z2n [PB T b (us)] [T.G, AF] [.is (.pointer (some ⟨b, 0, none⟩))] (sumP (exprP N) (us) = none) flt (fun z : Ex × List T3 => sumP (exprP N) (us) = some z) (fun z => [PB T b z.2]) (fun z => .rep (ExR z.1)) := fun us hus hu => Z7e T hc b us hus (exprP N) he fun vs hvs hv => hpr vs hvs (by omega)
    have hno : ∀ us, us <:+ T.ts → us.length ≤ N → CallP Tryz.prog Z1F [PB T b (us)] [T.G, AF] [.is (.pointer (some ⟨b, 0, none⟩))] (notP (exprP N) (us) = none) flt (fun z : Ex × List T3 => notP (exprP N) (us) = some z) (fun z => [PB T b z.2]) (fun z => .rep (ExR z.1)) := fun us hus hu => Z4m T hc b (exprP N) he N hsu us.length us hus hu (Nat.le_refl _)
    have han : ∀ us, us <:+ T.ts → us.length ≤ N → CallP Tryz.prog Z2o [PB T b (us)] [T.G, AF] [.is (.pointer (some ⟨b, 0, none⟩))] (andP (exprP N) (us) = none) flt (fun z : Ex × List T3 => andP (exprP N) (us) = some z) (fun z => [PB T b z.2]) (fun z => .rep (ExR z.1)) := fun us hus hu => Z77 T hc b us hus (exprP N) he fun vs hvs hv => hno vs hvs (by omega)
    exact Z6P T hc b ts hts (exprP N) he fun vs hvs hv => han vs hvs (by omega)
end Go.Proofs.YtbedigkncjbggaaGreatDoor
namespace Go.Pz
open Go Go.Vc
abbrev agv (cs : List Value) : Value := .agg cs.toArray
theorem Z9Y {x : Ex} {cs : List Value} {w : World} (h : ExR x (.agg cs.toArray) w) : ∃ k vk vn vs tb nm sl a len cap, cs = exCells k vk vn vs tb nm sl a len cap := by
 obtain ⟨k, vk, vn, vs, tb, nm, sl, a, len, cap, e⟩ := Z4Q h
 exact ⟨k, vk, vn, vs, tb, nm, sl, a, len, cap, Z2D e⟩
theorem Z7W {x : Ex} {cs : List Value} {w : World} (h : ExR x (.agg cs.toArray) w) : cs.length = 8 := by
 obtain ⟨k, vk, vn, vs, tb, nm, sl, a, len, cap, rfl⟩ := Z9Y h; rfl
theorem Z95 {x : Ex} {cs : List Value} {w : World} (h : ExR x (.agg cs.toArray) w) : ∀ u ∈ cs, u.oneCell' = true := by
 obtain ⟨k, vk, vn, vs, tb, nm, sl, a, len, cap, rfl⟩ := Z9Y h
 intro u hu
 simp only [exCells, List.mem_cons, List.mem_nil_iff, or_false] at hu
 rcases hu with rfl | rfl | rfl | rfl | rfl | rfl | rfl | rfl <;> rfl
def exE : Enc Ex where
  sz := 8
  R x cs w := ExR x (.agg cs.toArray) w
  v := agv
  pos := by decide
  len := Z7W
  one := Z95
  nu h := by
    obtain ⟨k, n, h0⟩ := Z46 h
    exact ⟨_, h0, by simp [undef]⟩
  inj _ _ h := Z2D h
def itE : Enc Itm where
  sz := 9
  R x cs w := ∃ es, cs = .bool x.all :: es ∧ ExR x.ex (.agg es.toArray) w
  v := agv
  pos := by decide
  len := by rintro x cs w ⟨es, rfl, h⟩; simp [Z7W h]
  one := by
    rintro x cs w ⟨es, rfl, h⟩ u hu
    rcases List.mem_cons.1 hu with rfl | hu
    · rfl
    · exact Z95 h u hu
  nu := by rintro x cs w ⟨es, rfl, h⟩; exact ⟨_, rfl, by simp [undef]⟩
  inj _ _ h := Z2D h
def kyE : Enc Ky where
  sz := 9
  R x cs w := ∃ es, cs = es ++ [.bool x.desc] ∧ ExR x.ex (.agg es.toArray) w
  v := agv
  pos := by decide
  len := by rintro x cs w ⟨es, rfl, h⟩; simp [Z7W h]
  one := by
    rintro x cs w ⟨es, rfl, h⟩ u hu
    rcases List.mem_append.1 hu with hu | hu
    · exact Z95 h u hu
    · rw [List.mem_singleton.1 hu]; rfl
  nu := by
    rintro x cs w ⟨es, rfl, h⟩
    obtain ⟨k, n, h0⟩ := Z46 h
    exact ⟨_, by rw [List.getElem?_append_left (by rw [Z7W h]; decide)]; exact h0, by simp [undef]⟩
  inj _ _ h := Z2D h
def Col.cells (c : Col) : List Value := [.string c.nm, .int .i64 c.ty, .bool c.nn, .bool c.un]
def coE : Enc Col where
  sz := 4
  R x cs _ := cs = x.cells
  v := agv
  pos := by decide
  len := by rintro x cs w rfl; rfl
  one := by
    rintro x cs w rfl u hu
    simp only [Col.cells, List.mem_cons, List.mem_nil_iff, or_false] at hu
    rcases hu with rfl | rfl | rfl | rfl <;> rfl
  nu := by rintro x cs w rfl; exact ⟨_, rfl, by simp [undef]⟩
  inj _ _ h := Z2D h
abbrev hdv (cs : List Value) : Value := cs.headD undef
theorem Z85 {cs cs' : List Value} (h : cs.length = 1) (h' : cs'.length = 1) (e : hdv cs = hdv cs') : cs = cs' := by
  match cs, cs', h, h' with
  | [a], [b], _, _ => simpa [hdv] using e
def stE : Enc ByteArray where
  sz := 1
  R x cs _ := cs = [.string x]
  v := hdv
  pos := by decide
  len := by rintro x cs w rfl; rfl
  one := by rintro x cs w rfl u hu; rw [List.mem_singleton.1 hu]; rfl
  nu := by rintro x cs w rfl; exact ⟨_, rfl, by simp [undef]⟩
  inj := Z85
def pnE : Enc (ByteArray × Ex) where
  sz := 1
  R x cs _ := cs = [.string x.1]
  v := hdv
  pos := by decide
  len := by rintro x cs w rfl; rfl
  one := by rintro x cs w rfl u hu; rw [List.mem_singleton.1 hu]; rfl
  nu := by rintro x cs w rfl; exact ⟨_, rfl, by simp [undef]⟩
  inj := Z85
theorem Z8d {xs : List Ex} {v : Value} {w : World} (h : ExsR xs v w) : ∃ a len cap, v = .slice a len cap := by
 obtain ⟨a, len, cap, e, _⟩ := h; exact ⟨a, len, cap, e⟩
def rwE : Enc (List Ex) where
  sz := 1
  R x cs w := ∃ v, cs = [v] ∧ ExsR x v w
  v := hdv
  pos := by decide
  len := by rintro x cs w ⟨v, rfl, h⟩; rfl
  one := by
    rintro x cs w ⟨v, rfl, h⟩ u hu
    obtain ⟨a, len, cap, rfl⟩ := Z8d h
    rw [List.mem_singleton.1 hu]; rfl
  nu := by
    rintro x cs w ⟨v, rfl, h⟩
    obtain ⟨a, len, cap, rfl⟩ := Z8d h
    exact ⟨_, rfl, by simp [undef]⟩
  inj := Z85
def srE : Enc Src where
  sz := 3
  R x cs w := ∃ v, cs = [.string x.tb, .string x.nm, v] ∧ ExsR x.on v w
  v := agv
  pos := by decide
  len := by rintro x cs w ⟨v, rfl, h⟩; rfl
  one := by
    rintro x cs w ⟨v, rfl, h⟩ u hu
    obtain ⟨a, len, cap, rfl⟩ := Z8d h
    simp only [List.mem_cons, List.mem_nil_iff, or_false] at hu
    rcases hu with rfl | rfl | rfl <;> rfl
  nu := by rintro x cs w ⟨v, rfl, h⟩; exact ⟨_, rfl, by simp [undef]⟩
  inj _ _ h := Z2D h
theorem Cel.kids {ps : List (Cel exE)} {a : Option Addr} {len : Nat} {w : World} (h : RowG Cel.cs 8 ps a len w) (hF : CelF exE ps w) : KidsR (ps.map Cel.x) a len w := by
  obtain ⟨hl, hk⟩ := h
  refine ⟨by simp [hl], fun hn => ?_⟩
  obtain ⟨b, o, ha, hr⟩ := hk hn
  refine ⟨b, o, ha, Z6b (ps.map Cel.x) (ps.map Cel.cs) b o w (by simp) (fun i x cs hx hc => ?_) fun j v hj => ?_⟩
  · rw [List.getElem?_map] at hx hc
    cases hp : ps[i]? with
    | none => rw [hp] at hx; cases hx
    | some p =>
      rw [hp] at hx hc
      injection hx with hx
      injection hc with hc
      subst hx hc
      exact ⟨p.h, hF p (List.mem_of_getElem? hp)⟩
  · rw [← List.flatMap_def] at hj
    obtain ⟨x, hx, hu⟩ := Z9w (enc := Cel.cs) (sz := 8) (fun x : Cel exE => x.h) (by omega) hj
    have := hr _ x hx _ v hu
    rwa [show o + 8 * (j / 8) + j % 8 = o + j by rw [Nat.add_assoc, Nat.div_add_mod]] at this
theorem SlE.exs {G : GoS} {xs : List Ex} {v : Value} {w : World} (h : SlE exE G xs v w) : ExsR xs v w := by
 obtain ⟨ps, a, len, cap, rfl, rfl, _, h4, h5, _⟩ := h
 exact ⟨a, len, cap, rfl, Cel.kids h4 h5⟩
theorem ZhP (x : Ex) (v : Value) (w : World) : exE.T x v w ↔ ExR x v w := by
  constructor
  · rintro ⟨cs, rfl, h⟩; exact h
  · intro h
    obtain ⟨k, vk, vn, vs, tb, nm, sl, a, len, cap, e⟩ := Z4Q h
    exact ⟨_, e, by show ExR x (Value.agg (exCells k vk vn vs tb nm sl a len cap).toArray) w; rw [← e]; exact h⟩
theorem Z8f (x : Ex) : Ty.rep (ExR x) = Ty.rep (exE.T x) := by
 congr 1; funext v w; exact propext (ZhP x v w).symm
end Go.Pz
namespace Go.Pz
open Go Go.Vc
theorem Zff : Dn typeP := fun ts z h => by
 unfold typeP at h
 split at h
 · rename_i hi; injection h with h; subst h; exact Zu hi
 split at h
 · rename_i hi; injection h with h; subst h; exact Zu hi
 split at h
 · rename_i hi; injection h with h; subst h; exact Zu hi
 · cases h
theorem Za5 (n : ByteArray) (t : Int) (nn : Bool) : Dn0 (colEnd n t nn) := fun ts z h => by
  unfold colEnd at h
  split at h
  · rename_i hi
    obtain ⟨v, h7, rfl⟩ := mpd h
    exact (Zi _ _ _ _ h7).1.trans (Zu hi).1
  · injection h with h; subst h; exact Z3Q _ _ _
theorem Zcd : Dn colP := fun ts z h => by
  obtain ⟨n, h1, h2⟩ := bnd h
  obtain ⟨t, h3, h4⟩ := bnd h2
  have h5 : Lt t.2 ts := Lt.trans (Zff _ _ h3) (ZG _ _ h1).1
  split at h4
  · rename_i hi
    obtain ⟨v, h6, h7⟩ := bnd h4
    exact Lt.trans' ((Za5 _ _ _ _ _ h7).trans ((Zi _ _ _ _ h6).1.trans (Zu hi).1)) h5
  · exact Lt.trans' (Za5 _ _ _ _ _ h4) h5
theorem Z8H {α : Type} {part : Ps α} (hp : Dn0 part) : ∀ n, Dn0 (listG part n)
  | 0, ts, z, h => by rw [listG] at h; injection h with h; subst h; exact List.suffix_refl ts
  | n + 1, ts, z, h => by
    rw [listG] at h
    split at h
    · rename_i hi
      obtain ⟨w, h1, h2⟩ := bnd h
      obtain ⟨y, h3, rfl⟩ := mpd h2
      exact (Z8H hp n _ _ h3).trans ((hp _ _ h1).trans (Zu hi).1)
    · injection h with h; subst h; exact List.suffix_refl ts
theorem Z24 {α : Type} {part : Ps α} (hp : Dn0 part) (most : Nat) : Dn0 (listP most part) := fun ts z h => by
 obtain ⟨w, h1, h2⟩ := bnd h
 obtain ⟨y, h3, h4⟩ := bnd h2
 split at h4
 · injection h4 with h4; subst h4; exact (show y.2 <:+ w.2 from Z8H hp _ _ _ h3).trans (hp _ _ h1)
 · cases h4
theorem Z5M {α : Type} {part : Ps α} (hp : Dn part) (most : Nat) : Dn (listP most part) := fun ts z h => by
 obtain ⟨w, h1, h2⟩ := bnd h
 obtain ⟨y, h3, h4⟩ := bnd h2
 split at h4
 · injection h4 with h4; subst h4; exact Lt.trans' (show y.2 <:+ w.2 from Z8H hp.le _ _ _ h3) (hp _ _ h1)
 · cases h4
theorem Z2K {α : Type} {part : Ps α} (hp : Dn0 part) : Dn (withinP part) := fun ts z h => by
 obtain ⟨a, h1, h2⟩ := bnd h
 obtain ⟨l, h3, h4⟩ := bnd h2
 obtain ⟨v, h5, rfl⟩ := mpd h4
 exact Lt.trans (Zi _ _ _ _ h5) ((Z24 hp 16 _ _ h3).trans (Zi _ _ _ _ h1).1)
theorem Z5D {e : Ps Ex} (he : Dn e) : Dn (itemP e) := fun ts z h => by
 unfold itemP at h
 split at h
 · rename_i hi; injection h with h; subst h; exact Zu hi
 · obtain ⟨v, h5, rfl⟩ := mpd h; exact he _ _ h5
theorem Z5r {e : Ps Ex} (he : Dn e) : Dn (keyP e) := fun ts z h => by
 obtain ⟨v, h5, h6⟩ := mpd h
 have h7 := he _ _ h5
 split at h6
 · rename_i hi; subst h6; exact Lt.trans (Zu hi) h7.1
 · subst h6; exact Lt.trans' (Z3Q _ _ _) h7
theorem Z6C {e : Ps Ex} (he : Dn e) : Dn (setP e) := fun ts z h => by
 obtain ⟨a, h1, h2⟩ := bnd h
 obtain ⟨l, h3, h4⟩ := bnd h2
 obtain ⟨v, h5, rfl⟩ := mpd h4
 exact Lt.trans (he _ _ h5) ((Zi _ _ _ _ h3).1.trans (ZG _ _ h1).1)
theorem Z3F : Dn sourceP := fun ts z h => by
  obtain ⟨a, h1, h2⟩ := bnd h
  have h3 := ZG _ _ h1
  split at h2
  · rename_i hi
    obtain ⟨v, h5, rfl⟩ := mpd h2
    exact Lt.trans (ZG _ _ h5) ((Zu hi).1.trans h3.1)
  split at h2
  · obtain ⟨v, h5, rfl⟩ := mpd h2
    exact Lt.trans (ZG _ _ h5) h3.1
  · injection h2 with h2; subst h2; exact h3
theorem Z5L {e : Ps Ex} (he : Dn e) : Dn (joinP e) := fun ts z h => by
 obtain ⟨a, h1, h2⟩ := bnd h
 obtain ⟨s, h3, h4⟩ := bnd h2
 obtain ⟨b, h5, h6⟩ := bnd h4
 obtain ⟨v, h7, rfl⟩ := mpd h6
 exact Lt.trans (he _ _ h7) ((Zi _ _ _ _ h5).1.trans ((Z3F _ _ h3).1.trans (Zi _ _ _ _ h1).1))
def Stop (q : List T3) : Prop := ∀ k s, (k == 5 && (sq s Z4y || sq s s_rp)) = false → isT k s q = false
def Stab {α : Type} (q : List T3) (p p' : Ps α) : Prop := ∀ l z, p l = some z → p' (l ++ q) = some (z.1, z.2 ++ q)
section
variable {q : List T3} (hq : Stop q)
theorem Zbb {k : Int} {s : ByteArray} {l : List T3} (h : isT k s l = true) : l ≠ [] := by
 obtain ⟨t, r, rfl, _⟩ := Z7f h; simp
def opsOK (k : Int) (ops : List (ByteArray × Int)) : Bool := ops.all fun o => !(k == 5 && (sq o.1 Z4y || sq o.1 s_rp))
section
variable {e e' : Ps Ex} (he : Stab q e e')
include he
end
section
variable {e e' : Ps Ex} (he : Stab q e e') (hd : Dn e)
include he
end
end
end Go.Pz
namespace Go.Pz
open Go Go.Vc
theorem Z7i {α : Type} {part : Ps α} (hp : Dn0 part) : ∀ (n m : Nat) (ts : List T3), ts.length ≤ n → ts.length ≤ m → listG part n ts = listG part m ts
  | 0, m, ts, h, _ => by
    have : ts = [] := List.length_eq_zero_iff.1 (by omega)
    subst this
    cases m with
    | zero => rfl
    | succ m => rw [listG, listG, if_neg (by exact Bool.false_ne_true)]
  | n + 1, 0, ts, _, h => by
    have : ts = [] := List.length_eq_zero_iff.1 (by omega)
    subst this
    rw [listG, listG, if_neg (by exact Bool.false_ne_true)]
  | n + 1, m + 1, ts, h, h' => by
    rw [listG, listG]
    split
    · rename_i hi
      have h1 := (Zu hi).2
      exact Z1P fun y hy => by
        have h2 := (hp _ _ hy).length_le
        rw [Z7i hp n m y.2 (by omega) (by omega)]
    · rfl
def listC {α : Type} (part : Ps α) : Ps (List α) := fun ts => listG part ts.length ts
theorem Zfc {α : Type} {part : Ps α} {ts : List T3} (h : isT 5 Z12 ts = false) : listC part ts = some ([], ts) := by
 unfold listC
 cases ts.length with
 | zero => rfl
 | succ n => rw [listG, if_neg (by rw [h]; decide)]
theorem ZeF {α : Type} {part : Ps α} (hp : Dn0 part) {ts : List T3} (h : isT 5 Z12 ts = true) : listC part ts = (part ts.tail).bind fun z => (listC part z.2).map fun y => (z.1 :: y.1, y.2) := by
  have h1 := (Zu h).2
  unfold listC
  rw [Z7i hp _ (ts.length + 1) ts (by omega) (by omega), listG, if_pos h]
  exact Z1P fun y hy => by
    have h2 := (hp _ _ hy).length_le
    rw [Z7i hp _ y.2.length y.2 (by omega) (by omega)]
def listI {α : Type} (most : Nat) (part : Ps α) (xs : List α) : Ps (List α) := fun us => (listC part us).bind fun y => if xs.length + y.1.length ≤ most then some (xs ++ y.1, y.2) else none
theorem Z1D {α : Type} (most : Nat) (part : Ps α) (ts : List T3) : listP most part ts = (part ts).bind fun z => listI most part [z.1] z.2 := by
 unfold listP listI
 refine Z1P fun z _ => Z1P fun y _ => ?_
 simp only [List.length_singleton, List.singleton_append]
 rw [Nat.add_comm]
theorem Z3Z {α : Type} {most : Nat} {part : Ps α} {xs : List α} {us : List T3} (h : isT 5 Z12 us = false) : listI most part xs us = if xs.length ≤ most then some (xs, us) else none := by
 unfold listI
 rw [Zfc h]
 simp
theorem Z21 {α : Type} {most : Nat} {part : Ps α} (hp : Dn0 part) {xs : List α} {us : List T3} (h : isT 5 Z12 us = true) : listI most part xs us = (part us.tail).bind fun z => listI most part (xs ++ [z.1]) z.2 := by
  unfold listI
  rw [ZeF hp h, bas]
  refine Z1P fun z _ => ?_
  cases listC part z.2 with
  | none => rfl
  | some y =>
    simp only [Option.map_some, Option.bind_some, List.length_cons, List.length_append, List.length_nil, List.append_assoc, List.singleton_append]
    congr 1
    simp only [eq_iff_iff]; omega
theorem Z3I {α : Type} {most : Nat} {part : Ps α} {xs : List α} {us : List T3} (h : isT 5 Z12 us = false) (hm : ¬ xs.length ≤ most) : listI most part xs us = none := by rw [Z3Z h, if_neg hm]
end Go.Pz
set_option maxRecDepth 20000
namespace Go.Proofs.YtbedigkncjbggaaGreatDoor
open Go Go.Vc Go.Pz
theorem Zev {v : Value} (h : v.oneCell' = true) : v.cells = #[v] := by
 cases v <;> first | rfl | cases h
theorem Z8P {cs : List Value} (h : cs.length = 1) (ho : ∀ u ∈ cs, u.oneCell' = true) : (hdv cs).cells = cs.toArray := by
  match cs, h with
  | [a], _ => exact Zev (ho a List.mem_cons_self)
theorem Z40 : exE.flat := fun p => rfl
theorem Zfp : itE.flat := fun p => rfl
theorem Zbq : kyE.flat := fun p => rfl
theorem Zfs : coE.flat := fun p => rfl
theorem Zay : srE.flat := fun p => rfl
theorem Zbc : stE.flat := fun p => Z8P p.h p.o
theorem ZaD : rwE.flat := fun p => Z8P p.h p.o
abbrev FC (N : Nat) : GoS := FrS N ZQ 4
abbrev FN (N : Nat) : GoS := FrS N Z1g 1
abbrev FX (N : Nat) : GoS := FrS N Z6 8
abbrev stV (st : St) (vc vn vr vi vf vw vg vo vs : Value) : Value := .agg #[.int .i64 st.kind, .string st.tb, .string st.nm, vc, vn, vr, vi, vf, vw, vg, vo, .int .i64 st.limit, vs, .bool st.hash]
def StR (N : Nat) (st : St) (v : Value) (w : World) : Prop := ∃ vc vn vr vi vf vw vg vo vs : Value, v = stV st vc vn vr vi vf vw vg vo vs ∧ SlE coE (FC N) st.cols vc w ∧ SlE stE (FN N) st.names vn w ∧ SlE rwE noS st.rows vr w ∧ SlE itE noS st.items vi w ∧ SlE srE noS st.from_ vf w ∧ SlE exE (FX N) st.where_ vw w ∧ ExsR st.group vg w ∧ SlE kyE noS st.order vo w ∧ ExsR st.sets vs w
abbrev nilv : Value := .slice none 0 0
theorem Za {α : Type} {E : Enc α} {G : GoS} {w : World} (hG : G none 0 0 w) : SlE E G [] nilv w := ⟨[], none, 0, 0, rfl, rfl, Nat.le_refl _, ⟨rfl, fun h => absurd rfl h⟩, (fun p hp => by cases hp), hG⟩
theorem Z11 {w : World} : ExsR [] nilv w := ⟨none, 0, 0, rfl, rfl, fun h => absurd rfl h⟩
theorem Sub.st {L : List Own} {Φ : List (World → Prop)} {N : Nat} {st : St} {cs : Array Value} {vc vn vr vi vf vw vg vo vs : Value} (hc : Value.agg cs = stV st vc vn vr vi vf vw vg vo vs)
    (h : ∀ X w, (∀ F ∈ Φ, Pers X w F) → ∀ w', Keeps X w w' → SlE coE (FC N) st.cols vc w' ∧ SlE stE (FN N) st.names vn w' ∧ SlE rwE noS st.rows vr w' ∧ SlE itE noS st.items vi w' ∧ SlE srE noS st.from_ vf w' ∧ SlE exE (FX N) st.where_ vw w' ∧ ExsR st.group vg w' ∧ SlE kyE noS st.order vo w' ∧ ExsR st.sets vs w') :
    Sub L Φ (.is (.agg cs)) (.rep (StR N st)) := fun X v w hf e => by
  rw [show v = _ from e, hc]
  intro w' hk
  exact ⟨vc, vn, vr, vi, vf, vw, vg, vo, vs, rfl, h X w hf.2 w' hk⟩
theorem Zej {N : Nat} {st : St} {X : Nat → Prop} {v : Value} {w : World} (h : Pers X w (StR N st v)) : ∃ vc vn vr vi vf vw vg vo vs : Value, v = stV st vc vn vr vi vf vw vg vo vs ∧ Pers X w (SlE coE (FC N) st.cols vc) ∧ Pers X w (SlE stE (FN N) st.names vn) ∧ Pers X w (SlE rwE noS st.rows vr) ∧ Pers X w (SlE itE noS st.items vi) ∧ Pers X w (SlE srE noS st.from_ vf) ∧ Pers X w (SlE exE (FX N) st.where_ vw) ∧ Pers X w (ExsR st.group vg) ∧ Pers X w (SlE kyE noS st.order vo) ∧ Pers X w (ExsR st.sets vs) := by
  obtain ⟨vc, vn, vr, vi, vf, vw, vg, vo, vs, hv, _⟩ := h.now
  have key : ∀ w', Keeps X w w' → SlE coE (FC N) st.cols vc w' ∧ SlE stE (FN N) st.names vn w' ∧ SlE rwE noS st.rows vr w' ∧ SlE itE noS st.items vi w' ∧ SlE srE noS st.from_ vf w' ∧ SlE exE (FX N) st.where_ vw w' ∧ ExsR st.group vg w' ∧ SlE kyE noS st.order vo w' ∧ ExsR st.sets vs w' := fun w' hk => by
    obtain ⟨vc', vn', vr', vi', vf', vw', vg', vo', vs', hv', h1⟩ := h w' hk
    rw [hv] at hv'
    injection hv' with hv'
    injection hv' with hv'
    simp only [List.cons.injEq, and_true, true_and] at hv'
    obtain ⟨e1, e2, e3, e4, e5, e6, e7, e8, e9⟩ := hv'
    subst e1 e2 e3 e4 e5 e6 e7 e8 e9
    exact h1
  exact ⟨vc, vn, vr, vi, vf, vw, vg, vo, vs, hv, fun w' hk => (key w' hk).1, fun w' hk => (key w' hk).2.1, fun w' hk => (key w' hk).2.2.1, fun w' hk => (key w' hk).2.2.2.1, fun w' hk => (key w' hk).2.2.2.2.1, fun w' hk => (key w' hk).2.2.2.2.2.1, fun w' hk => (key w' hk).2.2.2.2.2.2.1, fun w' hk => (key w' hk).2.2.2.2.2.2.2.1, fun w' hk => (key w' hk).2.2.2.2.2.2.2.2⟩
section
variable {P : Program} {c : Ctx} {K : List (Nat × Ty)} {L : List Own} {Φ : List (World → Prop)} {Q : Exit → Act → World → Prop}
theorem SA.openSt {N s : Nat} {st : St} {X : Nat → Prop} {a : Act} {w : World} (h : Go.Vc.look K s = some (.rep (StR N st))) (hs : SA c K L Φ X a w) : ∃ vc vn vr vi vf vw vg vo vs : Value, SA c ((s, .is (stV st vc vn vr vi vf vw vg vo vs)) :: K) L (SlE coE (FC N) st.cols vc :: SlE stE (FN N) st.names vn :: SlE rwE noS st.rows vr :: SlE itE noS st.items vi :: SlE srE noS st.from_ vf :: SlE exE (FX N) st.where_ vw :: ExsR st.group vg :: SlE kyE noS st.order vo :: ExsR st.sets vs :: Φ) X a w := by
 obtain ⟨vc, vn, vr, vi, vf, vw, vg, vo, vs, hv, h1, h2, h3, h4, h5, h6, h7, h8, h9⟩ := Zej (hs.k s _ h : Pers X w (StR N st (a.tmps.getD s undef)))
 refine ⟨vc, vn, vr, vi, vf, vw, vg, vo, vs, hs.tell hv [_, _, _, _, _, _, _, _, _] fun F hF => ?_⟩
 simp only [List.mem_cons, List.mem_nil_iff, or_false] at hF
 rcases hF with rfl | rfl | rfl | rfl | rfl | rfl | rfl | rfl | rfl <;> assumption
theorem J.openSt {N s : Nat} {st : St} {y : Code} (h : Go.Vc.look K s = some (.rep (StR N st)))
  (hj : ∀ vc vn vr vi vf vw vg vo vs : Value, J P c ((s, .is (stV st vc vn vr vi vf vw vg vo vs)) :: K) L (SlE coE (FC N) st.cols vc :: SlE stE (FN N) st.names vn :: SlE rwE noS st.rows vr :: SlE itE noS st.items vi :: SlE srE noS st.from_ vf :: SlE exE (FX N) st.where_ vw :: ExsR st.group vg :: SlE kyE noS st.order vo :: ExsR st.sets vs :: Φ) y Q) : J P c K L Φ y Q := by
 refine ⟨fun X a w hs => ?_⟩
 obtain ⟨vc, vn, vr, vi, vf, vw, vg, vo, vs, h1⟩ := SA.openSt h hs
 exact (hj vc vn vr vi vf vw vg vo vs).out X a w h1
end
end Go.Proofs.YtbedigkncjbggaaGreatDoor
