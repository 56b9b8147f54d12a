/- The parser: parts with signs between them. No condition. -/
import Derived.Test.YtbedigkncjbggaaGreatDoorXQ2
import Derived.Test.YtbedigkncjbggaaGreatDoorXG7
set_option maxRecDepth 20000
namespace Go.Proofs.YtbedigkncjbggaaGreatDoor
open Go Go.Vc
open Go.Pz
abbrev fv (f : FuncId) : Value := .func (.func f) #[] #[]
theorem Z3Z {k : Int} {ops : List (ByteArray × Int)} {i : Nat} (h : i < ops.length) (ts : List T3) : opOf k (ops.drop i) ts = if isT k (ops.getD i (em, 0)).1 ts then some (ops.getD i (em, 0)).2 else opOf k (ops.drop (i + 1)) ts := by
 rw [List.drop_eq_getElem_cons h, List.getD_eq_getElem?_getD, List.getElem?_eq_getElem h]
 rfl
theorem Zid {ops : List (ByteArray × Int)} {i : Nat} (h : i < ops.length) : (ops.map (·.1))[i]? = some (ops.getD i (em, 0)).1 := by
 rw [List.getElem?_map, List.getD_eq_getElem?_getD, List.getElem?_eq_getElem h]; rfl
theorem Zi4 {ops : List (ByteArray × Int)} {i : Nat} (h : i < ops.length) : (ops.map (·.2))[i]? = some (ops.getD i (em, 0)).2 := by
 rw [List.getElem?_map, List.getD_eq_getElem?_getD, List.getElem?_eq_getElem h]; rfl
def chI (p : Ps Ex) (kd : Int) (ops : List (ByteArray × Int)) (ts : List T3) (s : Bool × Ex × List T3) : Prop := if s.1 = true then chainP p kd ops ts = chainC p kd ops s.2.1 s.2.2 else chainP p kd ops ts = some (s.2.1, s.2.2)
theorem Z1T (T : Tk) (hc : T.ts.length ≤ T.cap) (b : Nat) (ts : List T3) (hts : ts <:+ T.ts) (p : Ps Ex) (hpd : Dn p) (kd : Int) (ops : List (ByteArray × Int)) (h63 : ops.length ≤ 9223372036854775806) (fp : FuncId) (hpart : ∀ us, us <:+ T.ts → us.length ≤ ts.length → CallP Tryz.prog fp [PB T b (us)] [T.G, AF] [.is (.pointer (some ⟨b, 0, none⟩))] (p (us) = none) flt (fun z : Ex × List T3 => p (us) = some z) (fun z => [PB T b z.2]) (fun z => .rep (ExR z.1))) : CallP Tryz.prog Z6p [PB T b ts] [T.G, AF] [.is (.pointer (some ⟨b, 0, none⟩)), .is (fv fp), .is (.int .i64 kd), .rep (SlG sC 1 (ops.map (·.1))), .rep (SlG iC 1 (ops.map (·.2)))] (chainP p kd ops ts = none) flt (fun z : Ex × List T3 => chainP p kd ops ts = some z) (fun z => [PB T b z.2]) (fun z => .rep (ExR z.1)) :=
CallP.of (fn := Tryz.f145) Tryz.func145 (n := 42) rfl rfl rfl (fun _ _ => by kernel_rfl) fun E W hb0 => by
 refine J.openSl (s := 3) rfl (fun a3 l3 c3 b3 o3 hl3 ha3 => ?_)
 refine J.openSl (s := 4) rfl (fun a4 l4 c4 b4 o4 hl4 ha4 => ?_)
 rw [List.length_map] at hl3 hl4
 subst hl3 hl4
 repeat apply Sq
 apply Pn
 refine JO.alloc ZZ rfl fun b10 => ?_
 apply Ni
 repeat first | apply Nx | apply Nb
 refine Sl [0, 1, 2, 3, 4, 10] (.cons rfl (.cons rfl (.cons rfl (.cons rfl (.cons rfl (.cons rfl .nil)))))) ?_
 repeat apply Sq
 apply Pn
 refine Jt (Z0 rfl) rfl ?_
 refine Jt (Z0 rfl) rfl ?_
 refine JO.callPvK (cp := []) (Lr := [_]) rfl (hpart ts hts (Nat.le_refl _)) rfl (.swap _ _ _) (fun F hF => by repeat (first | (rcases Mc.1 hF with rfl | hF; · (repeat first | exact Mh | apply Mt)) | (cases hF; done))) (.one rfl .nil) (fun hbad => ?_) ?_
 · exact JX.pnI (by unfold chainP; rw [hbad]; rfl)
 intro z1 hz1
 try dsimp only [nA, cA]
 refine JO.alloc ZZ rfl fun b11 => ?_
 refine JO.m (Z3 rfl rfl (by repeat first | exact .here | apply Ut) (by first | exact cI rfl rfl | exact cE) (by first | exact cI rfl rfl | exact cE | exact cO) Zn) (by rfl) ?_
 apply Ni
 repeat first | apply Nx | apply Nb
 refine Sl [0, 1, 2, 3, 4, 10, 11] (.cons rfl (.cons rfl (.cons rfl (.cons rfl (.cons rfl (.cons rfl (.cons rfl .nil))))))) ?_
 repeat apply Sq
 apply Pn
 refine Jt (Z2 rfl) rfl ?_
 apply Ni
 repeat first | apply Nx | apply Nb
 refine Sl [0, 1, 2, 3, 4, 10, 11, 12] (.cons rfl (.cons rfl (.cons rfl (.cons rfl (.cons rfl (.cons rfl (.cons rfl (.cons rfl .nil)))))))) ?_
 repeat apply Sq
 apply Bk
 repeat apply Sq
 refine J.loopG (α := Bool × Ex × List T3) (fun s => [(0, .is (.pointer (some ⟨b, 0, none⟩))), (1, .is (fv fp)), (2, .is (.int .i64 kd)), (3, .is (.slice a3 ops.length c3)), (4, .is (.slice a4 ops.length c4)), (10, .is (.pointer (some ⟨b10, 0, none⟩))), (11, .is (.pointer (some ⟨b11, 0, none⟩))), (12, .is (.bool s.1))]) (fun s => [⟨b11, Z6, .rep (ExR s.2.1)⟩, PB T b s.2.2, ⟨b10, Z6, .is (.agg #[.int .i64 0, .int .i64 0, .int .i64 0, .string ⟨#[]⟩, .string ⟨#[]⟩, .string ⟨#[]⟩, .int .i64 0, .slice none 0 0])⟩]) (fun s => fun _ => True) (fun s => s.2.2 <:+ T.ts ∧ s.2.2.length ≤ ts.length ∧ chI p kd ops ts s) (fun s => 2 * s.2.2.length + s.1.toNat) (true, z1.1, z1.2) [0, 1, 2, 3, 4, 10, 11, 12] (.cons rfl (.cons rfl (.cons rfl (.cons rfl (.cons rfl (.cons rfl (.cons rfl (.cons rfl .nil)))))))) rfl (fun _ => trivial) ⟨((hpd _ _ hz1).1.trans hts), (hpd _ _ hz1).1.length_le, by unfold chI; rw [if_pos rfl]; unfold chainP; rw [hz1]; rfl⟩ fun ⟨mo, x, us⟩ ⟨hus, hul, hI⟩ => ?_
 try dsimp only
 try dsimp only at x
 try dsimp only at us
 try dsimp only at hus
 try dsimp only at hul
 try dsimp only at hI
 repeat apply Sq
 apply Pn
 refine Jt (Z0 rfl) rfl ?_
 apply Ni
 repeat first | apply Nx | apply Nb
 refine Sl [0, 1, 2, 3, 4, 10, 11, 18] (.cons rfl (.cons rfl (.cons rfl (.cons rfl (.cons rfl (.cons rfl (.cons rfl (.cons rfl .nil)))))))) ?_
 repeat apply Sq
 refine Cd rfl (fun ht18 => ?_) (fun ht18 => ?_)
 ·
  try simp only [dT, dF] at ht18
  apply Sk
  repeat first | apply Nx | apply Nb
  repeat apply Sq
  apply Bk
  obtain rfl : mo = true := ht18
  rw [chI, if_pos rfl] at hI
  repeat apply Sq
  apply Pn
  refine Jt (Z2 rfl) rfl ?_
  apply Ni
  repeat first | apply Nx | apply Nb
  refine Sl [0, 1, 2, 3, 4, 10, 11, 12] (.cons rfl (.cons rfl (.cons rfl (.cons rfl (.cons rfl (.cons rfl (.cons rfl (.cons rfl .nil)))))))) ?_
  repeat apply Sq
  apply Pn
  refine Jt (Z0 rfl) rfl ?_
  refine Jt (ZG Z2E rfl) rfl ?_
  refine Jt (Z0 rfl) rfl ?_
  apply Ni
  repeat first | apply Nx | apply Nb
  refine Sl [0, 1, 2, 3, 4, 10, 11, 12, 19, 20, 21] (.cons rfl (.cons rfl (.cons rfl (.cons rfl (.cons rfl (.cons rfl (.cons rfl (.cons rfl (.cons rfl (.cons rfl (.cons rfl .nil))))))))))) ?_
  repeat apply Sq
  apply Bk
  repeat apply Sq
  refine J.loopG (α := Nat) (fun i => [(0, .is (.pointer (some ⟨b, 0, none⟩))), (1, .is (fv fp)), (2, .is (.int .i64 kd)), (3, .is (.slice a3 ops.length c3)), (4, .is (.slice a4 ops.length c4)), (10, .is (.pointer (some ⟨b10, 0, none⟩))), (11, .is (.pointer (some ⟨b11, 0, none⟩))), (12, .is (.bool false)), (19, .is (.slice a3 ops.length c3)), (20, .is (.int .i64 (ops.length : Int))), (21, .is (.int .i64 (i : Int)))]) (fun i => [⟨b11, Z6, .rep (ExR x)⟩, PB T b us, ⟨b10, Z6, .is (.agg #[.int .i64 0, .int .i64 0, .int .i64 0, .string ⟨#[]⟩, .string ⟨#[]⟩, .string ⟨#[]⟩, .int .i64 0, .slice none 0 0])⟩]) (fun i => fun _ => True) (fun i => i ≤ ops.length ∧ opOf kd (ops.drop i) us = opOf kd ops us) (fun i => ops.length - i) 0 [0, 1, 2, 3, 4, 10, 11, 12, 19, 20, 21] (.cons rfl (.cons rfl (.cons rfl (.cons rfl (.cons rfl (.cons rfl (.cons rfl (.cons rfl (.cons rfl (.cons rfl (.cons rfl .nil))))))))))) rfl (fun _ => trivial) ⟨by omega, rfl⟩ fun i ⟨hi, hO⟩ => ?_
  try dsimp only
  try dsimp only at hi
  try dsimp only at hO
  repeat apply Sq
  apply Pn
  refine Jt (Z1Q rfl rfl) rfl ?_
  apply Ni
  repeat first | apply Nx | apply Nb
  refine Sl [0, 1, 2, 3, 4, 10, 11, 12, 19, 20, 21, 22] (.cons rfl (.cons rfl (.cons rfl (.cons rfl (.cons rfl (.cons rfl (.cons rfl (.cons rfl (.cons rfl (.cons rfl (.cons rfl (.cons rfl .nil)))))))))))) ?_
  repeat apply Sq
  refine Cd rfl (fun ht22 => ?_) (fun ht22 => ?_)
  ·
   try simp only [dT, dF] at ht22
   apply Sk
   repeat first | apply Nx | apply Nb
   repeat apply Sq
   apply Bk
   repeat apply Sq
   apply Pn
   refine Jt (Z0 rfl) rfl ?_
   refine Jt (Zj Z4b rfl (ha3 (by omega)) rfl (by omega) (by omega)) rfl ?_
   refine Jt (Z1n (enc := sC) (sz := 1) (i := i) (j := 0) (y := (ops.getD i (em, 0)).1) (u := .string (ops.getD i (em, 0)).1) ZB rfl (by repeat first | exact Mh | apply Mt) (ha3 (by omega)) (Zid (by omega)) (by omega) rfl) rfl ?_
   refine Jt (Z2 rfl) rfl ?_
   refine Jt (Z2 rfl) rfl ?_
   apply Ni
   repeat first | apply Nx | apply Nb
   refine Sl [0, 1, 2, 3, 4, 10, 11, 12, 13, 14, 19, 20, 21] (.cons rfl (.cons rfl (.cons rfl (.cons rfl (.cons rfl (.cons rfl (.cons rfl (.cons rfl (.cons rfl (.cons rfl (.cons rfl (.cons rfl (.cons rfl .nil))))))))))))) ?_
   repeat apply Sq
   apply Pn
   refine Jt (Z0 rfl) rfl ?_
   refine Jt (Z0 rfl) rfl ?_
   refine Jt (Z0 rfl) rfl ?_
   refine JO.callK (Lr := [_, _]) (Z2D T hc b us hus kd (ops.getD i (em, 0)).1) rfl (.swap _ _ _) (fun F hF => by repeat (first | (rcases Mc.1 hF with rfl | hF; · (repeat first | exact Mh | apply Mt)) | (cases hF; done))) (.one rfl (.one rfl (.one rfl .nil))) ?_
   intro _ _
   try dsimp only [nA, cA]
   apply Ni
   repeat first | apply Nx | apply Nb
   refine Sl [0, 1, 2, 3, 4, 10, 11, 12, 13, 19, 20, 21, 29] (.cons rfl (.cons rfl (.cons rfl (.cons rfl (.cons rfl (.cons rfl (.cons rfl (.cons rfl (.cons rfl (.cons rfl (.cons rfl (.cons rfl (.cons rfl .nil))))))))))))) ?_
   repeat apply Sq
   refine Cd rfl (fun ht29 => ?_) (fun ht29 => ?_)
   ·
    try simp only [dT, dF] at ht29
    have hit : isT kd (ops.getD i (em, 0)).1 us = true := ht29
    have hop : opOf kd ops us = some (ops.getD i (em, 0)).2 := by rw [← hO, Z3Z (by omega), if_pos hit]
    rw [ZE hit]
    repeat apply Sq
    refine J.regBgPm (Bad := p us.tail = none) (ch := flt) (G := { z : Ex × List T3 // p us.tail = some z }) 7 9 (fun hbad => ?_) (fun g => .rep (ExR g.1.1)) (fun g => [PB T b g.1.2] ++ [⟨b11, Z6, .rep (ExR x)⟩, ⟨b10, Z6, .is (.agg #[.int .i64 0, .int .i64 0, .int .i64 0, .string ⟨#[]⟩, .string ⟨#[]⟩, .string ⟨#[]⟩, .int .i64 0, .slice none 0 0])⟩]) ([⟨b11, Z6, .rep (ExR x)⟩, ⟨b10, Z6, .is (.agg #[.int .i64 0, .int .i64 0, .int .i64 0, .string ⟨#[]⟩, .string ⟨#[]⟩, .string ⟨#[]⟩, .int .i64 0, .slice none 0 0])⟩]) rfl rfl rfl rfl hmx (by kernel_rfl) rfl (by kernel_rfl) (fun _ h => List.mem_cons_of_mem _ h) (fun g o ho => List.mem_cons_of_mem _ ho) (by kernel_rfl) ?_
    · exact JX.pnI (by show chainP p kd ops ts = none; rw [hI, Z9d hpd hop, hbad]; rfl)
    refine Rq (Z0 rfl) ?_
    refine Rq (Z0 rfl) ?_
    refine Rq (Zj ZeS rfl (ha4 (by omega)) rfl (by omega) (by omega)) ?_
    refine Rq (Z1n (enc := iC) (sz := 1) (i := i) (j := 0) (y := (ops.getD i (em, 0)).2) (u := .int .i64 (ops.getD i (em, 0)).2) Zz rfl (by repeat first | exact Mh | apply Mt) (ha4 (by omega)) (Zi4 (by omega)) (by omega) rfl) ?_
    refine Rq (Z2p Za rfl) ?_
    refine Rq (Z0 rfl) ?_
    refine Rq (Z0 rfl) ?_
    refine RT.biggP (Lq := [⟨b11, Z6, .rep (ExR x)⟩, ⟨b10, Z6, .is (.agg #[.int .i64 0, .int .i64 0, .int .i64 0, .string ⟨#[]⟩, .string ⟨#[]⟩, .string ⟨#[]⟩, .int .i64 0, .slice none 0 0])⟩]) (Z9a (cp := []) rfl (hpart us.tail (Zi hus) (by have := (Zr hit).2; omega)) (.refl _) (fun F hF => by repeat (first | (rcases Mc.1 hF with rfl | hF; · (repeat first | exact Mh | apply Mt)) | (cases hF; done))) (.one rfl .nil)) (fun g => ?_)
    refine Rq (Z8r ZR rfl rfl) ?_
    apply Rn
    obtain ⟨z, hg2⟩ := g
    try dsimp only
    have hlt := (Zr hit).2
    refine Jt (ZW rfl (Z1U (ops.getD i (em, 0)).2 [x, z.1]) (.one rfl (.one rfl .nil))) rfl ?_
    refine JO.m (Z3 rfl rfl (by repeat first | exact .here | apply Ut) (by first | exact cI rfl rfl | exact cE) (by first | exact cI rfl rfl | exact cE | exact cO) Zn) (by rfl) ?_
    refine Jt (Z2 rfl) rfl ?_
    apply Ni
    repeat first | apply Nx | apply Nb
    refine Sl [0, 1, 2, 3, 4, 10, 11, 12] (.cons rfl (.cons rfl (.cons rfl (.cons rfl (.cons rfl (.cons rfl (.cons rfl (.cons rfl .nil)))))))) ?_
    repeat apply Sq
    refine J.exit ?_
    repeat first | refine Ht ?_ | refine Ms rfl ?_ | refine Ep ?_
    repeat first | apply Nx | apply Nb
    repeat refine JX.normal_block ?_
    refine JX.roundG (x := (true, x, us)) (true, nd (ops.getD i (em, 0)).2 [x, z.1], z.2) ?_ ?_ [0, 1, 2, 3, 4, 10, 11, 12] ?_ ?_ ?_ ?_
    · exact ⟨((hpd _ _ hg2).1.trans (Zi hus)), (by have := (hpd _ _ hg2).2; show z.2.length ≤ ts.length; omega), by unfold chI; rw [if_pos rfl]; rw [hI, Z9d hpd hop, hg2]; rfl⟩
    · exact (by have := (hpd _ _ hg2).2; show 2 * z.2.length + 1 < 2 * us.length + true.toNat; simp; omega)
    · exact (.cons rfl (.cons rfl (.cons rfl (.cons rfl (.cons rfl (.cons rfl (.cons rfl (.cons rfl .nil))))))))
    · repeat (first | exact .all | exact .nil | refine Has.own (by repeat first | exact .here | apply Tl.past | apply Tl.there) ?_ | refine Has.cons (by repeat (first | exact .here | apply Pk.past | apply Pk.there)) ?_)
    · exact fun G hG => by repeat (first | exact hG | refine List.mem_cons_of_mem _ ?_)
    · exact fun _ _ _ => fun _ _ => trivial
   ·
    try simp only [dT, dF] at ht29
    apply Sk
    repeat first | apply Nx | apply Nb
    rw [ZI ht29]
    repeat apply Sq
    apply Pn
    refine Jt (Z17 (cc := ((i + 1 : Nat) : Int)) rfl rfl (by omega) (by omega) (by omega)) rfl ?_
    refine Jt (Z0 rfl) rfl ?_
    apply Ni
    repeat refine JX.normal_block ?_
    refine JX.roundG (x := i) (i + 1) ?_ ?_ [0, 1, 2, 3, 4, 10, 11, 12, 19, 20, 21] ?_ ?_ ?_ ?_
    · exact ⟨by omega, by rw [← hO, Z3Z (i := i) (by omega), if_neg (by rw [ht29]; decide)]⟩
    · exact (by omega)
    · exact (.cons rfl (.cons rfl (.cons rfl (.cons rfl (.cons rfl (.cons rfl (.cons rfl (.cons rfl (.cons rfl (.cons rfl (.cons rfl .nil)))))))))))
    · repeat (first | exact .all | exact .nil | refine Has.own (by repeat first | exact .here | apply Tl.past | apply Tl.there) ?_ | refine Has.cons (by repeat (first | exact .here | apply Pk.past | apply Pk.there)) ?_)
    · exact fun G hG => by repeat (first | exact hG | refine List.mem_cons_of_mem _ ?_)
    · exact fun _ _ _ => fun _ _ => trivial
  ·
   try simp only [dT, dF] at ht22
   repeat apply Sq
   refine J.exit ?_
   repeat first | refine Ht ?_ | refine Ms rfl ?_ | refine Ep ?_
   repeat first | apply Nx | apply Nb
   repeat refine JX.normal_block ?_
   refine JX.roundG (x := (true, x, us)) (false, x, us) ?_ ?_ [0, 1, 2, 3, 4, 10, 11, 12] ?_ ?_ ?_ ?_
   · exact ⟨hus, hul, by unfold chI; rw [if_neg (by exact Bool.false_ne_true)]; rw [hI]; exact Z4U (by rw [← hO, List.drop_eq_nil_of_le (by omega)]; rfl)⟩
   · exact (by show 2 * us.length + 0 < 2 * us.length + true.toNat; simp)
   · exact (.cons rfl (.cons rfl (.cons rfl (.cons rfl (.cons rfl (.cons rfl (.cons rfl (.cons rfl .nil))))))))
   · repeat (first | exact .all | exact .nil | refine Has.own (by repeat first | exact .here | apply Tl.past | apply Tl.there) ?_ | refine Has.cons (by repeat (first | exact .here | apply Pk.past | apply Pk.there)) ?_)
   · exact fun G hG => by repeat (first | exact hG | refine List.mem_cons_of_mem _ ?_)
   · exact fun _ _ _ => fun _ _ => trivial
 ·
  try simp only [dT, dF] at ht18
  repeat apply Sq
  refine J.exit ?_
  repeat first | refine Ht ?_ | refine Ms rfl ?_ | refine Ep ?_
  repeat first | apply Nx | apply Nb
  obtain rfl : mo = false := ht18
  rw [chI, if_neg (by exact Bool.false_ne_true)] at hI
  repeat apply Sq
  apply Pn
  refine Jt (Z2p Za rfl) rfl ?_
  refine JO.m (Z3 rfl rfl (by repeat first | exact .here | apply Ut) (by first | exact cI rfl rfl | exact cE) (by first | exact cI rfl rfl | exact cE | exact cO) Zn) (by rfl) ?_
  apply Ni
  repeat first | apply Nx | apply Nb
  refine Sl [10] (.cons rfl .nil) ?_
  repeat apply Sq
  apply Rt
  repeat first | apply Rp | apply Rb
  refine JX.toP ?_
  exact JX.retLCs (Lr := [_, _]) (L1 := fun z : Ex × List T3 => [PB T b z.2]) (R := fun z => .rep (ExR z.1)) rfl (x, us) hI (.swap _ _ _) rfl rfl hb0 rfl Za HasOwn.mem Z1l (Sub.refl _)
end Go.Proofs.YtbedigkncjbggaaGreatDoor
set_option maxRecDepth 20000
namespace Go.Proofs.YtbedigkncjbggaaGreatDoor
open Go Go.Vc
open Go.Pz
theorem Z5F (T : Tk) (hc : T.ts.length ≤ T.cap) (b : Nat) (ts : List T3) (hts : ts <:+ T.ts) (e : Ps Ex) (he : Dn0 e) (hpart : ∀ us, us <:+ T.ts → us.length ≤ ts.length → CallP Tryz.prog Z1k [PB T b (us)] [T.G, AF] [.is (.pointer (some ⟨b, 0, none⟩))] (factorP e (us) = none) flt (fun z : Ex × List T3 => factorP e (us) = some z) (fun z => [PB T b z.2]) (fun z => .rep (ExR z.1))) : CallP Tryz.prog Z1H [PB T b ts] [T.G, AF] [.is (.pointer (some ⟨b, 0, none⟩))] (prodP e ts = none) flt (fun z : Ex × List T3 => prodP e ts = some z) (fun z => [PB T b z.2]) (fun z => .rep (ExR z.1)) :=
CallP.of (fn := Tryz.f189) Tryz.func189 (n := 7) rfl rfl rfl (fun _ _ => by kernel_rfl) fun E W hb0 => by
 repeat apply Sq
 apply Pn
 refine JO.alloc ZZ rfl fun b2 => ?_
 apply Ni
 repeat first | apply Nx | apply Nb
 refine Sl [0, 2] (.cons rfl (.cons rfl .nil)) ?_
 repeat apply Sq
 apply Pn
 refine Jt (Z0 rfl) rfl ?_
 refine Jt (ZJ (cs := [_, _, _]) Z1I (by omega) (by omega) (.cons rfl (.cons rfl (.cons rfl .nil))) rfl rfl rfl) rfl ?_
 refine Jt (ZJ (cs := [_, _, _]) Z65 (by omega) (by omega) (.cons rfl (.cons rfl (.cons rfl .nil))) rfl rfl rfl) rfl ?_
 refine JO.callPK (Lr := [_]) (Z1T T hc b ts hts (factorP e) (Z59 he) 5 mulO (by decide) Z1k hpart) rfl (.swap _ _ _) (fun F hF => by repeat (first | (rcases Mc.1 hF with rfl | hF; · (repeat first | exact Mh | apply Mt)) | (cases hF; done))) (.one rfl (.one rfl (.one rfl (.sub rfl (Sub.newSlG (en := sC) (sz := 1) (xs := [Z1a, Z1L, Z2C]) (fun _ => rfl) rfl rfl) (.sub rfl (Sub.newSlG (en := iC) (sz := 1) (xs := [7, 8, 9]) (fun _ => rfl) rfl rfl) .nil))))) (fun hbad => ?_) ?_
 · exact JX.pnI (hbad)
 intro z hz
 try dsimp only [nA, cA]
 refine JO.m (Z3 rfl rfl (by repeat first | exact .here | apply Ut) (by first | exact cI rfl rfl | exact cE) (by first | exact cI rfl rfl | exact cE | exact cO) Zn) (by rfl) ?_
 apply Ni
 repeat first | apply Nx | apply Nb
 refine Sl [2] (.cons rfl .nil) ?_
 repeat apply Sq
 apply Rt
 repeat first | apply Rp | apply Rb
 refine JX.toP ?_
 exact JX.retLCs (Lr := [_]) (L1 := fun z : Ex × List T3 => [PB T b z.2]) (R := fun z => .rep (ExR z.1)) rfl z hz (.refl _) rfl rfl hb0 rfl Za HasOwn.mem Z1l (Sub.refl _)
theorem Z7g (T : Tk) (hc : T.ts.length ≤ T.cap) (b : Nat) (ts : List T3) (hts : ts <:+ T.ts) (e : Ps Ex) (he : Dn0 e) (hpart : ∀ us, us <:+ T.ts → us.length ≤ ts.length → CallP Tryz.prog Z1H [PB T b (us)] [T.G, AF] [.is (.pointer (some ⟨b, 0, none⟩))] (prodP e (us) = none) flt (fun z : Ex × List T3 => prodP e (us) = some z) (fun z => [PB T b z.2]) (fun z => .rep (ExR z.1))) : CallP Tryz.prog Z28 [PB T b ts] [T.G, AF] [.is (.pointer (some ⟨b, 0, none⟩))] (sumP e ts = none) flt (fun z : Ex × List T3 => sumP e ts = some z) (fun z => [PB T b z.2]) (fun z => .rep (ExR z.1)) :=
CallP.of (fn := Tryz.f178) Tryz.func178 (n := 7) rfl rfl rfl (fun _ _ => by kernel_rfl) fun E W hb0 => by
 repeat apply Sq
 apply Pn
 refine JO.alloc ZZ rfl fun b2 => ?_
 apply Ni
 repeat first | apply Nx | apply Nb
 refine Sl [0, 2] (.cons rfl (.cons rfl .nil)) ?_
 repeat apply Sq
 apply Pn
 refine Jt (Z0 rfl) rfl ?_
 refine Jt (ZJ (cs := [_, _]) Z1I (by omega) (by omega) (.cons rfl (.cons rfl .nil)) rfl rfl rfl) rfl ?_
 refine Jt (ZJ (cs := [_, _]) Z65 (by omega) (by omega) (.cons rfl (.cons rfl .nil)) rfl rfl rfl) rfl ?_
 refine JO.callPK (Lr := [_]) (Z1T T hc b ts hts (prodP e) (Z8E he) 5 addO (by decide) Z1H hpart) rfl (.swap _ _ _) (fun F hF => by repeat (first | (rcases Mc.1 hF with rfl | hF; · (repeat first | exact Mh | apply Mt)) | (cases hF; done))) (.one rfl (.one rfl (.one rfl (.sub rfl (Sub.newSlG (en := sC) (sz := 1) (xs := [Z25, Z1g]) (fun _ => rfl) rfl rfl) (.sub rfl (Sub.newSlG (en := iC) (sz := 1) (xs := [5, 6]) (fun _ => rfl) rfl rfl) .nil))))) (fun hbad => ?_) ?_
 · exact JX.pnI (hbad)
 intro z hz
 try dsimp only [nA, cA]
 refine JO.m (Z3 rfl rfl (by repeat first | exact .here | apply Ut) (by first | exact cI rfl rfl | exact cE) (by first | exact cI rfl rfl | exact cE | exact cO) Zn) (by rfl) ?_
 apply Ni
 repeat first | apply Nx | apply Nb
 refine Sl [2] (.cons rfl .nil) ?_
 repeat apply Sq
 apply Rt
 repeat first | apply Rp | apply Rb
 refine JX.toP ?_
 exact JX.retLCs (Lr := [_]) (L1 := fun z : Ex × List T3 => [PB T b z.2]) (R := fun z => .rep (ExR z.1)) rfl z hz (.refl _) rfl rfl hb0 rfl Za HasOwn.mem Z1l (Sub.refl _)
theorem Z7m (T : Tk) (hc : T.ts.length ≤ T.cap) (b : Nat) (ts : List T3) (hts : ts <:+ T.ts) (e : Ps Ex) (he : Dn0 e) (hpart : ∀ us, us <:+ T.ts → us.length ≤ ts.length → CallP Tryz.prog Z1t [PB T b (us)] [T.G, AF] [.is (.pointer (some ⟨b, 0, none⟩))] (notP e (us) = none) flt (fun z : Ex × List T3 => notP e (us) = some z) (fun z => [PB T b z.2]) (fun z => .rep (ExR z.1))) : CallP Tryz.prog Z26 [PB T b ts] [T.G, AF] [.is (.pointer (some ⟨b, 0, none⟩))] (andP e ts = none) flt (fun z : Ex × List T3 => andP e ts = some z) (fun z => [PB T b z.2]) (fun z => .rep (ExR z.1)) :=
CallP.of (fn := Tryz.f146) Tryz.func146 (n := 7) rfl rfl rfl (fun _ _ => by kernel_rfl) fun E W hb0 => by
 repeat apply Sq
 apply Pn
 refine JO.alloc ZZ rfl fun b2 => ?_
 apply Ni
 repeat first | apply Nx | apply Nb
 refine Sl [0, 2] (.cons rfl (.cons rfl .nil)) ?_
 repeat apply Sq
 apply Pn
 refine Jt (Z0 rfl) rfl ?_
 refine Jt (ZJ (cs := [_]) Z1I (by omega) (by omega) (.cons rfl .nil) rfl rfl rfl) rfl ?_
 refine Jt (ZJ (cs := [_]) Z65 (by omega) (by omega) (.cons rfl .nil) rfl rfl rfl) rfl ?_
 refine JO.callPK (Lr := [_]) (Z1T T hc b ts hts (notP e) (Z80 he) 1 [(Z1E, 16)] (by decide) Z1t hpart) rfl (.swap _ _ _) (fun F hF => by repeat (first | (rcases Mc.1 hF with rfl | hF; · (repeat first | exact Mh | apply Mt)) | (cases hF; done))) (.one rfl (.one rfl (.one rfl (.sub rfl (Sub.newSlG (en := sC) (sz := 1) (xs := [Z1E]) (fun _ => rfl) rfl rfl) (.sub rfl (Sub.newSlG (en := iC) (sz := 1) (xs := [16]) (fun _ => rfl) rfl rfl) .nil))))) (fun hbad => ?_) ?_
 · exact JX.pnI (hbad)
 intro z hz
 try dsimp only [nA, cA]
 refine JO.m (Z3 rfl rfl (by repeat first | exact .here | apply Ut) (by first | exact cI rfl rfl | exact cE) (by first | exact cI rfl rfl | exact cE | exact cO) Zn) (by rfl) ?_
 apply Ni
 repeat first | apply Nx | apply Nb
 refine Sl [2] (.cons rfl .nil) ?_
 repeat apply Sq
 apply Rt
 repeat first | apply Rp | apply Rb
 refine JX.toP ?_
 exact JX.retLCs (Lr := [_]) (L1 := fun z : Ex × List T3 => [PB T b z.2]) (R := fun z => .rep (ExR z.1)) rfl z hz (.refl _) rfl rfl hb0 rfl Za HasOwn.mem Z1l (Sub.refl _)
theorem Z6z (T : Tk) (hc : T.ts.length ≤ T.cap) (b : Nat) (ts : List T3) (hts : ts <:+ T.ts) (e : Ps Ex) (he : Dn0 e) (hpart : ∀ us, us <:+ T.ts → us.length ≤ ts.length → CallP Tryz.prog Z26 [PB T b (us)] [T.G, AF] [.is (.pointer (some ⟨b, 0, none⟩))] (andP e (us) = none) flt (fun z : Ex × List T3 => andP e (us) = some z) (fun z => [PB T b z.2]) (fun z => .rep (ExR z.1))) : CallP Tryz.prog Zt [PB T b ts] [T.G, AF] [.is (.pointer (some ⟨b, 0, none⟩))] (orP e ts = none) flt (fun z : Ex × List T3 => orP e ts = some z) (fun z => [PB T b z.2]) (fun z => .rep (ExR z.1)) :=
CallP.of (fn := Tryz.f113) Tryz.func113 (n := 7) rfl rfl rfl (fun _ _ => by kernel_rfl) fun E W hb0 => by
 repeat apply Sq
 apply Pn
 refine JO.alloc ZZ rfl fun b2 => ?_
 apply Ni
 repeat first | apply Nx | apply Nb
 refine Sl [0, 2] (.cons rfl (.cons rfl .nil)) ?_
 repeat apply Sq
 apply Pn
 refine Jt (Z0 rfl) rfl ?_
 refine Jt (ZJ (cs := [_]) Z1I (by omega) (by omega) (.cons rfl .nil) rfl rfl rfl) rfl ?_
 refine Jt (ZJ (cs := [_]) Z65 (by omega) (by omega) (.cons rfl .nil) rfl rfl rfl) rfl ?_
 refine JO.callPK (Lr := [_]) (Z1T T hc b ts hts (andP e) (Z9w he) 1 [(w_OR, 17)] (by decide) Z26 hpart) rfl (.swap _ _ _) (fun F hF => by repeat (first | (rcases Mc.1 hF with rfl | hF; · (repeat first | exact Mh | apply Mt)) | (cases hF; done))) (.one rfl (.one rfl (.one rfl (.sub rfl (Sub.newSlG (en := sC) (sz := 1) (xs := [w_OR]) (fun _ => rfl) rfl rfl) (.sub rfl (Sub.newSlG (en := iC) (sz := 1) (xs := [17]) (fun _ => rfl) rfl rfl) .nil))))) (fun hbad => ?_) ?_
 · exact JX.pnI (hbad)
 intro z hz
 try dsimp only [nA, cA]
 refine JO.m (Z3 rfl rfl (by repeat first | exact .here | apply Ut) (by first | exact cI rfl rfl | exact cE) (by first | exact cI rfl rfl | exact cE | exact cO) Zn) (by rfl) ?_
 apply Ni
 repeat first | apply Nx | apply Nb
 refine Sl [2] (.cons rfl .nil) ?_
 repeat apply Sq
 apply Rt
 repeat first | apply Rp | apply Rb
 refine JX.toP ?_
 exact JX.retLCs (Lr := [_]) (L1 := fun z : Ex × List T3 => [PB T b z.2]) (R := fun z => .rep (ExR z.1)) rfl z hz (.refl _) rfl rfl hb0 rfl Za HasOwn.mem Z1l (Sub.refl _)
end Go.Proofs.YtbedigkncjbggaaGreatDoor
set_option maxRecDepth 20000
namespace Go.Proofs.YtbedigkncjbggaaGreatDoor
open Go Go.Vc
open Go.Pz
theorem ZdW {e : Ps Ex} {ts : List T3} (h : isT 1 Z1R ts = true) : notP e ts = (notP e ts.tail).map fun z => (nd 4 [z.1], z.2) := by
 obtain ⟨t, r, rfl, _⟩ := Z3O h
 rw [notP, if_pos h]; rfl
theorem Z4R {e : Ps Ex} {ts : List T3} (h : isT 1 Z1R ts = false) : notP e ts = (sumP e ts).bind fun z => cmpP e z.1 z.2 := by
 cases ts with
 | nil => rw [notP]
 | cons t r => rw [notP, if_neg (by rw [h]; decide)]
abbrev cmpV : List Value := [.string s_eq, .string s_ne, .string s_lt, .string s_le, .string s_gt, .string s_ge]
theorem Zhs {i : Nat} (h : i < 6) : cmpV[0 + ((i : Nat) : Int).toNat * 1]? = some (.string (cmpO.getD i (em, 0)).1) := by
  match i, h with
  | 0, _ => rfl
  | 1, _ => rfl
  | 2, _ => rfl
  | 3, _ => rfl
  | 4, _ => rfl
  | 5, _ => rfl
theorem Zib {i : Nat} (h : i < 6) : IntKind.i64.wrap (10 + ((i : Nat) : Int)) = (cmpO.getD i (em, 0)).2 := by
  match i, h with
  | 0, _ => rfl
  | 1, _ => rfl
  | 2, _ => rfl
  | 3, _ => rfl
  | 4, _ => rfl
  | 5, _ => rfl
theorem asc {s : ByteArray} (h : s.data.toList.all (fun b => decide (b.toNat < 128)) = true) (j : Nat) (b : UInt8) (hb : s.data.toList[j]? = some b) : b.toNat < 128 := of_decide_eq_true (List.all_eq_true.1 h b (List.mem_of_getElem? hb))
theorem Z5b (T : Tk) (hc : T.ts.length ≤ T.cap) (b : Nat) (ts : List T3) (hts : ts <:+ T.ts) (e : Ps Ex) (he : Dn0 e) (hsum : ∀ us, us <:+ T.ts → us.length ≤ ts.length → CallP Tryz.prog Z28 [PB T b (us)] [T.G, AF] [.is (.pointer (some ⟨b, 0, none⟩))] (sumP e (us) = none) flt (fun z : Ex × List T3 => sumP e (us) = some z) (fun z => [PB T b z.2]) (fun z => .rep (ExR z.1))) (ih : ∀ us, us <:+ T.ts → us.length < ts.length → CallP Tryz.prog Z1t [PB T b (us)] [T.G, AF] [.is (.pointer (some ⟨b, 0, none⟩))] (notP e (us) = none) flt (fun z : Ex × List T3 => notP e (us) = some z) (fun z => [PB T b z.2]) (fun z => .rep (ExR z.1))) : CallP Tryz.prog Z1t [PB T b ts] [T.G, AF] [.is (.pointer (some ⟨b, 0, none⟩))] (notP e ts = none) flt (fun z : Ex × List T3 => notP e ts = some z) (fun z => [PB T b z.2]) (fun z => .rep (ExR z.1)) :=
CallP.of (fn := Tryz.f165) Tryz.func165 (n := 48) rfl rfl rfl (fun _ _ => by kernel_rfl) fun E W hb0 => by
 repeat apply Sq
 apply Pn
 refine JO.alloc ZZ rfl fun b2 => ?_
 apply Ni
 repeat first | apply Nx | apply Nb
 refine Sl [0, 2] (.cons rfl (.cons rfl .nil)) ?_
 repeat apply Sq
 apply Pn
 refine Jt (Z0 rfl) rfl ?_
 refine JO.callK (Lr := [_]) (Zd T hc b ts hts Z1R) rfl (.swap _ _ _) (fun F hF => by repeat (first | (rcases Mc.1 hF with rfl | hF; · (repeat first | exact Mh | apply Mt)) | (cases hF; done))) (.one rfl (.one rfl .nil)) ?_
 intro _ _
 try dsimp only [nA, cA]
 apply Ni
 repeat first | apply Nx | apply Nb
 refine Sl [0, 2, 7] (.cons rfl (.cons rfl (.cons rfl .nil))) ?_
 repeat apply Sq
 refine Cd rfl (fun ht7 => ?_) (fun ht7 => ?_)
 ·
  try simp only [dT, dF] at ht7
  have hnn : isT 1 Z1R ts = true := ht7
  rw [ZE hnn]
  repeat apply Sq
  apply Pn
  refine Jt (Z0 rfl) rfl ?_
  refine JO.callPK (Lr := [_]) (ih ts.tail (Zi hts) (Zr hnn).2) rfl (.refl _) (fun F hF => by repeat (first | (rcases Mc.1 hF with rfl | hF; · (repeat first | exact Mh | apply Mt)) | (cases hF; done))) (.one rfl .nil) (fun hbad => ?_) ?_
  · exact JX.pnI (by rw [ZdW hnn, hbad]; rfl)
  intro z hz
  try dsimp only [nA, cA]
  refine Jt (Z35 ZR rfl) rfl ?_
  refine Jt (ZW rfl (Z1U 4 [z.1]) (.one rfl (.one rfl .nil))) rfl ?_
  refine JO.m (Z3 rfl rfl (by repeat first | exact .here | apply Ut) (by first | exact cI rfl rfl | exact cE) (by first | exact cI rfl rfl | exact cE | exact cO) Zn) (by rfl) ?_
  apply Ni
  repeat first | apply Nx | apply Nb
  refine Sl [2] (.cons rfl .nil) ?_
  repeat apply Sq
  apply Rt
  repeat first | apply Rp | apply Rb
  refine JX.toP ?_
  exact JX.retLCs (Lr := [_]) (L1 := fun z : Ex × List T3 => [PB T b z.2]) (R := fun z => .rep (ExR z.1)) rfl (nd 4 [z.1], z.2) (by rw [ZdW hnn, hz]; rfl) (.refl _) rfl rfl hb0 rfl Za HasOwn.mem Z1l (Sub.refl _)
 ·
  try simp only [dT, dF] at ht7
  apply Sk
  repeat first | apply Nx | apply Nb
  have hnn : isT 1 Z1R ts = false := ht7
  rw [ZI hnn]
  repeat apply Sq
  apply Pn
  refine Jt (Z0 rfl) rfl ?_
  refine JO.callPK (Lr := [_]) (hsum ts hts (Nat.le_refl _)) rfl (.refl _) (fun F hF => by repeat (first | (rcases Mc.1 hF with rfl | hF; · (repeat first | exact Mh | apply Mt)) | (cases hF; done))) (.one rfl .nil) (fun hbad => ?_) ?_
  · exact JX.pnI (by rw [Z4R hnn, hbad]; rfl)
  intro z1 hz1
  try dsimp only [nA, cA]
  refine JO.alloc ZZ rfl fun b3 => ?_
  refine JO.m (Z3 rfl rfl (by repeat first | exact .here | apply Ut) (by first | exact cI rfl rfl | exact cE) (by first | exact cI rfl rfl | exact cE | exact cO) Zn) (by rfl) ?_
  apply Ni
  repeat first | apply Nx | apply Nb
  refine Sl [0, 2, 3] (.cons rfl (.cons rfl (.cons rfl .nil))) ?_
  repeat apply Sq
  apply Pn
  refine Jt (ZJ (cs := [_, _, _, _, _, _]) Z1I (by omega) (by omega) (.cons rfl (.cons rfl (.cons rfl (.cons rfl (.cons rfl (.cons rfl .nil)))))) rfl rfl rfl) rfl ?_
  refine JO.openNew (s := 14) rfl (fun r14 => ?_)
  refine Jt (ZG Z2E rfl) rfl ?_
  refine Jt (Z0 rfl) rfl ?_
  apply Ni
  repeat first | apply Nx | apply Nb
  refine Sl [0, 2, 3, 14, 15, 16] (.cons rfl (.cons rfl (.cons rfl (.cons rfl (.cons rfl (.cons rfl .nil)))))) ?_
  repeat apply Sq
  apply Bk
  repeat apply Sq
  refine J.loopG (α := Nat) (fun i => [(0, .is (.pointer (some ⟨b, 0, none⟩))), (2, .is (.pointer (some ⟨b2, 0, none⟩))), (3, .is (.pointer (some ⟨b3, 0, none⟩))), (14, .is (.slice (some ⟨r14, 0, none⟩) 6 6)), (15, .is (.int .i64 6)), (16, .is (.int .i64 (i : Int)))]) (fun i => [⟨b3, Z6, .rep (ExR z1.1)⟩, PB T b z1.2, ⟨b2, Z6, .is (.agg #[.int .i64 0, .int .i64 0, .int .i64 0, .string ⟨#[]⟩, .string ⟨#[]⟩, .string ⟨#[]⟩, .int .i64 0, .slice none 0 0])⟩]) (fun i => fun _ => True) (fun i => i ≤ 6 ∧ opOf 5 (cmpO.drop i) z1.2 = opOf 5 cmpO z1.2) (fun i => 6 - i) 0 [0, 2, 3, 14, 15, 16] (.cons rfl (.cons rfl (.cons rfl (.cons rfl (.cons rfl (.cons rfl .nil)))))) rfl (fun _ => trivial) ⟨by omega, rfl⟩ fun i ⟨hi, hO⟩ => ?_
  try dsimp only
  try dsimp only at hi
  try dsimp only at hO
  repeat apply Sq
  apply Pn
  refine Jt (Z1Q rfl rfl) rfl ?_
  apply Ni
  repeat first | apply Nx | apply Nb
  refine Sl [0, 2, 3, 14, 15, 16, 17] (.cons rfl (.cons rfl (.cons rfl (.cons rfl (.cons rfl (.cons rfl (.cons rfl .nil))))))) ?_
  repeat apply Sq
  refine Cd rfl (fun ht17 => ?_) (fun ht17 => ?_)
  ·
   try simp only [dT, dF] at ht17
   apply Sk
   repeat first | apply Nx | apply Nb
   repeat apply Sq
   apply Bk
   repeat apply Sq
   apply Pn
   refine Jt (Z0 rfl) rfl ?_
   refine Jt (Zj Z4b rfl rfl rfl (by omega) (by omega)) rfl ?_
   refine Jt (Z6v (cs := cmpV) (u := .string (cmpO.getD i (em, 0)).1) ZB rfl (by repeat first | exact Mh | apply Mt) (Zhs (by omega))) rfl ?_
   refine Jt (Z2 rfl) rfl ?_
   refine Jt (Z2 rfl) rfl ?_
   apply Ni
   repeat first | apply Nx | apply Nb
   refine Sl [0, 2, 3, 4, 5, 14, 15, 16] (.cons rfl (.cons rfl (.cons rfl (.cons rfl (.cons rfl (.cons rfl (.cons rfl (.cons rfl .nil)))))))) ?_
   repeat apply Sq
   apply Pn
   refine Jt (Z0 rfl) rfl ?_
   refine Jt (Z0 rfl) rfl ?_
   refine JO.callK (Lr := [_, _]) (Z9 T hc b z1.2 ((Z2R he _ _ hz1).1.trans hts) (cmpO.getD i (em, 0)).1) rfl (.swap _ _ _) (fun F hF => by repeat (first | (rcases Mc.1 hF with rfl | hF; · (repeat first | exact Mh | apply Mt)) | (cases hF; done))) (.one rfl (.one rfl .nil)) ?_
   intro _ _
   try dsimp only [nA, cA]
   apply Ni
   repeat first | apply Nx | apply Nb
   refine Sl [0, 2, 3, 4, 14, 15, 16, 23] (.cons rfl (.cons rfl (.cons rfl (.cons rfl (.cons rfl (.cons rfl (.cons rfl (.cons rfl .nil)))))))) ?_
   repeat apply Sq
   refine Cd rfl (fun ht23 => ?_) (fun ht23 => ?_)
   ·
    try simp only [dT, dF] at ht23
    have hit : isT 5 (cmpO.getD i (em, 0)).1 z1.2 = true := ht23
    have hop : opOf 5 cmpO z1.2 = some (cmpO.getD i (em, 0)).2 := by rw [← hO, Z3Z (ops := cmpO) (by show i < 6; omega), if_pos hit]
    rw [ZE hit]
    repeat apply Sq
    refine J.regBgPm (Bad := sumP e z1.2.tail = none) (ch := flt) (G := { z : Ex × List T3 // sumP e z1.2.tail = some z }) 4 6 (fun hbad => ?_) (fun g => .rep (ExR g.1.1)) (fun g => [PB T b g.1.2] ++ [⟨b3, Z6, .rep (ExR z1.1)⟩, ⟨b2, Z6, .is (.agg #[.int .i64 0, .int .i64 0, .int .i64 0, .string ⟨#[]⟩, .string ⟨#[]⟩, .string ⟨#[]⟩, .int .i64 0, .slice none 0 0])⟩]) ([⟨b3, Z6, .rep (ExR z1.1)⟩, ⟨b2, Z6, .is (.agg #[.int .i64 0, .int .i64 0, .int .i64 0, .string ⟨#[]⟩, .string ⟨#[]⟩, .string ⟨#[]⟩, .int .i64 0, .slice none 0 0])⟩]) rfl rfl rfl rfl hmx (by kernel_rfl) rfl (by kernel_rfl) (fun _ h => List.mem_cons_of_mem _ h) (fun g o ho => List.mem_cons_of_mem _ ho) (by kernel_rfl) ?_
    · exact JX.pnI (by rw [Z4R hnn, hz1]; show cmpP e z1.1 z1.2 = none; unfold cmpP; rw [hop]; dsimp only; rw [hbad]; rfl)
    refine Rq (Z0 rfl) ?_
    refine Rq (ZgJ (cc := (cmpO.getD i (em, 0)).2) rfl rfl (Zib (by omega))) ?_
    refine Rq (Z2p Za rfl) ?_
    refine Rq (Z0 rfl) ?_
    refine RT.biggP (Lq := [⟨b3, Z6, .rep (ExR z1.1)⟩, ⟨b2, Z6, .is (.agg #[.int .i64 0, .int .i64 0, .int .i64 0, .string ⟨#[]⟩, .string ⟨#[]⟩, .string ⟨#[]⟩, .int .i64 0, .slice none 0 0])⟩]) (Z4L rfl (hsum z1.2.tail (Zi ((Z2R he _ _ hz1).1.trans hts)) (by have := (Zr hit).2; have := (Z2R he _ _ hz1).2; omega)) (.refl _) (fun F hF => by repeat (first | (rcases Mc.1 hF with rfl | hF; · (repeat first | exact Mh | apply Mt)) | (cases hF; done))) (.one rfl .nil)) (fun g => ?_)
    refine Rq (Z8r ZR rfl rfl) ?_
    apply Rn
    obtain ⟨z, hg2⟩ := g
    try dsimp only
    refine Jt (ZW rfl (Z1U (cmpO.getD i (em, 0)).2 [z1.1, z.1]) (.one rfl (.one rfl .nil))) rfl ?_
    refine JO.m (Z3 rfl rfl (by repeat first | exact .here | apply Ut) (by first | exact cI rfl rfl | exact cE) (by first | exact cI rfl rfl | exact cE | exact cO) Zn) (by rfl) ?_
    apply Ni
    repeat first | apply Nx | apply Nb
    refine Sl [2] (.cons rfl .nil) ?_
    repeat apply Sq
    apply Rt
    repeat first | apply Rp | apply Rb
    refine JX.toP ?_
    exact JX.retLCs (Lr := [_, _]) (L1 := fun z : Ex × List T3 => [PB T b z.2]) (R := fun z => .rep (ExR z.1)) rfl (nd (cmpO.getD i (em, 0)).2 [z1.1, z.1], z.2) (by rw [Z4R hnn, hz1]; show cmpP e z1.1 z1.2 = _; unfold cmpP; rw [hop]; dsimp only; rw [hg2]; rfl) (.refl _) rfl rfl hb0 rfl Za HasOwn.mem Z1l (Sub.refl _)
   ·
    try simp only [dT, dF] at ht23
    apply Sk
    repeat first | apply Nx | apply Nb
    rw [ZI ht23]
    repeat apply Sq
    apply Pn
    refine Jt (Z17 (cc := ((i + 1 : Nat) : Int)) rfl rfl (by omega) (by omega) (by omega)) rfl ?_
    refine Jt (Z0 rfl) rfl ?_
    apply Ni
    repeat refine JX.normal_block ?_
    refine JX.roundG (x := i) (i + 1) ?_ ?_ [0, 2, 3, 14, 15, 16] ?_ ?_ ?_ ?_
    · exact ⟨by omega, by rw [← hO, Z3Z (ops := cmpO) (i := i) (by show i < 6; omega), if_neg (by rw [ht23]; decide)]⟩
    · exact (by omega)
    · exact (.cons rfl (.cons rfl (.cons rfl (.cons rfl (.cons rfl (.cons rfl .nil))))))
    · repeat (first | exact .all | exact .nil | refine Has.own (by repeat first | exact .here | apply Tl.past | apply Tl.there) ?_ | refine Has.cons (by repeat (first | exact .here | apply Pk.past | apply Pk.there)) ?_)
    · exact fun G hG => by repeat (first | exact hG | refine List.mem_cons_of_mem _ ?_)
    · exact fun _ _ _ => fun _ _ => trivial
  ·
   try simp only [dT, dF] at ht17
   repeat apply Sq
   refine J.exit ?_
   repeat first | refine Ht ?_ | refine Ms rfl ?_ | refine Ep ?_
   repeat first | apply Nx | apply Nb
   have hno : opOf 5 cmpO z1.2 = none := by rw [← hO, List.drop_eq_nil_of_le (by show 6 ≤ i; omega)]; rfl
   repeat apply Sq
   apply Pn
   refine Jt (Z0 rfl) rfl ?_
   refine JO.callK (Lr := [_, _]) (Zd T hc b z1.2 ((Z2R he _ _ hz1).1.trans hts) w_IS) rfl (.swap _ _ _) (fun F hF => by repeat (first | (rcases Mc.1 hF with rfl | hF; · (repeat first | exact Mh | apply Mt)) | (cases hF; done))) (.one rfl (.one rfl .nil)) ?_
   intro _ _
   try dsimp only [nA, cA]
   refine Jt (Z5B rfl) rfl ?_
   apply Ni
   repeat first | apply Nx | apply Nb
   refine Sl [0, 2, 3, 34] (.cons rfl (.cons rfl (.cons rfl (.cons rfl .nil)))) ?_
   repeat apply Sq
   refine Cd rfl (fun ht34 => ?_) (fun ht34 => ?_)
   ·
    try simp only [dT, dF] at ht34
    have his : isT 1 w_IS z1.2 = false := by simpa using ht34
    rw [ZI his]
    repeat apply Sq
    apply Pn
    refine Jt (Z2p Za rfl) rfl ?_
    refine JO.m (Z3 rfl rfl (by repeat first | exact .here | apply Ut) (by first | exact cI rfl rfl | exact cE) (by first | exact cI rfl rfl | exact cE | exact cO) Zn) (by rfl) ?_
    apply Ni
    repeat first | apply Nx | apply Nb
    refine Sl [2] (.cons rfl .nil) ?_
    repeat apply Sq
    apply Rt
    repeat first | apply Rp | apply Rb
    refine JX.toP ?_
    exact JX.retLCs (Lr := [_, _]) (L1 := fun z : Ex × List T3 => [PB T b z.2]) (R := fun z => .rep (ExR z.1)) rfl (z1.1, z1.2) (by rw [Z4R hnn, hz1]; show cmpP e z1.1 z1.2 = _; unfold cmpP; rw [hno]; dsimp only; rw [if_neg (by rw [his]; decide)]) (.refl _) rfl rfl hb0 rfl Za HasOwn.mem Z1l (Sub.refl _)
   ·
    try simp only [dT, dF] at ht34
    apply Sk
    repeat first | apply Nx | apply Nb
    have his : isT 1 w_IS z1.2 = true := by simpa using ht34
    rw [ZE his]
    repeat apply Sq
    apply Pn
    refine Jt (Z0 rfl) rfl ?_
    refine JO.callK (Lr := [_, _]) (Zd T hc b z1.2.tail (Zi ((Z2R he _ _ hz1).1.trans hts)) Z1R) rfl (.refl _) (fun F hF => by repeat (first | (rcases Mc.1 hF with rfl | hF; · (repeat first | exact Mh | apply Mt)) | (cases hF; done))) (.one rfl (.one rfl .nil)) ?_
    intro _ _
    try dsimp only [nA, cA]
    apply Ni
    repeat first | apply Nx | apply Nb
    refine Sl [0, 2, 3, 37] (.cons rfl (.cons rfl (.cons rfl (.cons rfl .nil)))) ?_
    repeat apply Sq
    refine Cd rfl (fun ht37 => ?_) (fun ht37 => ?_)
    ·
     try simp only [dT, dF] at ht37
     have hi2 : isT 1 Z1R z1.2.tail = true := ht37
     rw [ZE hi2]
     repeat apply Sq
     apply Pn
     refine Jt (Z0 rfl) rfl ?_
     refine JO.callPK (Lr := [_, _]) (Zl T hc b (z1.2.tail.tail) (Zi (Zi ((Z2R he _ _ hz1).1.trans hts))) Z3n (by decide +kernel) (by decide +kernel) (asc (by decide +kernel))) rfl (.refl _) (fun F hF => by repeat (first | (rcases Mc.1 hF with rfl | hF; · (repeat first | exact Mh | apply Mt)) | (cases hF; done))) (.one rfl (.one rfl .nil)) (fun hbad => ?_) ?_
     · exact JX.pnI (by rw [Z4R hnn, hz1]; show cmpP e z1.1 z1.2 = none; unfold cmpP; rw [hno]; dsimp only; rw [if_pos his, if_pos hi2, hbad]; rfl)
     intro z2 hz2
     try dsimp only [nA, cA]
     apply Ni
     repeat first | apply Nx | apply Nb
     refine Sl [2, 3] (.cons rfl (.cons rfl .nil)) ?_
     repeat apply Sq
     apply Pn
     refine Jt (Z2p Za rfl) rfl ?_
     refine Jt (Z35 ZR rfl) rfl ?_
     refine Jt (ZW rfl (Z1U 19 [z1.1]) (.one rfl (.one rfl .nil))) rfl ?_
     refine JO.m (Z3 rfl rfl (by repeat first | exact .here | apply Ut) (by first | exact cI rfl rfl | exact cE) (by first | exact cI rfl rfl | exact cE | exact cO) Zn) (by rfl) ?_
     apply Ni
     repeat first | apply Nx | apply Nb
     refine Sl [2] (.cons rfl .nil) ?_
     repeat apply Sq
     apply Rt
     repeat first | apply Rp | apply Rb
     refine JX.toP ?_
     exact JX.retLCs (Lr := [_, _]) (L1 := fun z : Ex × List T3 => [PB T b z.2]) (R := fun z => .rep (ExR z.1)) rfl (nd 19 [z1.1], z2.2) (by rw [Z4R hnn, hz1]; show cmpP e z1.1 z1.2 = _; unfold cmpP; rw [hno]; dsimp only; rw [if_pos his, if_pos hi2, hz2]; rfl) (.refl _) rfl rfl hb0 rfl Za HasOwn.mem Z1l (Sub.refl _)
    ·
     try simp only [dT, dF] at ht37
     apply Sk
     repeat first | apply Nx | apply Nb
     have hi2 : isT 1 Z1R z1.2.tail = false := ht37
     rw [ZI hi2]
     repeat apply Sq
     apply Pn
     refine Jt (Z0 rfl) rfl ?_
     refine JO.callPK (Lr := [_, _]) (Zl T hc b (z1.2.tail) (Zi ((Z2R he _ _ hz1).1.trans hts)) Z3n (by decide +kernel) (by decide +kernel) (asc (by decide +kernel))) rfl (.refl _) (fun F hF => by repeat (first | (rcases Mc.1 hF with rfl | hF; · (repeat first | exact Mh | apply Mt)) | (cases hF; done))) (.one rfl (.one rfl .nil)) (fun hbad => ?_) ?_
     · exact JX.pnI (by rw [Z4R hnn, hz1]; show cmpP e z1.1 z1.2 = none; unfold cmpP; rw [hno]; dsimp only; rw [if_pos his, if_neg (by rw [hi2]; decide), hbad]; rfl)
     intro z2 hz2
     try dsimp only [nA, cA]
     apply Ni
     repeat first | apply Nx | apply Nb
     refine Sl [2, 3] (.cons rfl (.cons rfl .nil)) ?_
     repeat apply Sq
     apply Pn
     refine Jt (Z2p Za rfl) rfl ?_
     refine Jt (Z35 ZR rfl) rfl ?_
     refine Jt (ZW rfl (Z1U 18 [z1.1]) (.one rfl (.one rfl .nil))) rfl ?_
     refine JO.m (Z3 rfl rfl (by repeat first | exact .here | apply Ut) (by first | exact cI rfl rfl | exact cE) (by first | exact cI rfl rfl | exact cE | exact cO) Zn) (by rfl) ?_
     apply Ni
     repeat first | apply Nx | apply Nb
     refine Sl [2] (.cons rfl .nil) ?_
     repeat apply Sq
     apply Rt
     repeat first | apply Rp | apply Rb
     refine JX.toP ?_
     exact JX.retLCs (Lr := [_, _]) (L1 := fun z : Ex × List T3 => [PB T b z.2]) (R := fun z => .rep (ExR z.1)) rfl (nd 18 [z1.1], z2.2) (by rw [Z4R hnn, hz1]; show cmpP e z1.1 z1.2 = _; unfold cmpP; rw [hno]; dsimp only; rw [if_pos his, if_neg (by rw [hi2]; decide), hz2]; rfl) (.refl _) rfl rfl hb0 rfl Za HasOwn.mem Z1l (Sub.refl _)
theorem Z49 (T : Tk) (hc : T.ts.length ≤ T.cap) (b : Nat) (e : Ps Ex) (he : Dn0 e) (N : Nat) (hsum : ∀ ts, ts <:+ T.ts → ts.length ≤ N → CallP Tryz.prog Z28 [PB T b (ts)] [T.G, AF] [.is (.pointer (some ⟨b, 0, none⟩))] (sumP e (ts) = none) flt (fun z : Ex × List T3 => sumP e (ts) = some z) (fun z => [PB T b z.2]) (fun z => .rep (ExR z.1))) : ∀ n ts, ts <:+ T.ts → ts.length ≤ N → ts.length ≤ n → CallP Tryz.prog Z1t [PB T b (ts)] [T.G, AF] [.is (.pointer (some ⟨b, 0, none⟩))] (notP e (ts) = none) flt (fun z : Ex × List T3 => notP e (ts) = some z) (fun z => [PB T b z.2]) (fun z => .rep (ExR z.1))
 | n, ts, hts, hN, hn => Z5b T hc b ts hts e he (fun us hus hl => hsum us hus (by omega)) fun us hus hl => by
  cases n with
  | zero => omega
  | succ n => exact Z49 T hc b e he N hsum n us hus (by omega) (by omega)
end Go.Proofs.YtbedigkncjbggaaGreatDoor
