/- The parser: a source. No condition. -/
import Derived.Test.YtbedigkncjbggaaGreatDoorXQ5
import Derived.Test.YtbedigkncjbggaaGreatDoorXG7
import Derived.Test.YtbedigkncjbggaaGreatDoorXQ1
set_option maxRecDepth 20000
namespace Go.Proofs.YtbedigkncjbggaaGreatDoor
open Go Go.Vc
open Go.Pz
abbrev srcV (s : Pz.Src) : Value := .agg #[.string s.tb, .string s.nm, .slice none 0 0]
theorem Zed (z : List T3) : (isT 1 w_AS z ||(decide ((0 : Int) < (((skT 1 w_AS z).length : Nat) : Int)) && (((skT 1 w_AS z).headD t3D).k == 2))) = (isT 1 w_AS z || isK 2 z) := by
 rw [Z6R]
 cases h : isT 1 w_AS z with
 | true => rfl
 | false => rw [ZV h]
theorem Zcv {ts : List T3} {z : ByteArray × List T3} (hz : nameP ts = some z) (h : (isT 1 w_AS z.2 || isK 2 z.2) = true) : sourceP ts = (nameP (skT 1 w_AS z.2)).map fun m => (⟨z.1, m.1, []⟩, m.2) := by
 unfold sourceP
 rw [hz, Option.bind_some]
 cases ha : isT 1 w_AS z.2 with
 | true => rw [if_pos rfl, ZS ha]
 | false =>
   rw [ha, Bool.false_or] at h
   rw [if_neg qD, if_pos h, ZV ha]
theorem Zhg {ts : List T3} {z : ByteArray × List T3} (hz : nameP ts = some z) (h : (isT 1 w_AS z.2 || isK 2 z.2) = false) : sourceP ts = some (⟨z.1, z.1, []⟩, skT 1 w_AS z.2) := by
 unfold sourceP
 rw [Bool.or_eq_false_iff] at h
 rw [hz, Option.bind_some, if_neg (by rw [h.1]; decide), if_neg (by rw [h.2]; decide), ZV h.1]
theorem Z4u (T : Tk) (hc : T.ts.length ≤ T.cap) (b : Nat) (ts : List T3) (hts : ts <:+ T.ts)  : CallP Tryz.prog Z75 [PB T b ts] [T.G] [.is (.pointer (some ⟨b, 0, none⟩))] (sourceP ts = none) flt (fun z : Pz.Src × List T3 => sourceP ts = some z) (fun z => [PB T b z.2]) (fun z => .is (srcV z.1)) :=
CallP.of (fn := Tryz.f116) Tryz.func116 (n := 34) rfl rfl rfl (fun _ _ => by kernel_rfl) fun E W hb0 => by
 refine vQ ?_
 refine JO.alloc Z40 rfl fun b2 => ?_
 refine vP [0, 2] ?_
 refine Jm rfl ?_
 refine JO.callPK (Lr := [_]) (ZJ T hc b ts hts) rfl (.swap _ _ _) (Z6L qI) qA (fun hbad => ?_) ?_
 · exact JX.pnI (by unfold sourceP; rw [hbad]; rfl)
 intro z hz
 refine vD ?_
 have hz2 : z.2 <:+ T.ts := (ZA _ _ hz).1.trans hts
 refine Ja rfl ?_
 refine vP [0, 2, 3] ?_
 refine Jm rfl (Jm rfl (Jq (Zz (cs := [_, _, _]) Zce (.cons rfl (.cons rfl .nil)) rfl rfl) ?_))
 refine JO.alloc Z40 rfl fun b4 => ?_
 refine JO.m (Z3 rfl rfl qU qC qO Z3f) (by rfl) ?_
 refine vP [0, 2, 4] ?_
 refine Jm rfl ?_
 refine JO.callK (Lr := [_, _]) (Zi T hc b z.2 hz2 w_AS) rfl (.swap _ _ _) (Z6L qI) qA ?_
 intro _ _
 refine vD ?_
 have hu : skT 1 w_AS z.2 <:+ T.ts := (Z3q _ _ _).trans hz2
 refine Jm rfl ?_
 refine JO.tg rfl rfl rfl rfl rfl (fun hg => Z2 (.inl rfl)) ?_
 refine JO.tg rfl rfl rfl rfl rfl (fun hg => Z5 (qR rfl)) ?_
 refine JO.tg rfl rfl rfl rfl rfl (fun hg => Z0 Zl (qR rfl)) ?_
 refine JO.tg rfl rfl rfl rfl rfl (fun hg => Z1 Zx (qR rfl) rfl) ?_
 refine JO.tg rfl rfl rfl rfl rfl (fun hg => Zn Z13 (qR rfl)) ?_
 refine JO.tg rfl rfl rfl rfl rfl (fun hg => Z25 (qR rfl) (.inl rfl)) ?_
 refine JO.tg rfl rfl rfl rfl rfl (fun hg => Z2 (qR rfl)) ?_
 refine JO.tgg rfl rfl rfl rfl rfl (fun hg => Z2 (.inl rfl)) ?_
 refine JO.tgg rfl rfl rfl rfl rfl (fun hg => Z5 (qR rfl)) ?_
 refine JO.tgg rfl rfl rfl rfl rfl (fun hg => Z0 Zl (qR rfl)) ?_
 refine JO.tgg rfl rfl rfl rfl rfl (fun hg => Z1 Zx (qR rfl) rfl) ?_
 refine JO.tgg rfl rfl rfl rfl rfl (fun hg => Z7 Z12 (qR rfl) rfl (.inl rfl) qM (Z2K (Z2W hg.2))) ?_
 refine JO.tgg rfl rfl rfl rfl rfl (fun hg => Z0 Z35 (qR rfl)) ?_
 refine JO.tgg rfl rfl rfl rfl rfl (fun hg => ZH (enc := T3.cells) (sz := 3) (i := T.k (skT 1 w_AS z.2)) (j := 0) (y := (skT 1 w_AS z.2).headD t3D) (u := .int .i64 ((skT 1 w_AS z.2).headD t3D).k) Zt (qR rfl) qI rfl (Tk.head hu (Z2W hg.2)) (by rw [Tk.j_eq hc hu (Z2W hg.2)]; omega) rfl) ?_
 refine JO.tgg rfl rfl rfl rfl rfl (fun hg => ZK (qR rfl) (.inl rfl)) ?_
 refine JO.tg rfl rfl rfl rfl rfl (fun hg => ZP (qR rfl) (.inl rfl) (.inl rfl) (fun h => ⟨hg, h⟩)) ?_
 refine Jq (ZT rfl rfl rfl id) ?_
 refine vS [0, 2, 4, 29] ?_
 refine yC rfl (fun ht29 => ?_) (fun ht29 => ?_)
 try simp only [yd, yf] at ht29
 have hv : (isT 1 w_AS z.2 || isK 2 z.2) = true := by rw [← Zed]; exact ht29
 refine vQ ?_
 refine Jm rfl ?_
 refine JO.callPK (Lr := [_, _]) (ZJ T hc b (skT 1 w_AS z.2) hu) rfl (.refl _) (Z6L qI) qA (fun hbad => ?_) ?_
 · exact JX.pnI (by rw [Zcv hz hv, hbad]; rfl)
 intro y hy
 refine vD ?_
 refine Jq (Z0 Z2l rfl) ?_
 refine JO.m (Zk (cs' := [_, _, _]) rfl rfl qU rfl rfl rfl rfl Z54) (by rfl) ?_
 refine vP [2, 4] ?_
 refine Jq (ZF (cs := [_, _, _]) Z2R rfl rfl rfl) ?_
 refine JO.m (Z3 rfl rfl qU qC qO Z3f) (by rfl) ?_
 refine vS [2] ?_
 refine vR ?_
 refine JX.toP ?_
 exact JX.retLC (Lr := [_, _]) (L1 := fun z : Pz.Src × List T3 => [PB T b z.2]) (R := fun z => .is (srcV z.1)) rfl (⟨z.1, y.1, []⟩, y.2) (by rw [Zcv hz hv, hy]; rfl) (.refl _) rfl hb0 rfl Z2R HasOwn.mem rfl rfl
 try simp only [yd, yf] at ht29
 apply yK
 refine vN ?_
 apply yN
 refine Jq (ZF (cs := [_, _, _]) Z2R rfl rfl rfl) ?_
 refine JO.m (Z3 rfl rfl qU qC qO Z3f) (by rfl) ?_
 refine vS [2] ?_
 refine vR ?_
 refine JX.toP ?_
 have hv : (isT 1 w_AS z.2 || isK 2 z.2) = false := by rw [← Zed]; exact ht29
 exact JX.retLC (Lr := [_, _]) (L1 := fun z : Pz.Src × List T3 => [PB T b z.2]) (R := fun z => .is (srcV z.1)) rfl (⟨z.1, z.1, []⟩, skT 1 w_AS z.2) (Zhg hz hv) (.refl _) rfl hb0 rfl Z2R HasOwn.mem rfl rfl
abbrev fv (f : FuncId) : Value := .func (.func f) #[] #[]
theorem Z52 {k : Int} {ops : List (ByteArray × Int)} {i : Nat} (h : i < ops.length) (ts : List T3) : opOf k (ops.drop i) ts = if isT k (ops.getD i (em, 0)).1 ts then some (ops.getD i (em, 0)).2 else opOf k (ops.drop (i + 1)) ts := by
 rw [List.drop_eq_getElem_cons h, List.getD_eq_getElem?_getD, List.getElem?_eq_getElem h]
 rfl
theorem ZjW {ops : List (ByteArray × Int)} {i : Nat} (h : i < ops.length) : (ops.map (·.1))[i]? = some (ops.getD i (em, 0)).1 := by
 rw [List.getElem?_map, List.getD_eq_getElem?_getD, List.getElem?_eq_getElem h]; rfl
theorem ZjB {ops : List (ByteArray × Int)} {i : Nat} (h : i < ops.length) : (ops.map (·.2))[i]? = some (ops.getD i (em, 0)).2 := by
 rw [List.getElem?_map, List.getD_eq_getElem?_getD, List.getElem?_eq_getElem h]; rfl
def chI (p : Ps Ex) (kd : Int) (ops : List (ByteArray × Int)) (ts : List T3) (s : Bool × Ex × List T3) : Prop := if s.1 = true then chainP p kd ops ts = chainC p kd ops s.2.1 s.2.2 else chainP p kd ops ts = some (s.2.1, s.2.2)
theorem Z2z (T : Tk) (hc : T.ts.length ≤ T.cap) (b : Nat) (ts : List T3) (hts : ts <:+ T.ts) (p : Ps Ex) (hpd : Dn p) (kd : Int) (ops : List (ByteArray × Int)) (h63 : ops.length ≤ 9223372036854775806) (fp : FuncId) (hpart : ∀ us, us <:+ T.ts → us.length ≤ ts.length → CallP Tryz.prog fp [PB T b (us)] [T.G, AF] [.is (.pointer (some ⟨b, 0, none⟩))] (p (us) = none) flt (fun z : Ex × List T3 => p (us) = some z) (fun z => [PB T b z.2]) (fun z => .rep (ExR z.1))) : CallP Tryz.prog Z7u [PB T b ts] [T.G, AF] [.is (.pointer (some ⟨b, 0, none⟩)), .is (fv fp), .is (.int .i64 kd), .rep (SlG sC 1 (ops.map (·.1))), .rep (SlG iC 1 (ops.map (·.2)))] (chainP p kd ops ts = none) flt (fun z : Ex × List T3 => chainP p kd ops ts = some z) (fun z => [PB T b z.2]) (fun z => .rep (ExR z.1)) :=
CallP.of (fn := Tryz.f145) Tryz.func145 (n := 42) rfl rfl rfl (fun _ _ => by kernel_rfl) fun E W hb0 => by
 refine J.openSl (s := 3) rfl (fun a3 l3 c3 b3 o3 hl3 ha3 => ?_)
 refine J.openSl (s := 4) rfl (fun a4 l4 c4 b4 o4 hl4 ha4 => ?_)
 rw [List.length_map] at hl3 hl4
 subst hl3 hl4
 refine vQ ?_
 refine JO.alloc ZZ rfl fun b10 => ?_
 refine vP [0, 1, 2, 3, 4, 10] ?_
 refine Jm rfl (Jm rfl ?_)
 refine JO.callPvK (cp := []) (Lr := [_]) rfl (hpart ts hts (Nat.le_refl _)) rfl (.swap _ _ _) qF (.one rfl .nil) (fun hbad => ?_) ?_
 · exact JX.pnI (by unfold chainP; rw [hbad]; rfl)
 intro z1 hz1
 refine vD ?_
 refine JO.alloc ZZ rfl fun b11 => ?_
 refine JO.m (Z3 rfl rfl qU qC qO Zo) (by rfl) ?_
 refine vP [0, 1, 2, 3, 4, 10, 11] ?_
 refine Ja rfl ?_
 refine vS [0, 1, 2, 3, 4, 10, 11, 12] ?_
 apply yk
 repeat apply yQ
 refine J.loopG (α := Bool × Ex × List T3) (fun s => [(0, .is (.pointer (some ⟨b, 0, none⟩))), (1, .is (fv fp)), (2, .is (.int .i64 kd)), (3, .is (.slice a3 ops.length c3)), (4, .is (.slice a4 ops.length c4)), (10, .is (.pointer (some ⟨b10, 0, none⟩))), (11, .is (.pointer (some ⟨b11, 0, none⟩))), (12, .is (.bool s.1))]) (fun s => [⟨b11, Z6, .rep (ExR s.2.1)⟩, PB T b s.2.2, ⟨b10, Z6, .is (.agg #[.int .i64 0, .int .i64 0, .int .i64 0, .string ⟨#[]⟩, .string ⟨#[]⟩, .string ⟨#[]⟩, .int .i64 0, .slice none 0 0])⟩]) (fun s => fun _ => True) (fun s => s.2.2 <:+ T.ts ∧ s.2.2.length ≤ ts.length ∧ chI p kd ops ts s) (fun s => 2 * s.2.2.length + s.1.toNat) (true, z1.1, z1.2) [0, 1, 2, 3, 4, 10, 11, 12] (.cons rfl (.cons rfl (.cons rfl (.cons rfl (.cons rfl (.cons rfl (.cons rfl (.cons rfl .nil)))))))) rfl (fun _ => trivial) ⟨((hpd _ _ hz1).1.trans hts), (hpd _ _ hz1).1.length_le, by unfold chI; rw [if_pos rfl]; unfold chainP; rw [hz1]; rfl⟩ fun ⟨mo, x, us⟩ ⟨hus, hul, hI⟩ => ?_
 try dsimp only
 try dsimp only at x
 try dsimp only at us
 try dsimp only at hus
 try dsimp only at hul
 try dsimp only at hI
 refine vQ ?_
 refine Jm rfl ?_
 refine vS [0, 1, 2, 3, 4, 10, 11, 18] ?_
 refine yC rfl (fun ht18 => ?_) (fun ht18 => ?_)
 try simp only [yd, yf] at ht18
 apply yK
 refine vN ?_
 apply yk
 obtain rfl : mo = true := ht18
 rw [chI, if_pos rfl] at hI
 refine vQ ?_
 refine Ja rfl ?_
 refine vP [0, 1, 2, 3, 4, 10, 11, 12] ?_
 refine Jm rfl (Jq (Zn ZW rfl) ?_)
 refine Jm rfl ?_
 refine vS [0, 1, 2, 3, 4, 10, 11, 12, 19, 20, 21] ?_
 apply yk
 repeat apply yQ
 refine J.loopG (α := Nat) (fun i => [(0, .is (.pointer (some ⟨b, 0, none⟩))), (1, .is (fv fp)), (2, .is (.int .i64 kd)), (3, .is (.slice a3 ops.length c3)), (4, .is (.slice a4 ops.length c4)), (10, .is (.pointer (some ⟨b10, 0, none⟩))), (11, .is (.pointer (some ⟨b11, 0, none⟩))), (12, .is (.bool false)), (19, .is (.slice a3 ops.length c3)), (20, .is (.int .i64 (ops.length : Int))), (21, .is (.int .i64 (i : Int)))]) (fun i => [⟨b11, Z6, .rep (ExR x)⟩, PB T b us, ⟨b10, Z6, .is (.agg #[.int .i64 0, .int .i64 0, .int .i64 0, .string ⟨#[]⟩, .string ⟨#[]⟩, .string ⟨#[]⟩, .int .i64 0, .slice none 0 0])⟩]) (fun i => fun _ => True) (fun i => i ≤ ops.length ∧ opOf kd (ops.drop i) us = opOf kd ops us) (fun i => ops.length - i) 0 [0, 1, 2, 3, 4, 10, 11, 12, 19, 20, 21] (.cons rfl (.cons rfl (.cons rfl (.cons rfl (.cons rfl (.cons rfl (.cons rfl (.cons rfl (.cons rfl (.cons rfl (.cons rfl .nil))))))))))) rfl (fun _ => trivial) ⟨by omega, rfl⟩ fun i ⟨hi, hO⟩ => ?_
 try dsimp only
 try dsimp only at hi
 try dsimp only at hO
 refine vQ ?_
 refine Jq (ZU rfl rfl) ?_
 refine vS [0, 1, 2, 3, 4, 10, 11, 12, 19, 20, 21, 22] ?_
 refine yC rfl (fun ht22 => ?_) (fun ht22 => ?_)
 try simp only [yd, yf] at ht22
 apply yK
 refine vN ?_
 apply yk
 refine vQ ?_
 refine Jm rfl (Jq (Z7 Z1x rfl (ha3 qM) rfl qM qM) ?_)
 refine Jq (ZH (enc := sC) (sz := 1) (i := i) (j := 0) (y := (ops.getD i (em, 0)).1) (u := .string (ops.getD i (em, 0)).1) Z8 rfl qI (ha3 qM) (ZjW qM) qM rfl) ?_
 refine Ja rfl (Ja rfl ?_)
 refine vP [0, 1, 2, 3, 4, 10, 11, 12, 13, 14, 19, 20, 21] ?_
 refine Jm rfl (Jm rfl (Jm rfl ?_))
 refine JO.callK (Lr := [_, _]) (Z3x T hc b us hus kd (ops.getD i (em, 0)).1) rfl (.swap _ _ _) qF qA ?_
 intro _ _
 refine vD ?_
 refine vS [0, 1, 2, 3, 4, 10, 11, 12, 13, 19, 20, 21, 29] ?_
 refine yC rfl (fun ht29 => ?_) (fun ht29 => ?_)
 try simp only [yd, yf] at ht29
 have hit : isT kd (ops.getD i (em, 0)).1 us = true := ht29
 have hop : opOf kd ops us = some (ops.getD i (em, 0)).2 := by rw [← hO, Z52 qM, if_pos hit]
 rw [ZS hit]
 repeat apply yQ
 refine J.regBgPm (Bad := p us.tail = none) (ch := flt) (G := { z : Ex × List T3 // p us.tail = some z }) 7 9 (fun hbad => ?_) (fun g => .rep (ExR g.1.1)) (fun g => [PB T b g.1.2] ++ [⟨b11, Z6, .rep (ExR x)⟩, ⟨b10, Z6, .is (.agg #[.int .i64 0, .int .i64 0, .int .i64 0, .string ⟨#[]⟩, .string ⟨#[]⟩, .string ⟨#[]⟩, .int .i64 0, .slice none 0 0])⟩]) ([⟨b11, Z6, .rep (ExR x)⟩, ⟨b10, Z6, .is (.agg #[.int .i64 0, .int .i64 0, .int .i64 0, .string ⟨#[]⟩, .string ⟨#[]⟩, .string ⟨#[]⟩, .int .i64 0, .slice none 0 0])⟩]) rfl rfl rfl rfl hmx qK rfl qK (fun _ h => List.mem_cons_of_mem _ h) (fun g o ho => List.mem_cons_of_mem _ ho) qK ?_
 · exact JX.pnI (by show chainP p kd ops ts = none; rw [hI, Z8l hpd hop, hbad]; rfl)
 refine yz (Z2 rfl) ?_
 refine yz (Z2 rfl) ?_
 refine yz (Z7 Zgs rfl (ha4 qM) rfl qM qM) ?_
 refine yz (ZH (enc := iC) (sz := 1) (i := i) (j := 0) (y := (ops.getD i (em, 0)).2) (u := .int .i64 (ops.getD i (em, 0)).2) Zt rfl qI (ha4 qM) (ZjB qM) qM rfl) ?_
 refine yz (Z2M Z9 rfl) ?_
 refine yz (Z2 rfl) ?_
 refine yz (Z2 rfl) ?_
 refine RT.biggP (Lq := [⟨b11, Z6, .rep (ExR x)⟩, ⟨b10, Z6, .is (.agg #[.int .i64 0, .int .i64 0, .int .i64 0, .string ⟨#[]⟩, .string ⟨#[]⟩, .string ⟨#[]⟩, .int .i64 0, .slice none 0 0])⟩]) (ZaN (cp := []) rfl (hpart us.tail (Zm hus) (by have := (Zy hit).2; omega)) (.refl _) qF (.one rfl .nil)) (fun g => ?_)
 refine yz (Za4 ZR rfl rfl) ?_
 apply yn
 obtain ⟨z, hg2⟩ := g
 try dsimp only
 have hlt := (Zy hit).2
 refine Jq (ZI rfl (Z2G (ops.getD i (em, 0)).2 [x, z.1]) qA) ?_
 refine JO.m (Z3 rfl rfl qU qC qO Zo) (by rfl) ?_
 refine Ja rfl ?_
 refine vS [0, 1, 2, 3, 4, 10, 11, 12] ?_
 refine J.exit ?_
 repeat first|refine yH ?_|refine yM rfl ?_|refine yE ?_
 repeat first|apply yX|apply yB
 repeat refine JX.normal_block ?_
 refine JX.roundG (x := (true, x, us)) (true, nd (ops.getD i (em, 0)).2 [x, z.1], z.2) ?_ ?_ [0, 1, 2, 3, 4, 10, 11, 12] ?_ ?_ ?_ ?_
 · exact ⟨((hpd _ _ hg2).1.trans (Zm hus)), (by have := (hpd _ _ hg2).2; show z.2.length ≤ ts.length; omega), by unfold chI; rw [if_pos rfl]; rw [hI, Z8l hpd hop, hg2]; rfl⟩
 · exact (by have := (hpd _ _ hg2).2; show 2 * z.2.length + 1 < 2 * us.length + true.toNat; simp; omega)
 · exact qS
 · exact qH
 · exact qG
 · exact fun _ _ _ => fun _ _ => trivial
 try simp only [yd, yf] at ht29
 apply yK
 repeat first|apply yX|apply yB
 rw [ZV ht29]
 refine vQ ?_
 refine Jq (ZD (cc := ((i + 1 : Nat) : Int)) rfl rfl qM qM qM) ?_
 refine Jm rfl ?_
 apply yI
 repeat refine JX.normal_block ?_
 refine JX.roundG (x := i) (i + 1) ?_ ?_ [0, 1, 2, 3, 4, 10, 11, 12, 19, 20, 21] ?_ ?_ ?_ ?_
 · exact ⟨by omega, by rw [← hO, Z52 (i := i) qM, if_neg (by rw [ht29]; decide)]⟩
 · exact qM
 · exact qS
 · exact qH
 · exact qG
 · exact fun _ _ _ => fun _ _ => trivial
 try simp only [yd, yf] at ht22
 repeat apply yQ
 refine J.exit ?_
 repeat first|refine yH ?_|refine yM rfl ?_|refine yE ?_
 repeat first|apply yX|apply yB
 repeat refine JX.normal_block ?_
 refine JX.roundG (x := (true, x, us)) (false, x, us) ?_ ?_ [0, 1, 2, 3, 4, 10, 11, 12] ?_ ?_ ?_ ?_
 · exact ⟨hus, hul, by unfold chI; rw [if_neg (by exact Bool.false_ne_true)]; rw [hI]; exact Z9x (by rw [← hO, List.drop_eq_nil_of_le qM]; rfl)⟩
 · exact (by show 2 * us.length + 0 < 2 * us.length + true.toNat; simp)
 · exact qS
 · exact qH
 · exact qG
 · exact fun _ _ _ => fun _ _ => trivial
 try simp only [yd, yf] at ht18
 repeat apply yQ
 refine J.exit ?_
 repeat first|refine yH ?_|refine yM rfl ?_|refine yE ?_
 repeat first|apply yX|apply yB
 obtain rfl : mo = false := ht18
 rw [chI, if_neg (by exact Bool.false_ne_true)] at hI
 refine vQ ?_
 refine Jq (Z2M Z9 rfl) ?_
 refine JO.m (Z3 rfl rfl qU qC qO Zo) (by rfl) ?_
 refine vS [10] ?_
 refine vR ?_
 refine JX.toP ?_
 exact JX.retLCs (Lr := [_, _]) (L1 := fun z : Ex × List T3 => [PB T b z.2]) (R := fun z => .rep (ExR z.1)) rfl (x, us) hI (.swap _ _ _) rfl rfl hb0 rfl Z9 HasOwn.mem Z1I (Sub.refl _)
theorem Z6H (T : Tk) (hc : T.ts.length ≤ T.cap) (b : Nat) (ts : List T3) (hts : ts <:+ T.ts) (e : Ps Ex) (he : Dn0 e) (hpart : ∀ us, us <:+ T.ts → us.length ≤ ts.length → CallP Tryz.prog Z1G [PB T b (us)] [T.G, AF] [.is (.pointer (some ⟨b, 0, none⟩))] (factorP e (us) = none) flt (fun z : Ex × List T3 => factorP e (us) = some z) (fun z => [PB T b z.2]) (fun z => .rep (ExR z.1))) : CallP Tryz.prog Z2i [PB T b ts] [T.G, AF] [.is (.pointer (some ⟨b, 0, none⟩))] (prodP e ts = none) flt (fun z : Ex × List T3 => prodP e ts = some z) (fun z => [PB T b z.2]) (fun z => .rep (ExR z.1)) :=
CallP.of (fn := Tryz.f189) Tryz.func189 (n := 7) rfl rfl rfl (fun _ _ => by kernel_rfl) fun E W hb0 => by
 refine vQ ?_
 refine JO.alloc ZZ rfl fun b2 => ?_
 refine vP [0, 2] ?_
 refine Jm rfl (Jq (ZE (cs := [_, _, _]) Z1c qM qM (.cons rfl (.cons rfl (.cons rfl .nil))) rfl rfl rfl) ?_)
 refine Jq (ZE (cs := [_, _, _]) Z7k qM qM (.cons rfl (.cons rfl (.cons rfl .nil))) rfl rfl rfl) ?_
 refine JO.callPK (Lr := [_]) (Z2z T hc b ts hts (factorP e) (Z3U he) 5 mulO qD Z1G hpart) rfl (.swap _ _ _) qF (.one rfl (.one rfl (.one rfl (.sub rfl (Sub.newSlG (en := sC) (sz := 1) (xs := [Z17, Z21, Z37]) (fun _ => rfl) rfl rfl) (.sub rfl (Sub.newSlG (en := iC) (sz := 1) (xs := [7, 8, 9]) (fun _ => rfl) rfl rfl) .nil))))) (fun hbad => ?_) ?_
 · exact JX.pnI (hbad)
 intro z hz
 refine vD ?_
 refine JO.m (Z3 rfl rfl qU qC qO Zo) (by rfl) ?_
 refine vS [2] ?_
 refine vR ?_
 refine JX.toP ?_
 exact JX.retLCs (Lr := [_]) (L1 := fun z : Ex × List T3 => [PB T b z.2]) (R := fun z => .rep (ExR z.1)) rfl z hz (.refl _) rfl rfl hb0 rfl Z9 HasOwn.mem Z1I (Sub.refl _)
theorem Z8K (T : Tk) (hc : T.ts.length ≤ T.cap) (b : Nat) (ts : List T3) (hts : ts <:+ T.ts) (e : Ps Ex) (he : Dn0 e) (hpart : ∀ us, us <:+ T.ts → us.length ≤ ts.length → CallP Tryz.prog Z2i [PB T b (us)] [T.G, AF] [.is (.pointer (some ⟨b, 0, none⟩))] (prodP e (us) = none) flt (fun z : Ex × List T3 => prodP e (us) = some z) (fun z => [PB T b z.2]) (fun z => .rep (ExR z.1))) : CallP Tryz.prog Z2V [PB T b ts] [T.G, AF] [.is (.pointer (some ⟨b, 0, none⟩))] (sumP e ts = none) flt (fun z : Ex × List T3 => sumP e ts = some z) (fun z => [PB T b z.2]) (fun z => .rep (ExR z.1)) :=
CallP.of (fn := Tryz.f178) Tryz.func178 (n := 7) rfl rfl rfl (fun _ _ => by kernel_rfl) fun E W hb0 => by
 refine vQ ?_
 refine JO.alloc ZZ rfl fun b2 => ?_
 refine vP [0, 2] ?_
 refine Jm rfl (Jq (ZE (cs := [_, _]) Z1c qM qM (.cons rfl (.cons rfl .nil)) rfl rfl rfl) ?_)
 refine Jq (ZE (cs := [_, _]) Z7k qM qM (.cons rfl (.cons rfl .nil)) rfl rfl rfl) ?_
 refine JO.callPK (Lr := [_]) (Z2z T hc b ts hts (prodP e) (Z5M he) 5 addO qD Z2i hpart) rfl (.swap _ _ _) qF (.one rfl (.one rfl (.one rfl (.sub rfl (Sub.newSlG (en := sC) (sz := 1) (xs := [Z2s, Z1d]) (fun _ => rfl) rfl rfl) (.sub rfl (Sub.newSlG (en := iC) (sz := 1) (xs := [5, 6]) (fun _ => rfl) rfl rfl) .nil))))) (fun hbad => ?_) ?_
 · exact JX.pnI (hbad)
 intro z hz
 refine vD ?_
 refine JO.m (Z3 rfl rfl qU qC qO Zo) (by rfl) ?_
 refine vS [2] ?_
 refine vR ?_
 refine JX.toP ?_
 exact JX.retLCs (Lr := [_]) (L1 := fun z : Ex × List T3 => [PB T b z.2]) (R := fun z => .rep (ExR z.1)) rfl z hz (.refl _) rfl rfl hb0 rfl Z9 HasOwn.mem Z1I (Sub.refl _)
theorem Z8H (T : Tk) (hc : T.ts.length ≤ T.cap) (b : Nat) (ts : List T3) (hts : ts <:+ T.ts) (e : Ps Ex) (he : Dn0 e) (hpart : ∀ us, us <:+ T.ts → us.length ≤ ts.length → CallP Tryz.prog Z1X [PB T b (us)] [T.G, AF] [.is (.pointer (some ⟨b, 0, none⟩))] (notP e (us) = none) flt (fun z : Ex × List T3 => notP e (us) = some z) (fun z => [PB T b z.2]) (fun z => .rep (ExR z.1))) : CallP Tryz.prog Z2Z [PB T b ts] [T.G, AF] [.is (.pointer (some ⟨b, 0, none⟩))] (andP e ts = none) flt (fun z : Ex × List T3 => andP e ts = some z) (fun z => [PB T b z.2]) (fun z => .rep (ExR z.1)) :=
CallP.of (fn := Tryz.f146) Tryz.func146 (n := 7) rfl rfl rfl (fun _ _ => by kernel_rfl) fun E W hb0 => by
 refine vQ ?_
 refine JO.alloc ZZ rfl fun b2 => ?_
 refine vP [0, 2] ?_
 refine Jm rfl (Jq (ZE (cs := [_]) Z1c qM qM (.cons rfl .nil) rfl rfl rfl) ?_)
 refine Jq (ZE (cs := [_]) Z7k qM qM (.cons rfl .nil) rfl rfl rfl) ?_
 refine JO.callPK (Lr := [_]) (Z2z T hc b ts hts (notP e) (Z5B he) 1 [(Z1P, 16)] qD Z1X hpart) rfl (.swap _ _ _) qF (.one rfl (.one rfl (.one rfl (.sub rfl (Sub.newSlG (en := sC) (sz := 1) (xs := [Z1P]) (fun _ => rfl) rfl rfl) (.sub rfl (Sub.newSlG (en := iC) (sz := 1) (xs := [16]) (fun _ => rfl) rfl rfl) .nil))))) (fun hbad => ?_) ?_
 · exact JX.pnI (hbad)
 intro z hz
 refine vD ?_
 refine JO.m (Z3 rfl rfl qU qC qO Zo) (by rfl) ?_
 refine vS [2] ?_
 refine vR ?_
 refine JX.toP ?_
 exact JX.retLCs (Lr := [_]) (L1 := fun z : Ex × List T3 => [PB T b z.2]) (R := fun z => .rep (ExR z.1)) rfl z hz (.refl _) rfl rfl hb0 rfl Z9 HasOwn.mem Z1I (Sub.refl _)
theorem Z7H (T : Tk) (hc : T.ts.length ≤ T.cap) (b : Nat) (ts : List T3) (hts : ts <:+ T.ts) (e : Ps Ex) (he : Dn0 e) (hpart : ∀ us, us <:+ T.ts → us.length ≤ ts.length → CallP Tryz.prog Z2Z [PB T b (us)] [T.G, AF] [.is (.pointer (some ⟨b, 0, none⟩))] (andP e (us) = none) flt (fun z : Ex × List T3 => andP e (us) = some z) (fun z => [PB T b z.2]) (fun z => .rep (ExR z.1))) : CallP Tryz.prog ZG [PB T b ts] [T.G, AF] [.is (.pointer (some ⟨b, 0, none⟩))] (orP e ts = none) flt (fun z : Ex × List T3 => orP e ts = some z) (fun z => [PB T b z.2]) (fun z => .rep (ExR z.1)) :=
CallP.of (fn := Tryz.f113) Tryz.func113 (n := 7) rfl rfl rfl (fun _ _ => by kernel_rfl) fun E W hb0 => by
 refine vQ ?_
 refine JO.alloc ZZ rfl fun b2 => ?_
 refine vP [0, 2] ?_
 refine Jm rfl (Jq (ZE (cs := [_]) Z1c qM qM (.cons rfl .nil) rfl rfl rfl) ?_)
 refine Jq (ZE (cs := [_]) Z7k qM qM (.cons rfl .nil) rfl rfl rfl) ?_
 refine JO.callPK (Lr := [_]) (Z2z T hc b ts hts (andP e) (Z6t he) 1 [(w_OR, 17)] qD Z2Z hpart) rfl (.swap _ _ _) qF (.one rfl (.one rfl (.one rfl (.sub rfl (Sub.newSlG (en := sC) (sz := 1) (xs := [w_OR]) (fun _ => rfl) rfl rfl) (.sub rfl (Sub.newSlG (en := iC) (sz := 1) (xs := [17]) (fun _ => rfl) rfl rfl) .nil))))) (fun hbad => ?_) ?_
 · exact JX.pnI (hbad)
 intro z hz
 refine vD ?_
 refine JO.m (Z3 rfl rfl qU qC qO Zo) (by rfl) ?_
 refine vS [2] ?_
 refine vR ?_
 refine JX.toP ?_
 exact JX.retLCs (Lr := [_]) (L1 := fun z : Ex × List T3 => [PB T b z.2]) (R := fun z => .rep (ExR z.1)) rfl z hz (.refl _) rfl rfl hb0 rfl Z9 HasOwn.mem Z1I (Sub.refl _)
theorem Zgp {e : Ps Ex} {ts : List T3} (h : isT 1 Z1i ts = true) : notP e ts = (notP e ts.tail).map fun z => (nd 4 [z.1], z.2) := by
 obtain ⟨t, r, rfl, _⟩ := Z4J h
 rw [notP, if_pos h]; rfl
theorem Z5h {e : Ps Ex} {ts : List T3} (h : isT 1 Z1i ts = false) : notP e ts = (sumP e ts).bind fun z => cmpP e z.1 z.2 := by
 cases ts with
 | nil => rw [notP]
 | cons t r => rw [notP, if_neg (by rw [h]; decide)]
abbrev cmpV : List Value := [.string s_eq, .string s_ne, .string s_lt, .string s_le, .string s_gt, .string s_ge]
theorem Zjh {i : Nat} (h : i < 6) : cmpV[0 + ((i : Nat) : Int).toNat * 1]? = some (.string (cmpO.getD i (em, 0)).1) := by
 match i, h with
 | 0, _ => rfl
 | 1, _ => rfl
 | 2, _ => rfl
 | 3, _ => rfl
 | 4, _ => rfl
 | 5, _ => rfl
theorem ZjH {i : Nat} (h : i < 6) : IntKind.i64.wrap (10 + ((i : Nat) : Int)) = (cmpO.getD i (em, 0)).2 := by
 match i, h with
 | 0, _ => rfl
 | 1, _ => rfl
 | 2, _ => rfl
 | 3, _ => rfl
 | 4, _ => rfl
 | 5, _ => rfl
theorem asc {s : ByteArray} (h : s.data.toList.all (fun b => decide (b.toNat < 128)) = true) (j : Nat) (b : UInt8) (hb : s.data.toList[j]? = some b) : b.toNat < 128 := of_decide_eq_true (List.all_eq_true.1 h b (List.mem_of_getElem? hb))
theorem Z6q (T : Tk) (hc : T.ts.length ≤ T.cap) (b : Nat) (ts : List T3) (hts : ts <:+ T.ts) (e : Ps Ex) (he : Dn0 e) (hsum : ∀ us, us <:+ T.ts → us.length ≤ ts.length → CallP Tryz.prog Z2V [PB T b (us)] [T.G, AF] [.is (.pointer (some ⟨b, 0, none⟩))] (sumP e (us) = none) flt (fun z : Ex × List T3 => sumP e (us) = some z) (fun z => [PB T b z.2]) (fun z => .rep (ExR z.1))) (ih : ∀ us, us <:+ T.ts → us.length < ts.length → CallP Tryz.prog Z1X [PB T b (us)] [T.G, AF] [.is (.pointer (some ⟨b, 0, none⟩))] (notP e (us) = none) flt (fun z : Ex × List T3 => notP e (us) = some z) (fun z => [PB T b z.2]) (fun z => .rep (ExR z.1))) : CallP Tryz.prog Z1X [PB T b ts] [T.G, AF] [.is (.pointer (some ⟨b, 0, none⟩))] (notP e ts = none) flt (fun z : Ex × List T3 => notP e ts = some z) (fun z => [PB T b z.2]) (fun z => .rep (ExR z.1)) :=
CallP.of (fn := Tryz.f165) Tryz.func165 (n := 48) rfl rfl rfl (fun _ _ => by kernel_rfl) fun E W hb0 => by
 refine vQ ?_
 refine JO.alloc ZZ rfl fun b2 => ?_
 refine vP [0, 2] ?_
 refine Jm rfl ?_
 refine JO.callK (Lr := [_]) (Zi T hc b ts hts Z1i) rfl (.swap _ _ _) qF qA ?_
 intro _ _
 refine vD ?_
 refine vS [0, 2, 7] ?_
 refine yC rfl (fun ht7 => ?_) (fun ht7 => ?_)
 try simp only [yd, yf] at ht7
 have hnn : isT 1 Z1i ts = true := ht7
 rw [ZS hnn]
 refine vQ ?_
 refine Jm rfl ?_
 refine JO.callPK (Lr := [_]) (ih ts.tail (Zm hts) (Zy hnn).2) rfl (.refl _) qF qA (fun hbad => ?_) ?_
 · exact JX.pnI (by rw [Zgp hnn, hbad]; rfl)
 intro z hz
 refine vD ?_
 refine Jq (Z44 ZR rfl) ?_
 refine Jq (ZI rfl (Z2G 4 [z.1]) qA) ?_
 refine JO.m (Z3 rfl rfl qU qC qO Zo) (by rfl) ?_
 refine vS [2] ?_
 refine vR ?_
 refine JX.toP ?_
 exact JX.retLCs (Lr := [_]) (L1 := fun z : Ex × List T3 => [PB T b z.2]) (R := fun z => .rep (ExR z.1)) rfl (nd 4 [z.1], z.2) (by rw [Zgp hnn, hz]; rfl) (.refl _) rfl rfl hb0 rfl Z9 HasOwn.mem Z1I (Sub.refl _)
 try simp only [yd, yf] at ht7
 apply yK
 repeat first|apply yX|apply yB
 have hnn : isT 1 Z1i ts = false := ht7
 rw [ZV hnn]
 refine vQ ?_
 refine Jm rfl ?_
 refine JO.callPK (Lr := [_]) (hsum ts hts (Nat.le_refl _)) rfl (.refl _) qF qA (fun hbad => ?_) ?_
 · exact JX.pnI (by rw [Z5h hnn, hbad]; rfl)
 intro z1 hz1
 refine vD ?_
 refine JO.alloc ZZ rfl fun b3 => ?_
 refine JO.m (Z3 rfl rfl qU qC qO Zo) (by rfl) ?_
 refine vP [0, 2, 3] ?_
 refine Jq (ZE (cs := [_, _, _, _, _, _]) Z1c qM qM (.cons rfl (.cons rfl (.cons rfl (.cons rfl (.cons rfl (.cons rfl .nil)))))) rfl rfl rfl) ?_
 refine JO.openNew (s := 14) rfl (fun r14 => ?_)
 refine Jq (Zn ZW rfl) ?_
 refine Jm rfl ?_
 refine vS [0, 2, 3, 14, 15, 16] ?_
 apply yk
 repeat apply yQ
 refine J.loopG (α := Nat) (fun i => [(0, .is (.pointer (some ⟨b, 0, none⟩))), (2, .is (.pointer (some ⟨b2, 0, none⟩))), (3, .is (.pointer (some ⟨b3, 0, none⟩))), (14, .is (.slice (some ⟨r14, 0, none⟩) 6 6)), (15, .is (.int .i64 6)), (16, .is (.int .i64 (i : Int)))]) (fun i => [⟨b3, Z6, .rep (ExR z1.1)⟩, PB T b z1.2, ⟨b2, Z6, .is (.agg #[.int .i64 0, .int .i64 0, .int .i64 0, .string ⟨#[]⟩, .string ⟨#[]⟩, .string ⟨#[]⟩, .int .i64 0, .slice none 0 0])⟩]) (fun i => fun _ => True) (fun i => i ≤ 6 ∧ opOf 5 (cmpO.drop i) z1.2 = opOf 5 cmpO z1.2) (fun i => 6 - i) 0 [0, 2, 3, 14, 15, 16] (.cons rfl (.cons rfl (.cons rfl (.cons rfl (.cons rfl (.cons rfl .nil)))))) rfl (fun _ => trivial) ⟨by omega, rfl⟩ fun i ⟨hi, hO⟩ => ?_
 try dsimp only
 try dsimp only at hi
 try dsimp only at hO
 refine vQ ?_
 refine Jq (ZU rfl rfl) ?_
 refine vS [0, 2, 3, 14, 15, 16, 17] ?_
 refine yC rfl (fun ht17 => ?_) (fun ht17 => ?_)
 try simp only [yd, yf] at ht17
 apply yK
 refine vN ?_
 apply yk
 refine vQ ?_
 refine Jm rfl (Jq (Z7 Z1x rfl rfl rfl qM qM) ?_)
 refine Jq (Z7M (cs := cmpV) (u := .string (cmpO.getD i (em, 0)).1) Z8 rfl qI (Zjh qM)) ?_
 refine Ja rfl (Ja rfl ?_)
 refine vP [0, 2, 3, 4, 5, 14, 15, 16] ?_
 refine Jm rfl (Jm rfl ?_)
 refine JO.callK (Lr := [_, _]) (Ze T hc b z1.2 ((Z2t he _ _ hz1).1.trans hts) (cmpO.getD i (em, 0)).1) rfl (.swap _ _ _) qF qA ?_
 intro _ _
 refine vD ?_
 refine vS [0, 2, 3, 4, 14, 15, 16, 23] ?_
 refine yC rfl (fun ht23 => ?_) (fun ht23 => ?_)
 try simp only [yd, yf] at ht23
 have hit : isT 5 (cmpO.getD i (em, 0)).1 z1.2 = true := ht23
 have hop : opOf 5 cmpO z1.2 = some (cmpO.getD i (em, 0)).2 := by rw [← hO, Z52 (ops := cmpO) (by show i < 6; omega), if_pos hit]
 rw [ZS hit]
 repeat apply yQ
 refine J.regBgPm (Bad := sumP e z1.2.tail = none) (ch := flt) (G := { z : Ex × List T3 // sumP e z1.2.tail = some z }) 4 6 (fun hbad => ?_) (fun g => .rep (ExR g.1.1)) (fun g => [PB T b g.1.2] ++ [⟨b3, Z6, .rep (ExR z1.1)⟩, ⟨b2, Z6, .is (.agg #[.int .i64 0, .int .i64 0, .int .i64 0, .string ⟨#[]⟩, .string ⟨#[]⟩, .string ⟨#[]⟩, .int .i64 0, .slice none 0 0])⟩]) ([⟨b3, Z6, .rep (ExR z1.1)⟩, ⟨b2, Z6, .is (.agg #[.int .i64 0, .int .i64 0, .int .i64 0, .string ⟨#[]⟩, .string ⟨#[]⟩, .string ⟨#[]⟩, .int .i64 0, .slice none 0 0])⟩]) rfl rfl rfl rfl hmx qK rfl qK (fun _ h => List.mem_cons_of_mem _ h) (fun g o ho => List.mem_cons_of_mem _ ho) qK ?_
 · exact JX.pnI (by rw [Z5h hnn, hz1]; show cmpP e z1.1 z1.2 = none; unfold cmpP; rw [hop]; dsimp only; rw [hbad]; rfl)
 refine yz (Z2 rfl) ?_
 refine yz (ZiG (cc := (cmpO.getD i (em, 0)).2) rfl rfl (ZjH qM)) ?_
 refine yz (Z2M Z9 rfl) ?_
 refine yz (Z2 rfl) ?_
 refine RT.biggP (Lq := [⟨b3, Z6, .rep (ExR z1.1)⟩, ⟨b2, Z6, .is (.agg #[.int .i64 0, .int .i64 0, .int .i64 0, .string ⟨#[]⟩, .string ⟨#[]⟩, .string ⟨#[]⟩, .int .i64 0, .slice none 0 0])⟩]) (Z61 rfl (hsum z1.2.tail (Zm ((Z2t he _ _ hz1).1.trans hts)) (by have := (Zy hit).2; have := (Z2t he _ _ hz1).2; omega)) (.refl _) qF qA) (fun g => ?_)
 refine yz (Za4 ZR rfl rfl) ?_
 apply yn
 obtain ⟨z, hg2⟩ := g
 try dsimp only
 refine Jq (ZI rfl (Z2G (cmpO.getD i (em, 0)).2 [z1.1, z.1]) qA) ?_
 refine JO.m (Z3 rfl rfl qU qC qO Zo) (by rfl) ?_
 refine vS [2] ?_
 refine vR ?_
 refine JX.toP ?_
 exact JX.retLCs (Lr := [_, _]) (L1 := fun z : Ex × List T3 => [PB T b z.2]) (R := fun z => .rep (ExR z.1)) rfl (nd (cmpO.getD i (em, 0)).2 [z1.1, z.1], z.2) (by rw [Z5h hnn, hz1]; show cmpP e z1.1 z1.2 = _; unfold cmpP; rw [hop]; dsimp only; rw [hg2]; rfl) (.refl _) rfl rfl hb0 rfl Z9 HasOwn.mem Z1I (Sub.refl _)
 try simp only [yd, yf] at ht23
 apply yK
 repeat first|apply yX|apply yB
 rw [ZV ht23]
 refine vQ ?_
 refine Jq (ZD (cc := ((i + 1 : Nat) : Int)) rfl rfl qM qM qM) ?_
 refine Jm rfl ?_
 apply yI
 repeat refine JX.normal_block ?_
 refine JX.roundG (x := i) (i + 1) ?_ ?_ [0, 2, 3, 14, 15, 16] ?_ ?_ ?_ ?_
 · exact ⟨by omega, by rw [← hO, Z52 (ops := cmpO) (i := i) (by show i < 6; omega), if_neg (by rw [ht23]; decide)]⟩
 · exact qM
 · exact qS
 · exact qH
 · exact qG
 · exact fun _ _ _ => fun _ _ => trivial
 try simp only [yd, yf] at ht17
 repeat apply yQ
 refine J.exit ?_
 repeat first|refine yH ?_|refine yM rfl ?_|refine yE ?_
 repeat first|apply yX|apply yB
 have hno : opOf 5 cmpO z1.2 = none := by rw [← hO, List.drop_eq_nil_of_le (by show 6 ≤ i; omega)]; rfl
 refine vQ ?_
 refine Jm rfl ?_
 refine JO.callK (Lr := [_, _]) (Zi T hc b z1.2 ((Z2t he _ _ hz1).1.trans hts) w_IS) rfl (.swap _ _ _) qF qA ?_
 intro _ _
 refine vD ?_
 refine Jq (Z67 rfl) ?_
 refine vS [0, 2, 3, 34] ?_
 refine yC rfl (fun ht34 => ?_) (fun ht34 => ?_)
 try simp only [yd, yf] at ht34
 have his : isT 1 w_IS z1.2 = false := by simpa using ht34
 rw [ZV his]
 refine vQ ?_
 refine Jq (Z2M Z9 rfl) ?_
 refine JO.m (Z3 rfl rfl qU qC qO Zo) (by rfl) ?_
 refine vS [2] ?_
 refine vR ?_
 refine JX.toP ?_
 exact JX.retLCs (Lr := [_, _]) (L1 := fun z : Ex × List T3 => [PB T b z.2]) (R := fun z => .rep (ExR z.1)) rfl (z1.1, z1.2) (by rw [Z5h hnn, hz1]; show cmpP e z1.1 z1.2 = _; unfold cmpP; rw [hno]; dsimp only; rw [if_neg (by rw [his]; decide)]) (.refl _) rfl rfl hb0 rfl Z9 HasOwn.mem Z1I (Sub.refl _)
 try simp only [yd, yf] at ht34
 apply yK
 repeat first|apply yX|apply yB
 have his : isT 1 w_IS z1.2 = true := by simpa using ht34
 rw [ZS his]
 refine vQ ?_
 refine Jm rfl ?_
 refine JO.callK (Lr := [_, _]) (Zi T hc b z1.2.tail (Zm ((Z2t he _ _ hz1).1.trans hts)) Z1i) rfl (.refl _) qF qA ?_
 intro _ _
 refine vD ?_
 refine vS [0, 2, 3, 37] ?_
 refine yC rfl (fun ht37 => ?_) (fun ht37 => ?_)
 try simp only [yd, yf] at ht37
 have hi2 : isT 1 Z1i z1.2.tail = true := ht37
 rw [ZS hi2]
 refine vQ ?_
 refine Jm rfl ?_
 refine JO.callPK (Lr := [_, _]) (Zq T hc b (z1.2.tail.tail) (Zm (Zm ((Z2t he _ _ hz1).1.trans hts))) Z2b (by decide +kernel) (by decide +kernel) (asc (by decide +kernel))) rfl (.refl _) qF qA (fun hbad => ?_) ?_
 · exact JX.pnI (by rw [Z5h hnn, hz1]; show cmpP e z1.1 z1.2 = none; unfold cmpP; rw [hno]; dsimp only; rw [if_pos his, if_pos hi2, hbad]; rfl)
 intro z2 hz2
 refine vD ?_
 refine vP [2, 3] ?_
 refine Jq (Z2M Z9 rfl) ?_
 refine Jq (Z44 ZR rfl) ?_
 refine Jq (ZI rfl (Z2G 19 [z1.1]) qA) ?_
 refine JO.m (Z3 rfl rfl qU qC qO Zo) (by rfl) ?_
 refine vS [2] ?_
 refine vR ?_
 refine JX.toP ?_
 exact JX.retLCs (Lr := [_, _]) (L1 := fun z : Ex × List T3 => [PB T b z.2]) (R := fun z => .rep (ExR z.1)) rfl (nd 19 [z1.1], z2.2) (by rw [Z5h hnn, hz1]; show cmpP e z1.1 z1.2 = _; unfold cmpP; rw [hno]; dsimp only; rw [if_pos his, if_pos hi2, hz2]; rfl) (.refl _) rfl rfl hb0 rfl Z9 HasOwn.mem Z1I (Sub.refl _)
 try simp only [yd, yf] at ht37
 apply yK
 repeat first|apply yX|apply yB
 have hi2 : isT 1 Z1i z1.2.tail = false := ht37
 rw [ZV hi2]
 refine vQ ?_
 refine Jm rfl ?_
 refine JO.callPK (Lr := [_, _]) (Zq T hc b (z1.2.tail) (Zm ((Z2t he _ _ hz1).1.trans hts)) Z2b (by decide +kernel) (by decide +kernel) (asc (by decide +kernel))) rfl (.refl _) qF qA (fun hbad => ?_) ?_
 · exact JX.pnI (by rw [Z5h hnn, hz1]; show cmpP e z1.1 z1.2 = none; unfold cmpP; rw [hno]; dsimp only; rw [if_pos his, if_neg (by rw [hi2]; decide), hbad]; rfl)
 intro z2 hz2
 refine vD ?_
 refine vP [2, 3] ?_
 refine Jq (Z2M Z9 rfl) ?_
 refine Jq (Z44 ZR rfl) ?_
 refine Jq (ZI rfl (Z2G 18 [z1.1]) qA) ?_
 refine JO.m (Z3 rfl rfl qU qC qO Zo) (by rfl) ?_
 refine vS [2] ?_
 refine vR ?_
 refine JX.toP ?_
 exact JX.retLCs (Lr := [_, _]) (L1 := fun z : Ex × List T3 => [PB T b z.2]) (R := fun z => .rep (ExR z.1)) rfl (nd 18 [z1.1], z2.2) (by rw [Z5h hnn, hz1]; show cmpP e z1.1 z1.2 = _; unfold cmpP; rw [hno]; dsimp only; rw [if_pos his, if_neg (by rw [hi2]; decide), hz2]; rfl) (.refl _) rfl rfl hb0 rfl Z9 HasOwn.mem Z1I (Sub.refl _)
theorem Z5p (T : Tk) (hc : T.ts.length ≤ T.cap) (b : Nat) (e : Ps Ex) (he : Dn0 e) (N : Nat) (hsum : ∀ ts, ts <:+ T.ts → ts.length ≤ N → CallP Tryz.prog Z2V [PB T b (ts)] [T.G, AF] [.is (.pointer (some ⟨b, 0, none⟩))] (sumP e (ts) = none) flt (fun z : Ex × List T3 => sumP e (ts) = some z) (fun z => [PB T b z.2]) (fun z => .rep (ExR z.1))) : ∀ n ts, ts <:+ T.ts → ts.length ≤ N → ts.length ≤ n → CallP Tryz.prog Z1X [PB T b (ts)] [T.G, AF] [.is (.pointer (some ⟨b, 0, none⟩))] (notP e (ts) = none) flt (fun z : Ex × List T3 => notP e (ts) = some z) (fun z => [PB T b z.2]) (fun z => .rep (ExR z.1))
 | n, ts, hts, hN, hn => Z6q T hc b ts hts e he (fun us hus hl => hsum us hus qM) fun us hus hl => by
  cases n with
  | zero => omega
  | succ n => exact Z5p T hc b e he N hsum n us hus qM qM
end Go.Proofs.YtbedigkncjbggaaGreatDoor
