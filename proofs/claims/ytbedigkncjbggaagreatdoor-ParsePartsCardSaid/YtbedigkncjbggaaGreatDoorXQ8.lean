/- The parser: queries. No condition. -/
import Derived.Test.YtbedigkncjbggaaGreatDoorXQ7
set_option maxRecDepth 20000
namespace Go.Proofs.YtbedigkncjbggaaGreatDoor
open Go Go.Vc
open Go.Pz
abbrev srC (s : Pz.Src) : Cel srE := ⟨s, [.string s.tb, .string s.nm, .slice none 0 0], rfl, by
 intro u hu
 simp only [List.mem_cons, List.mem_nil_iff, or_false] at hu
 rcases hu with rfl | rfl | rfl <;> rfl⟩
theorem ZiX {s : Pz.Src} (h : s.on = []) (w : World) : CelR (srC s) w := ⟨_, rfl, by rw [h]; exact Z13⟩
abbrev sjC (s : Pz.Src) (x : Ex) (a : Option Addr) (l c : Nat) : Cel srE := ⟨{ s with on := [x] }, [.string s.tb, .string s.nm, .slice a l c], rfl, by
 intro u hu
 simp only [List.mem_cons, List.mem_nil_iff, or_false] at hu
 rcases hu with rfl | rfl | rfl <;> rfl⟩
theorem Zj2 {s : Pz.Src} {x : Ex} {a : Option Addr} {l c : Nat} {w : World} (h : ExsR [x] (.slice a l c) w) : CelR (sjC s x a l c) w := ⟨_, rfl, h⟩
attribute [local irreducible] SlE ExsR
theorem Z6R (N : Nat) (T : Tk) (hc : T.ts.length ≤ T.cap) (h9 : T.ts.length ≤ 2049) (b : Nat) (ts : List T3) (hts : ts <:+ T.ts) (e : Ps Ex) (hed : Dn e) (hex : ∀ us, us <:+ T.ts → us.length ≤ ts.length → CallP Tryz.prog Zx [PB T b (us)] [T.G, AF] [.is (.pointer (some ⟨b, 0, none⟩))] (e (us) = none) flt (fun z : Ex × List T3 => e (us) = some z) (fun z => [PB T b z.2]) (fun z => .rep (ExR z.1))) : CallP Tryz.prog Z2V [PB T b ts] [T.G, AF, NH N] [.is (.pointer (some ⟨b, 0, none⟩))] (queryP e ts = none) flt (fun z : Pz.St × List T3 => queryP e ts = some z) (fun z => [PB T b z.2]) (fun z => .rep (StR N z.1)) :=
CallP.ofN (N := N) (List.mem_cons_of_mem _ (List.mem_cons_of_mem _ List.mem_cons_self)) (fn := Tryz.f60) Tryz.func60 (n := 95) rfl rfl rfl (fun _ _ => by kernel_rfl) fun E W hNW hb0 => by
 repeat apply Sq
 apply Pn
 refine JO.alloc ZU rfl fun b2 => ?_
 apply Ni
 repeat first | apply Nx | apply Nb
 refine Sl [0, 2] (.cons rfl (.cons rfl .nil)) ?_
 repeat apply Sq
 apply Pn
 refine Jt (Zv (cs := [_, _, _, _, _, _, _, _, _, _, _, _, _, _]) Z1X (.cons rfl (.cons rfl .nil)) rfl rfl) rfl ?_
 refine JO.alloc ZU rfl fun b3 => ?_
 refine JO.m (Z3 rfl rfl (by repeat first | exact .here | apply Ut) (by first | exact cI rfl rfl | exact cE) (by first | exact cI rfl rfl | exact cE | exact cO) Zj) (by rfl) ?_
 apply Ni
 repeat first | apply Nx | apply Nb
 refine Sl [0, 2, 3] (.cons rfl (.cons rfl (.cons rfl .nil))) ?_
 repeat apply Sq
 apply Pn
 refine Jt (Z0 rfl) rfl ?_
 refine JO.callPK (Lr := [_, _]) (Z7b N T hc h9 b ts hts itE ZgJ rfl (itemP e) (Z50 hed) 16 Z4f (fun us hus hu => Z7m N T hc h9 b us hus e (fun vs hvs hv => hex vs hvs (by omega)))) rfl (List.perm_append_comm (l₁ := [_, _]) (l₂ := [_])) (fun F hF => by repeat (first | (rcases Mc.1 hF with rfl | hF; · (repeat first | exact Mh | apply Mt)) | (cases hF; done))) (.one rfl (.one rfl (.one rfl .nil))) (fun hbad => ?_) ?_
 · exact JX.pnI (by rw [ZZ, hbad]; rfl)
 intro zi hzi
 have hi : Lt zi.2 ts := Z5P (Z50 hed) 16 _ _ hzi
 try dsimp only [nA, cA]
 refine JO.openEv (s := 8) rfl (fun a8 l8 c8 _ _ => ?_)
 refine Jt (Z1 Z1q rfl) rfl ?_
 refine JO.m (Zf (cs' := [_, _, _, _, _, _, _, _, _, _, _, _, _, _]) rfl rfl (by repeat first | exact .here | apply Ut) rfl rfl rfl rfl Z9Y) (by rfl) ?_
 apply Ni
 repeat first | apply Nx | apply Nb
 refine Sl [0, 2, 3] (.cons rfl (.cons rfl (.cons rfl .nil))) ?_
 repeat apply Sq
 apply Pn
 refine Jt (Z0 rfl) rfl ?_
 refine JO.callPK (Lr := [_, _]) (Zk T hc b (zi.2) (hi.1.trans hts) Z4D (by decide +kernel) (by decide +kernel) (asc (by decide +kernel))) rfl (.refl _) (fun F hF => by repeat (first | (rcases Mc.1 hF with rfl | hF; · (repeat first | exact Mh | apply Mt)) | (cases hF; done))) (.one rfl (.one rfl .nil)) (fun hbad => ?_) ?_
 · exact JX.pnI (by rw [ZZ, hzi, Option.bind_some, hbad]; rfl)
 intro zf hzf
 have hf_ : Lt zf.2 ts := Lt.trans (Zh _ _ _ _ hzf) hi.1
 try dsimp only [nA, cA]
 apply Ni
 repeat first | apply Nx | apply Nb
 refine Sl [0, 2, 3] (.cons rfl (.cons rfl (.cons rfl .nil))) ?_
 repeat apply Sq
 apply Pn
 refine Jt (Z0 rfl) rfl ?_
 refine JO.callPK (Lr := [_, _]) (Z3S T hc b zf.2 (hf_.1.trans hts)) rfl (.refl _) (fun F hF => by repeat (first | (rcases Mc.1 hF with rfl | hF; · (repeat first | exact Mh | apply Mt)) | (cases hF; done))) (.one rfl .nil) (fun hbad => ?_) ?_
 · exact JX.pnI (by rw [ZZ, hzi, Option.bind_some, hzf, Option.bind_some, hbad]; rfl)
 intro zs hzs
 have hs_ : Lt zs.2 ts := Lt.trans (Z3L _ _ hzs) hf_.1
 have hon := ZaR hzs
 try dsimp only [nA, cA]
 refine JO.buildE (p := srC zs.1) ZbK Z5R rfl (by decide) rfl rfl (fun b14 => ?_)
 refine Jt (Z1 Z11 rfl) rfl ?_
 refine JO.m (Zf (cs' := [_, _, _, _, _, _, _, _, _, _, _, _, _, _]) rfl rfl (by repeat first | exact .here | apply Ut) rfl rfl rfl rfl Z5Y) (by rfl) ?_
 apply Ni
 repeat first | apply Nx | apply Nb
 refine Sl [0, 2, 3] (.cons rfl (.cons rfl (.cons rfl .nil))) ?_
 refine J.has (L' := [PB T b zs.2, ⟨b3, _, _⟩, ⟨b2, _, _⟩, ⟨b14, _, _⟩]) (by repeat (first | exact .all | exact .nil | refine Has.own (by repeat first | exact .here | apply Tl.past | apply Tl.there) ?_ | refine Has.cons (by repeat (first | exact .here | apply Pk.past | apply Pk.there)) ?_)) ?_
 repeat apply Sq
 apply Pn
 refine Jt (Z0 rfl) rfl ?_
 refine JO.callK (Lr := _) (Zd T hc b zs.2 (hs_.1.trans hts) ZT) rfl (.refl _) (fun F hF => by repeat (first | (rcases Mc.1 hF with rfl | hF; · (repeat first | exact Mh | apply Mt)) | (cases hF; done))) (.one rfl (.one rfl .nil)) ?_
 intro _ _
 try dsimp only [nA, cA]
 refine Jt (Z2 rfl) rfl ?_
 apply Ni
 repeat first | apply Nx | apply Nb
 refine Sl [0, 2, 3, 4] (.cons rfl (.cons rfl (.cons rfl (.cons rfl .nil)))) ?_
 repeat apply Sq
 apply Bk
 repeat apply Sq
 refine J.loopH (α := List (Cel srE) × Option (Nat × List Value) × Nat × List T3) (fun x => [(0, .is (.pointer (some ⟨b, 0, none⟩))), (2, .is (.pointer (some ⟨b2, 0, none⟩))), (3, .is (.pointer (some ⟨b3, 0, none⟩))), (4, .is (.bool (isT 1 ZT x.2.2.2)))]) (fun x => PB T b (skT 1 ZT x.2.2.2) :: ⟨b3, Zw, .is (.agg #[.int .i64 4, .string ⟨#[]⟩, .string ⟨#[]⟩, .slice none 0 0, .slice none 0 0, .slice none 0 0, .slice a8 l8 c8, sliceO x.2.1 x.1.length x.2.2.1, .slice none 0 0, .slice none 0 0, .slice none 0 0, .int .i64 (-1), .slice none 0 0, .bool false])⟩ :: ⟨b2, Zw, .is (.agg #[.int .i64 0, .string ⟨#[]⟩, .string ⟨#[]⟩, .slice none 0 0, .slice none 0 0, .slice none 0 0, .slice none 0 0, .slice none 0 0, .slice none 0 0, .slice none 0 0, .slice none 0 0, .int .i64 0, .slice none 0 0, .bool false])⟩ :: ownO x.2.1 Z80 []) (fun x => CelF srE x.1) (fun x => x.2.2.2 <:+ ts ∧ x.1.length + x.2.2.2.length ≤ ts.length ∧ Grows Cel.cs 3 x.1 x.2.1 x.2.2.1 ∧ joinI e [zs.1] zs.2 = joinI e (x.1.map Cel.x) x.2.2.2) (fun x => x.2.2.2.length) ([srC zs.1], some (b14, (srC zs.1).cs), 1, zs.2) [0, 2, 3, 4] (.cons rfl (.cons rfl (.cons rfl (.cons rfl .nil)))) rfl (fun X w hF => fun w' hk p hp => by rw [List.mem_singleton.1 hp]; exact ZiX hon w') ⟨hs_.1, (show 1 + zs.2.length ≤ ts.length by have := hs_.2; omega), growE (srC zs.1), rfl⟩ fun ⟨ps, st, cap, us⟩ ⟨hus, hlen, hG, hJ⟩ => ?_
 try dsimp only
 try dsimp only at st
 try dsimp only at cap
 try dsimp only at us
 try dsimp only at hus
 try dsimp only at hlen
 try dsimp only at hG
 try dsimp only at hJ
 have hut : us <:+ T.ts := hus.trans hts
 have hvs : skT 1 ZT us <:+ T.ts := (Z3H _ _ _).trans hut
 repeat apply Sq
 apply Pn
 refine Jt (Z0 rfl) rfl ?_
 refine Jt (Z0 rfl) rfl ?_
 refine JO.tg rfl rfl rfl rfl rfl (fun hg => Z0 (.inl rfl)) ?_
 refine JO.tg rfl rfl rfl rfl rfl (fun hg => Z5 (.inr ⟨_, rfl, id⟩)) ?_
 refine JO.tg rfl rfl rfl rfl rfl (fun hg => Z1 Zg (.inr ⟨_, rfl, id⟩)) ?_
 refine JO.tg rfl rfl rfl rfl rfl (fun hg => Z4 Zs (.inr ⟨_, rfl, id⟩) rfl) ?_
 refine JO.tg rfl rfl rfl rfl rfl (fun hg => Zq ZY (.inr ⟨_, rfl, id⟩)) ?_
 refine JO.tg rfl rfl rfl rfl rfl (fun hg => Z2O (.inr ⟨_, rfl, id⟩) (.inl rfl)) ?_
 refine JO.tg rfl rfl rfl rfl rfl (fun hg => Z0 (.inr ⟨_, rfl, id⟩)) ?_
 refine JO.tgg rfl rfl rfl rfl rfl (fun hg => Z0 (.inl rfl)) ?_
 refine JO.tgg rfl rfl rfl rfl rfl (fun hg => Z5 (.inr ⟨_, rfl, id⟩)) ?_
 refine JO.tgg rfl rfl rfl rfl rfl (fun hg => Z1 Zg (.inr ⟨_, rfl, id⟩)) ?_
 refine JO.tgg rfl rfl rfl rfl rfl (fun hg => Z4 Zs (.inr ⟨_, rfl, id⟩) rfl) ?_
 refine JO.tgg rfl rfl rfl rfl rfl (fun hg => Za ZX (.inr ⟨_, rfl, id⟩) rfl (.inl rfl) (by omega) (Z2j (Z2r hg.2))) ?_
 refine JO.tgg rfl rfl rfl rfl rfl (fun hg => Z1 Z4Q (.inr ⟨_, rfl, id⟩)) ?_
 refine JO.tgg rfl rfl rfl rfl rfl (fun hg => ZI (enc := T3.cells) (sz := 3) (i := T.k (skT 1 ZT us)) (j := 1) (y := (skT 1 ZT us).headD t3D) (u := .string ((skT 1 ZT us).headD t3D).t) Zu (.inr ⟨_, rfl, id⟩) (by repeat first | exact Mh | apply Mt) rfl (Tk.head hvs (Z2r hg.2)) (by rw [Tk.j_eq hc hvs (Z2r hg.2)]; omega) rfl) ?_
 refine JO.tgg rfl rfl rfl rfl rfl (fun hg => Z4i (.inr ⟨_, rfl, id⟩) (.inl rfl)) ?_
 refine JO.tg rfl rfl rfl rfl rfl (fun hg => Zy (.inr ⟨_, rfl, id⟩) (.inl rfl) (.inl rfl) (fun h => ⟨hg, h⟩)) ?_
 refine JO.tg rfl rfl rfl rfl rfl (fun hg => Z0 (.inr ⟨_, rfl, id⟩)) ?_
 refine JO.tgg rfl rfl rfl rfl rfl (fun hg => Z0 (.inl rfl)) ?_
 refine JO.tgg rfl rfl rfl rfl rfl (fun hg => Z5 (.inr ⟨_, rfl, id⟩)) ?_
 refine JO.tgg rfl rfl rfl rfl rfl (fun hg => Z1 Zg (.inr ⟨_, rfl, id⟩)) ?_
 refine JO.tgg rfl rfl rfl rfl rfl (fun hg => Z4 Zs (.inr ⟨_, rfl, id⟩) rfl) ?_
 refine JO.tgg rfl rfl rfl rfl rfl (fun hg => Za ZX (.inr ⟨_, rfl, id⟩) rfl (.inl rfl) (by omega) (Z2j (Z2r ((Bool.and_eq_true _ _).mp hg.2).1))) ?_
 refine JO.tgg rfl rfl rfl rfl rfl (fun hg => Z1 Z2B (.inr ⟨_, rfl, id⟩)) ?_
 refine JO.tgg rfl rfl rfl rfl rfl (fun hg => ZI (enc := T3.cells) (sz := 3) (i := T.k (skT 1 ZT us)) (j := 0) (y := (skT 1 ZT us).headD t3D) (u := .int .i64 ((skT 1 ZT us).headD t3D).k) ZA (.inr ⟨_, rfl, id⟩) (by repeat first | exact Mh | apply Mt) rfl (Tk.head hvs (Z2r ((Bool.and_eq_true _ _).mp hg.2).1)) (by rw [Tk.j_eq hc hvs (Z2r ((Bool.and_eq_true _ _).mp hg.2).1)]; omega) rfl) ?_
 refine JO.tgg rfl rfl rfl rfl rfl (fun hg => Z1e (.inr ⟨_, rfl, id⟩) (.inl rfl)) ?_
 refine JO.tg rfl rfl rfl rfl rfl (fun hg => Zy (.inr ⟨_, rfl, id⟩) (.inl rfl) (.inl rfl) (fun h => ⟨hg, h⟩)) ?_
 refine Jt (ZM rfl rfl rfl id) rfl ?_
 apply Ni
 repeat first | apply Nx | apply Nb
 refine Sl [0, 2, 3, 46] (.cons rfl (.cons rfl (.cons rfl (.cons rfl .nil)))) ?_
 repeat apply Sq
 refine Cd rfl (fun ht46 => ?_) (fun ht46 => ?_)
 ·
  try simp only [dT, dF] at ht46
  apply Sk
  repeat first | apply Nx | apply Nb
  repeat apply Sq
  apply Bk
  have hyj : isJ us = true := by rw [← Zfg]; exact ht46
  repeat apply Sq
  apply Pn
  refine Jt (Z0 rfl) rfl ?_
  refine JO.callPK (Lr := _) (Zk T hc b (skT 1 ZT us) hvs Z3G (by decide +kernel) (by decide +kernel) (asc (by decide +kernel))) rfl (.refl _) (fun F hF => by repeat (first | (rcases Mc.1 hF with rfl | hF; · (repeat first | exact Mh | apply Mt)) | (cases hF; done))) (.one rfl (.one rfl .nil)) (fun hbad => ?_) ?_
  · exact JX.pnI (by rw [ZZ, hzi, Option.bind_some, hzf, Option.bind_some, hzs, Option.bind_some, hJ]; rw [Z5j hed hyj]; unfold joinP; rw [hbad]; rfl)
  intro y1 hy1
  have g1 : Lt y1.2 us := Lt.trans (Zh _ _ _ _ hy1) (Z3H _ _ _)
  try dsimp only [nA, cA]
  apply Ni
  repeat first | apply Nx | apply Nb
  refine Sl [0, 2, 3] (.cons rfl (.cons rfl (.cons rfl .nil))) ?_
  repeat apply Sq
  apply Pn
  refine Jt (Z0 rfl) rfl ?_
  refine JO.callPK (Lr := _) (Z3S T hc b y1.2 (g1.1.trans hut)) rfl (.refl _) (fun F hF => by repeat (first | (rcases Mc.1 hF with rfl | hF; · (repeat first | exact Mh | apply Mt)) | (cases hF; done))) (.one rfl .nil) (fun hbad => ?_) ?_
  · exact JX.pnI (by rw [ZZ, hzi, Option.bind_some, hzf, Option.bind_some, hzs, Option.bind_some, hJ]; rw [Z5j hed hyj]; unfold joinP; rw [hy1, Option.bind_some, hbad]; rfl)
  intro y2 hy2
  have g2 : Lt y2.2 us := Lt.trans (Z3L _ _ hy2) g1.1
  try dsimp only [nA, cA]
  refine JO.alloc Z41 rfl fun b5 => ?_
  refine JO.m (Z3 rfl rfl (by repeat first | exact .here | apply Ut) (by first | exact cI rfl rfl | exact cE) (by first | exact cI rfl rfl | exact cE | exact cO) Z3g) (by rfl) ?_
  apply Ni
  repeat first | apply Nx | apply Nb
  refine Sl [0, 2, 3, 5] (.cons rfl (.cons rfl (.cons rfl (.cons rfl .nil)))) ?_
  repeat apply Sq
  apply Pn
  refine Jt (Z0 rfl) rfl ?_
  refine JO.callPK (Lr := _) (Zk T hc b (y2.2) (g2.1.trans hut) w_ON (by decide +kernel) (by decide +kernel) (asc (by decide +kernel))) rfl (.swap _ _ _) (fun F hF => by repeat (first | (rcases Mc.1 hF with rfl | hF; · (repeat first | exact Mh | apply Mt)) | (cases hF; done))) (.one rfl (.one rfl .nil)) (fun hbad => ?_) ?_
  · exact JX.pnI (by rw [ZZ, hzi, Option.bind_some, hzf, Option.bind_some, hzs, Option.bind_some, hJ]; rw [Z5j hed hyj]; unfold joinP; rw [hy1, Option.bind_some, hy2, Option.bind_some, hbad]; rfl)
  intro y3 hy3
  have g3 : Lt y3.2 us := Lt.trans (Zh _ _ _ _ hy3) g2.1
  try dsimp only [nA, cA]
  apply Ni
  repeat first | apply Nx | apply Nb
  refine Sl [0, 2, 3, 5] (.cons rfl (.cons rfl (.cons rfl (.cons rfl .nil)))) ?_
  repeat apply Sq
  apply Pn
  refine Jt (Z0 rfl) rfl ?_
  refine JO.callPK (Lr := _) (hex y3.2 (g3.1.trans hut) (by have := g3.2; omega)) rfl (.refl _) (fun F hF => by repeat (first | (rcases Mc.1 hF with rfl | hF; · (repeat first | exact Mh | apply Mt)) | (cases hF; done))) (.one rfl .nil) (fun hbad => ?_) ?_
  · exact JX.pnI (by rw [ZZ, hzi, Option.bind_some, hzf, Option.bind_some, hzs, Option.bind_some, hJ]; rw [Z5j hed hyj]; unfold joinP; rw [hy1, Option.bind_some, hy2, Option.bind_some, hy3, Option.bind_some, hbad]; rfl)
  intro y4 hy4
  have g4 : Lt y4.2 us := Lt.trans (hed _ _ hy4) g3.1
  try dsimp only [nA, cA]
  refine Jt (Z3o ZL rfl) rfl ?_
  refine JO.open_ (s := 57) (R := ExsR [y4.1]) rfl ?_
  rintro v57 ⟨w57, h57⟩
  obtain ⟨a57, l57, c57, rfl⟩ := Z8D h57
  refine Jt (Z1 Z2R rfl) rfl ?_
  refine JO.m (Zf (cs' := [_, _, _]) rfl rfl (by repeat first | exact .here | apply Ut) rfl rfl rfl rfl Z2Z) (by rfl) ?_
  apply Ni
  repeat first | apply Nx | apply Nb
  refine Sl [0, 2, 3, 5] (.cons rfl (.cons rfl (.cons rfl (.cons rfl .nil)))) ?_
  repeat apply Sq
  apply Pn
  refine Jt (Z1 Z11 rfl) rfl ?_
  refine Jt (Z4 ZR rfl rfl) rfl ?_
  refine Jt (ZG (cs := [_, _, _]) Z2K rfl rfl rfl) rfl ?_
  refine Jt (Z2h (p := sjC y2.1 y4.1 a57 l57 c57) ZbK Z5R rfl (by decide) rfl) rfl ?_
  refine JO.apO (ys := [sjC y2.1 y4.1 a57 l57 c57]) Z9b Cel.hlen (.there (.there (.there (.there .here)))) hG rfl rfl (srcE _ Z1S) (by simp) (by show (ps.length + 1) * 56 ≤ 140737488355328; have := hts.length_le; omega) (by show ps.length + 1 ≤ 9223372036854775807; have := hts.length_le; omega) rfl (fun st2 cap2 hG2 => ?_)
  obtain ⟨b63, cs63, rfl⟩ := Z4t hG2 (by simp)
  refine Jt (Z1 Z11 rfl) rfl ?_
  refine JO.m (Zf (cs' := [_, _, _, _, _, _, _, _, _, _, _, _, _, _]) rfl rfl (by repeat first | exact .here | apply Ut) rfl rfl rfl rfl Z5Y) (by rfl) ?_
  apply Ni
  repeat first | apply Nx | apply Nb
  refine Sl [0, 2, 3] (.cons rfl (.cons rfl (.cons rfl .nil))) ?_
  repeat apply Sq
  apply Pn
  refine Jt (Z0 rfl) rfl ?_
  refine JO.callK (Lr := [_, _, _, _]) (Zd T hc b y4.2 (g4.1.trans hut) ZT) rfl (.swap _ _ _) (fun F hF => by repeat (first | (rcases Mc.1 hF with rfl | hF; · (repeat first | exact Mh | apply Mt)) | (cases hF; done))) (.one rfl (.one rfl .nil)) ?_
  intro _ _
  try dsimp only [nA, cA]
  refine Jt (Z2 rfl) rfl ?_
  apply Ni
  repeat refine JX.normal_block ?_
  refine JX.roundG (x := (ps, st, cap, us)) (ps ++ [sjC y2.1 y4.1 a57 l57 c57], some (b63, cs63), cap2, y4.2) ?_ ?_ [0, 2, 3, 4] ?_ ?_ ?_ ?_
  · exact ⟨g4.1.trans hus, (by show (ps ++ [sjC y2.1 y4.1 a57 l57 c57]).length + y4.2.length ≤ ts.length; rw [List.length_append]; show ps.length + 1 + y4.2.length ≤ ts.length; have := g4.2; omega), hG2, (by rw [hJ, Z5j hed hyj, List.map_append]; unfold joinP; rw [hy1, Option.bind_some, hy2, Option.bind_some, hy3, Option.bind_some, hy4]; rfl)⟩
  · exact (by show y4.2.length < us.length; exact g4.2)
  · exact (.cons rfl (.cons rfl (.cons rfl (.cons rfl .nil))))
  · exact (.cons .here (.cons (.there (.there .here)) (.cons (.there (.there .here)) (.cons .here .nil))))
  · exact fun G hG => by repeat (first | exact hG | refine List.mem_cons_of_mem _ ?_)
  · exact fun X w hF => fun w' hk => CelF.snoc (hF _ (by repeat first | exact Mh | apply Mt) w' hk) (Zj2 (hF _ (by repeat first | exact Mh | apply Mt) w' hk))
 ·
  try simp only [dT, dF] at ht46
  repeat apply Sq
  refine J.exit ?_
  repeat first | refine Ht ?_ | refine Ms rfl ?_ | refine Ep ?_
  repeat first | apply Nx | apply Nb
  have hno : isJ us = false := by rw [← Zfg]; exact ht46
  have hni : isT 1 ZT us = false := (Bool.or_eq_false_iff.1 hno).1
  rw [ZQ hni]
  repeat apply Sq
  apply Pn
  refine Jt (Z0 rfl) rfl ?_
  refine Jt (Z1 Z11 rfl) rfl ?_
  refine Jt (Z4 ZR rfl rfl) rfl ?_
  refine Jt (Zci hG Z1S rfl) rfl ?_
  refine Jt (Z31 rfl rfl) rfl ?_
  refine JO.callPK (Lr := _) (Z7 (.pointer (some ⟨b, 0, none⟩)) (decide ((ps.length : Int) ≤ 4))) rfl (Z1a _) Z10 (.one rfl (.one rfl .nil)) (fun hbad => ?_) ?_
  · exact JX.pnI (by rw [ZZ, hzi, Option.bind_some, hzf, Option.bind_some, hzs, Option.bind_some, hJ, Z1l hno, Option.bind_some]; unfold qTail; rw [if_neg (by rw [List.length_map]; have := of_decide_eq_false hbad; omega)])
  intro _ hle
  try dsimp only [nA, cA]
  apply Ni
  repeat first | apply Nx | apply Nb
  refine Sl [0, 2, 3] (.cons rfl (.cons rfl (.cons rfl .nil))) ?_
  refine J.freezeOMW (e := Z80) (sz := 3) hNW Cel.hlen hG (.there (.there (.there .here))) (fun q hq => by simp only [List.map_cons, List.map_nil, List.mem_singleton] at hq; exact ⟨_, List.mem_cons_self, hq.symm⟩) rfl rfl ?_
  rw [hG.sl.1]
  repeat apply Sq
  apply Pn
  refine Jt (Z0 rfl) rfl ?_
  refine JO.callPK (Lr := _) (Z2D N T hc h9 b us hut e (fun vs hvs hv => hex vs hvs (by omega))) rfl (.refl _) (fun F hF => by repeat (first | (rcases Mc.1 hF with rfl | hF; · (repeat first | exact Mh | apply Mt)) | (cases hF; done))) (.one rfl .nil) (fun hbad => ?_) ?_
  · exact JX.pnI (by rw [ZZ, hzi, Option.bind_some, hzf, Option.bind_some, hzs, Option.bind_some, hJ, Z1l hno, Option.bind_some]; unfold qTail; rw [if_pos (by rw [List.length_map]; have := of_decide_eq_true hle; omega), hbad]; rfl)
  intro zw hzw
  have hxw : zw.2 <:+ ts := (Z6v hed hzw).trans hus
  try dsimp only [nA, cA]
  refine JO.openEv (s := 72) rfl (fun a72 l72 c72 _ _ => ?_)
  refine Jt (Z1 Z24 rfl) rfl ?_
  refine JO.m (Zf (cs' := [_, _, _, _, _, _, _, _, _, _, _, _, _, _]) rfl rfl (by repeat first | exact .here | apply Ut) rfl rfl rfl rfl Z2Z) (by rfl) ?_
  apply Ni
  repeat first | apply Nx | apply Nb
  refine Sl [0, 2, 3] (.cons rfl (.cons rfl (.cons rfl .nil))) ?_
  repeat apply Sq
  apply Pn
  refine Jt (Z0 rfl) rfl ?_
  refine JO.callK (Lr := [_, _]) (Zd T hc b zw.2 (hxw.trans hts) Z4h) rfl (.refl _) (fun F hF => by repeat (first | (rcases Mc.1 hF with rfl | hF; · (repeat first | exact Mh | apply Mt)) | (cases hF; done))) (.one rfl (.one rfl .nil)) ?_
  intro _ _
  try dsimp only [nA, cA]
  apply Ni
  repeat first | apply Nx | apply Nb
  refine Sl [0, 2, 3, 75] (.cons rfl (.cons rfl (.cons rfl (.cons rfl .nil)))) ?_
  repeat apply Sq
  refine Cd rfl (fun ht75 => ?_) (fun ht75 => ?_)
  ·
   try simp only [dT, dF] at ht75
   have hgy : isT 1 Z4h zw.2 = true := ht75
   rw [ZO hgy]
   repeat apply Sq
   apply Pn
   refine Jt (Z0 rfl) rfl ?_
   refine JO.callPK (Lr := [_, _]) (Zk T hc b _ ((List.tail_suffix _).trans (hxw.trans hts)) w_BY (by decide +kernel) (by decide +kernel) (asc (by decide +kernel))) rfl (.refl _) (fun F hF => by repeat (first | (rcases Mc.1 hF with rfl | hF; · (repeat first | exact Mh | apply Mt)) | (cases hF; done))) (.one rfl (.one rfl .nil)) (fun hbad => ?_) ?_
   · exact JX.pnI (by rw [ZZ, hzi, Option.bind_some, hzf, Option.bind_some, hzs, Option.bind_some, hJ, Z1l hno, Option.bind_some]; unfold qTail; rw [if_pos (by rw [List.length_map]; have := of_decide_eq_true hle; omega), hzw, Option.bind_some, Z8I hgy, hbad]; rfl)
   intro zb hzb
   try dsimp only [nA, cA]
   have hxb : zb.2 <:+ ts := (Zh _ _ _ _ hzb).1.trans ((List.tail_suffix _).trans hxw)
   apply Ni
   repeat first | apply Nx | apply Nb
   refine Sl [0, 2, 3] (.cons rfl (.cons rfl (.cons rfl .nil))) ?_
   repeat apply Sq
   apply Pn
   refine Jt (Z0 rfl) rfl ?_
   refine JO.callPK (Lr := [_, _]) (Z4j N T hc h9 b zb.2 (hxb.trans hts) exE Z47 rfl e hed 16 Zx (fun us hus hu => by have := hex us hus (by have := hxb.length_le; omega); simp only [Z8z] at this; exact this.weak (fun F hF => by repeat (first | (rcases Mc.1 hF with rfl | hF; · (repeat first | exact Mh | apply Mt)) | (cases hF; done))))) rfl (.refl _) (fun F hF => by repeat (first | (rcases Mc.1 hF with rfl | hF; · (repeat first | exact Mh | apply Mt)) | (cases hF; done))) (.one rfl (.one rfl (.one rfl .nil))) (fun hbad => ?_) ?_
   · exact JX.pnI (by rw [ZZ, hzi, Option.bind_some, hzf, Option.bind_some, hzs, Option.bind_some, hJ, Z1l hno, Option.bind_some]; unfold qTail; rw [if_pos (by rw [List.length_map]; have := of_decide_eq_true hle; omega), hzw, Option.bind_some, Z8I hgy, hzb, Option.bind_some, hbad]; rfl)
   intro zg hzg
   have hxg : zg.2 <:+ ts := (Z5P hed 16 _ _ hzg).1.trans hxb
   try dsimp only [nA, cA]
   refine JO.openEv (s := 79) rfl (fun a79 l79 c79 _ _ => ?_)
   refine Jt (Z1 Z3i rfl) rfl ?_
   refine JO.m (Zf (cs' := [_, _, _, _, _, _, _, _, _, _, _, _, _, _]) rfl rfl (by repeat first | exact .here | apply Ut) rfl rfl rfl rfl Z2Z) (by rfl) ?_
   apply Ni
   repeat first | apply Nx | apply Nb
   refine Sl [0, 2, 3] (.cons rfl (.cons rfl (.cons rfl .nil))) ?_
   first | (have hng : isT 1 Z4h zw.2 = false := ht75; rw [ZQ hng]; have hx18 := hxw; have hgr := ZdJ (e := e) hng) | (have hx18 := hxg; have hgr : groupP e zw.2 = some zg := (by rw [Z8I hgy, hzb, Option.bind_some]; exact hzg))
   repeat apply Sq
   apply Pn
   refine Jt (Z0 rfl) rfl ?_
   refine JO.callK (Lr := [_, _]) (Zd T hc b _ (hx18.trans hts) Z2J) rfl (.refl _) (fun F hF => by repeat (first | (rcases Mc.1 hF with rfl | hF; · (repeat first | exact Mh | apply Mt)) | (cases hF; done))) (.one rfl (.one rfl .nil)) ?_
   intro _ _
   try dsimp only [nA, cA]
   apply Ni
   repeat first | apply Nx | apply Nb
   refine Sl [0, 2, 3, 82] (.cons rfl (.cons rfl (.cons rfl (.cons rfl .nil)))) ?_
   repeat apply Sq
   refine Cd rfl (fun ht82 => ?_) (fun ht82 => ?_)
   ·
    try simp only [dT, dF] at ht82
    have hoy : isT 1 Z2J _ = true := ht82
    rw [ZO hoy]
    repeat apply Sq
    apply Pn
    refine Jt (Z0 rfl) rfl ?_
    refine JO.callPK (Lr := [_, _]) (Zk T hc b _ ((List.tail_suffix _).trans (hx18.trans hts)) w_BY (by decide +kernel) (by decide +kernel) (asc (by decide +kernel))) rfl (.refl _) (fun F hF => by repeat (first | (rcases Mc.1 hF with rfl | hF; · (repeat first | exact Mh | apply Mt)) | (cases hF; done))) (.one rfl (.one rfl .nil)) (fun hbad => ?_) ?_
    · exact JX.pnI (by rw [ZZ, hzi, Option.bind_some, hzf, Option.bind_some, hzs, Option.bind_some, hJ, Z1l hno, Option.bind_some]; unfold qTail; rw [if_pos (by rw [List.length_map]; have := of_decide_eq_true hle; omega), hzw, Option.bind_some, hgr, Option.bind_some, Z4k hoy, hbad]; rfl)
    intro zp hzp
    try dsimp only [nA, cA]
    have hxp : zp.2 <:+ ts := (Zh _ _ _ _ hzp).1.trans ((List.tail_suffix _).trans hx18)
    apply Ni
    repeat first | apply Nx | apply Nb
    refine Sl [0, 2, 3] (.cons rfl (.cons rfl (.cons rfl .nil))) ?_
    repeat apply Sq
    apply Pn
    refine Jt (Z0 rfl) rfl ?_
    refine JO.callPK (Lr := [_, _]) (Z4E N T hc h9 b zp.2 (hxp.trans hts) kyE ZbJ rfl (keyP e) (Z54 hed) 16 Z3e (fun us hus hu => Z4A N T hc h9 b us hus e (fun {us z} h => (hed us z h).1) (fun vs hvs hv => hex vs hvs (by have := hxp.length_le; omega)))) rfl (.refl _) (fun F hF => by repeat (first | (rcases Mc.1 hF with rfl | hF; · (repeat first | exact Mh | apply Mt)) | (cases hF; done))) (.one rfl (.one rfl (.one rfl .nil))) (fun hbad => ?_) ?_
    · exact JX.pnI (by rw [ZZ, hzi, Option.bind_some, hzf, Option.bind_some, hzs, Option.bind_some, hJ, Z1l hno, Option.bind_some]; unfold qTail; rw [if_pos (by rw [List.length_map]; have := of_decide_eq_true hle; omega), hzw, Option.bind_some, hgr, Option.bind_some, Z4k hoy, hzp, Option.bind_some, hbad]; rfl)
    intro zo hzo
    have hxo : zo.2 <:+ ts := (Z5P (Z54 hed) 16 _ _ hzo).1.trans hxp
    try dsimp only [nA, cA]
    refine JO.openEv (s := 86) rfl (fun a86 l86 c86 _ _ => ?_)
    refine Jt (Z1 Z1t rfl) rfl ?_
    refine JO.m (Zf (cs' := [_, _, _, _, _, _, _, _, _, _, _, _, _, _]) rfl rfl (by repeat first | exact .here | apply Ut) rfl rfl rfl rfl Z7Y) (by rfl) ?_
    apply Ni
    repeat first | apply Nx | apply Nb
    refine Sl [0, 2, 3] (.cons rfl (.cons rfl (.cons rfl .nil))) ?_
    first | (have hno2 : isT 1 Z2J _ = false := ht82; rw [ZQ hno2]; have hx21 := hx18; have hor := Z8E (e := e) hno2) | (have hx21 := hxo; have hor : orderP e _ = some zo := (by rw [Z4k hoy, hzp, Option.bind_some]; exact hzo))
    repeat apply Sq
    apply Pn
    refine Jt (Z0 rfl) rfl ?_
    refine JO.callK (Lr := [_, _]) (Zd T hc b _ (hx21.trans hts) Z1z) rfl (.refl _) (fun F hF => by repeat (first | (rcases Mc.1 hF with rfl | hF; · (repeat first | exact Mh | apply Mt)) | (cases hF; done))) (.one rfl (.one rfl .nil)) ?_
    intro _ _
    try dsimp only [nA, cA]
    apply Ni
    repeat first | apply Nx | apply Nb
    refine Sl [0, 2, 3, 89] (.cons rfl (.cons rfl (.cons rfl (.cons rfl .nil)))) ?_
    repeat apply Sq
    refine Cd rfl (fun ht89 => ?_) (fun ht89 => ?_)
    ·
     try simp only [dT, dF] at ht89
     have hly : isT 1 Z1z _ = true := ht89
     rw [ZO hly]
     repeat apply Sq
     apply Pn
     refine Jt (Z0 rfl) rfl ?_
     refine JO.callPK (Lr := [_, _]) (Z1i T hc b _ ((List.tail_suffix _).trans (hx21.trans hts)) 3) rfl (.refl _) (fun F hF => by repeat (first | (rcases Mc.1 hF with rfl | hF; · (repeat first | exact Mh | apply Mt)) | (cases hF; done))) (.one rfl (.one rfl .nil)) (fun hbad => ?_) ?_
     · exact JX.pnI (by rw [ZZ, hzi, Option.bind_some, hzf, Option.bind_some, hzs, Option.bind_some, hJ, Z1l hno, Option.bind_some]; unfold qTail; rw [if_pos (by rw [List.length_map]; have := of_decide_eq_true hle; omega), hzw, Option.bind_some, hgr, Option.bind_some, hor, Option.bind_some, Z2L hly, hbad]; rfl)
     intro zl hzl
     try dsimp only [nA, cA]
     refine Jt (Z3B (off := 2) (by kernel_rfl) rfl rfl) rfl ?_
     refine Jt (Z1 Z2b rfl) rfl ?_
     refine JO.m (Zf (cs' := [_, _, _, _, _, _, _, _, _, _, _, _, _, _]) rfl rfl (by repeat first | exact .here | apply Ut) rfl rfl rfl rfl Z38) (by rfl) ?_
     apply Ni
     repeat first | apply Nx | apply Nb
     refine Sl [2, 3] (.cons rfl (.cons rfl .nil)) ?_
     first | (have hnl : isT 1 Z1z _ = false := ht89; rw [ZQ hnl]; have hlr := Z4b hnl) | (have hlr := Z2L hly; rw [hzl] at hlr)
     repeat apply Sq
     apply Pn
     refine Jt (ZG (cs := [_, _, _, _, _, _, _, _, _, _, _, _, _, _]) Z8 rfl rfl rfl) rfl ?_
     refine JO.m (Z3 rfl rfl (by repeat first | exact .here | apply Ut) (by first | exact cI rfl rfl | exact cE) (by first | exact cI rfl rfl | exact cE | exact cO) Zj) (by rfl) ?_
     apply Ni
     repeat first | apply Nx | apply Nb
     refine Sl [2] (.cons rfl .nil) ?_
     repeat apply Sq
     apply Rt
     repeat first | apply Rp | apply Rb
     refine JX.toP ?_
     exact JX.retLCs (Lr := [_, _]) (L1 := fun z : Pz.St × List T3 => [PB T b z.2]) (R := fun z => .rep (StR N z.1)) rfl ({ stK 4 with items := zi.1, from_ := ps.map Cel.x, where_ := zw.1, group := zg.1, order := zo.1, limit := zl.1.n }, zl.2) (by rw [ZZ, hzi, Option.bind_some, hzf, Option.bind_some, hzs, Option.bind_some, hJ, Z1l hno, Option.bind_some]; unfold qTail; rw [if_pos (by rw [List.length_map]; have := of_decide_eq_true hle; omega), hzw, Option.bind_some, hgr, Option.bind_some, hor, Option.bind_some, hlr]; rfl) (.refl _) rfl rfl hb0 rfl Z8 HasOwn.mem (Z18 rfl) (Sub.st rfl fun X w hf w' hk => ⟨Zb (FrS.nil _), Zb (FrS.nil _), Zb trivial, SlE.weak (hf _ (by repeat first | exact Mh | apply Mt) w' hk) (fun _ _ _ _ => trivial), (by show SlE srE noS (ps.map Cel.x) (.slice (adO st) ps.length (capO st cap)) w'; rw [← hG.sl.1]; exact SlE.ofGr0 hG (hf _ (by repeat first | exact Mh | apply Mt) w' hk) (hf _ (by repeat first | exact Mh | apply Mt) w' hk)), hf _ (by repeat first | exact Mh | apply Mt) w' hk, SlE.exs (hf _ (by repeat first | exact Mh | apply Mt) w' hk), SlE.weak (hf _ (by repeat first | exact Mh | apply Mt) w' hk) (fun _ _ _ _ => trivial), Z13⟩)
    ·
     try simp only [dT, dF] at ht89
     apply Sk
     repeat first | apply Nx | apply Nb
     first | (have hnl : isT 1 Z1z _ = false := ht89; rw [ZQ hnl]; have hlr := Z4b hnl) | (have hlr := Z2L hly; rw [hzl] at hlr)
     repeat apply Sq
     apply Pn
     refine Jt (ZG (cs := [_, _, _, _, _, _, _, _, _, _, _, _, _, _]) Z8 rfl rfl rfl) rfl ?_
     refine JO.m (Z3 rfl rfl (by repeat first | exact .here | apply Ut) (by first | exact cI rfl rfl | exact cE) (by first | exact cI rfl rfl | exact cE | exact cO) Zj) (by rfl) ?_
     apply Ni
     repeat first | apply Nx | apply Nb
     refine Sl [2] (.cons rfl .nil) ?_
     repeat apply Sq
     apply Rt
     repeat first | apply Rp | apply Rb
     refine JX.toP ?_
     exact JX.retLCs (Lr := [_, _]) (L1 := fun z : Pz.St × List T3 => [PB T b z.2]) (R := fun z => .rep (StR N z.1)) rfl ({ stK 4 with items := zi.1, from_ := ps.map Cel.x, where_ := zw.1, group := zg.1, order := zo.1, limit := -1 }, zo.2) (by rw [ZZ, hzi, Option.bind_some, hzf, Option.bind_some, hzs, Option.bind_some, hJ, Z1l hno, Option.bind_some]; unfold qTail; rw [if_pos (by rw [List.length_map]; have := of_decide_eq_true hle; omega), hzw, Option.bind_some, hgr, Option.bind_some, hor, Option.bind_some, hlr]; rfl) (.refl _) rfl rfl hb0 rfl Z8 HasOwn.mem (Z18 rfl) (Sub.st rfl fun X w hf w' hk => ⟨Zb (FrS.nil _), Zb (FrS.nil _), Zb trivial, SlE.weak (hf _ (by repeat first | exact Mh | apply Mt) w' hk) (fun _ _ _ _ => trivial), (by show SlE srE noS (ps.map Cel.x) (.slice (adO st) ps.length (capO st cap)) w'; rw [← hG.sl.1]; exact SlE.ofGr0 hG (hf _ (by repeat first | exact Mh | apply Mt) w' hk) (hf _ (by repeat first | exact Mh | apply Mt) w' hk)), hf _ (by repeat first | exact Mh | apply Mt) w' hk, SlE.exs (hf _ (by repeat first | exact Mh | apply Mt) w' hk), SlE.weak (hf _ (by repeat first | exact Mh | apply Mt) w' hk) (fun _ _ _ _ => trivial), Z13⟩)
   ·
    try simp only [dT, dF] at ht82
    apply Sk
    repeat first | apply Nx | apply Nb
    first | (have hno2 : isT 1 Z2J _ = false := ht82; rw [ZQ hno2]; have hx21 := hx18; have hor := Z8E (e := e) hno2) | (have hx21 := hxo; have hor : orderP e _ = some zo := (by rw [Z4k hoy, hzp, Option.bind_some]; exact hzo))
    repeat apply Sq
    apply Pn
    refine Jt (Z0 rfl) rfl ?_
    refine JO.callK (Lr := [_, _]) (Zd T hc b _ (hx21.trans hts) Z1z) rfl (.refl _) (fun F hF => by repeat (first | (rcases Mc.1 hF with rfl | hF; · (repeat first | exact Mh | apply Mt)) | (cases hF; done))) (.one rfl (.one rfl .nil)) ?_
    intro _ _
    try dsimp only [nA, cA]
    apply Ni
    repeat first | apply Nx | apply Nb
    refine Sl [0, 2, 3, 89] (.cons rfl (.cons rfl (.cons rfl (.cons rfl .nil)))) ?_
    repeat apply Sq
    refine Cd rfl (fun ht89 => ?_) (fun ht89 => ?_)
    ·
     try simp only [dT, dF] at ht89
     have hly : isT 1 Z1z _ = true := ht89
     rw [ZO hly]
     repeat apply Sq
     apply Pn
     refine Jt (Z0 rfl) rfl ?_
     refine JO.callPK (Lr := [_, _]) (Z1i T hc b _ ((List.tail_suffix _).trans (hx21.trans hts)) 3) rfl (.refl _) (fun F hF => by repeat (first | (rcases Mc.1 hF with rfl | hF; · (repeat first | exact Mh | apply Mt)) | (cases hF; done))) (.one rfl (.one rfl .nil)) (fun hbad => ?_) ?_
     · exact JX.pnI (by rw [ZZ, hzi, Option.bind_some, hzf, Option.bind_some, hzs, Option.bind_some, hJ, Z1l hno, Option.bind_some]; unfold qTail; rw [if_pos (by rw [List.length_map]; have := of_decide_eq_true hle; omega), hzw, Option.bind_some, hgr, Option.bind_some, hor, Option.bind_some, Z2L hly, hbad]; rfl)
     intro zl hzl
     try dsimp only [nA, cA]
     refine Jt (Z3B (off := 2) (by kernel_rfl) rfl rfl) rfl ?_
     refine Jt (Z1 Z2b rfl) rfl ?_
     refine JO.m (Zf (cs' := [_, _, _, _, _, _, _, _, _, _, _, _, _, _]) rfl rfl (by repeat first | exact .here | apply Ut) rfl rfl rfl rfl Z38) (by rfl) ?_
     apply Ni
     repeat first | apply Nx | apply Nb
     refine Sl [2, 3] (.cons rfl (.cons rfl .nil)) ?_
     first | (have hnl : isT 1 Z1z _ = false := ht89; rw [ZQ hnl]; have hlr := Z4b hnl) | (have hlr := Z2L hly; rw [hzl] at hlr)
     repeat apply Sq
     apply Pn
     refine Jt (ZG (cs := [_, _, _, _, _, _, _, _, _, _, _, _, _, _]) Z8 rfl rfl rfl) rfl ?_
     refine JO.m (Z3 rfl rfl (by repeat first | exact .here | apply Ut) (by first | exact cI rfl rfl | exact cE) (by first | exact cI rfl rfl | exact cE | exact cO) Zj) (by rfl) ?_
     apply Ni
     repeat first | apply Nx | apply Nb
     refine Sl [2] (.cons rfl .nil) ?_
     repeat apply Sq
     apply Rt
     repeat first | apply Rp | apply Rb
     refine JX.toP ?_
     exact JX.retLCs (Lr := [_, _]) (L1 := fun z : Pz.St × List T3 => [PB T b z.2]) (R := fun z => .rep (StR N z.1)) rfl ({ stK 4 with items := zi.1, from_ := ps.map Cel.x, where_ := zw.1, group := zg.1, order := [], limit := zl.1.n }, zl.2) (by rw [ZZ, hzi, Option.bind_some, hzf, Option.bind_some, hzs, Option.bind_some, hJ, Z1l hno, Option.bind_some]; unfold qTail; rw [if_pos (by rw [List.length_map]; have := of_decide_eq_true hle; omega), hzw, Option.bind_some, hgr, Option.bind_some, hor, Option.bind_some, hlr]; rfl) (.refl _) rfl rfl hb0 rfl Z8 HasOwn.mem (Z18 rfl) (Sub.st rfl fun X w hf w' hk => ⟨Zb (FrS.nil _), Zb (FrS.nil _), Zb trivial, SlE.weak (hf _ (by repeat first | exact Mh | apply Mt) w' hk) (fun _ _ _ _ => trivial), (by show SlE srE noS (ps.map Cel.x) (.slice (adO st) ps.length (capO st cap)) w'; rw [← hG.sl.1]; exact SlE.ofGr0 hG (hf _ (by repeat first | exact Mh | apply Mt) w' hk) (hf _ (by repeat first | exact Mh | apply Mt) w' hk)), hf _ (by repeat first | exact Mh | apply Mt) w' hk, SlE.exs (hf _ (by repeat first | exact Mh | apply Mt) w' hk), Zb trivial, Z13⟩)
    ·
     try simp only [dT, dF] at ht89
     apply Sk
     repeat first | apply Nx | apply Nb
     first | (have hnl : isT 1 Z1z _ = false := ht89; rw [ZQ hnl]; have hlr := Z4b hnl) | (have hlr := Z2L hly; rw [hzl] at hlr)
     repeat apply Sq
     apply Pn
     refine Jt (ZG (cs := [_, _, _, _, _, _, _, _, _, _, _, _, _, _]) Z8 rfl rfl rfl) rfl ?_
     refine JO.m (Z3 rfl rfl (by repeat first | exact .here | apply Ut) (by first | exact cI rfl rfl | exact cE) (by first | exact cI rfl rfl | exact cE | exact cO) Zj) (by rfl) ?_
     apply Ni
     repeat first | apply Nx | apply Nb
     refine Sl [2] (.cons rfl .nil) ?_
     repeat apply Sq
     apply Rt
     repeat first | apply Rp | apply Rb
     refine JX.toP ?_
     exact JX.retLCs (Lr := [_, _]) (L1 := fun z : Pz.St × List T3 => [PB T b z.2]) (R := fun z => .rep (StR N z.1)) rfl ({ stK 4 with items := zi.1, from_ := ps.map Cel.x, where_ := zw.1, group := zg.1, order := [], limit := -1 }, zg.2) (by rw [ZZ, hzi, Option.bind_some, hzf, Option.bind_some, hzs, Option.bind_some, hJ, Z1l hno, Option.bind_some]; unfold qTail; rw [if_pos (by rw [List.length_map]; have := of_decide_eq_true hle; omega), hzw, Option.bind_some, hgr, Option.bind_some, hor, Option.bind_some, hlr]; rfl) (.refl _) rfl rfl hb0 rfl Z8 HasOwn.mem (Z18 rfl) (Sub.st rfl fun X w hf w' hk => ⟨Zb (FrS.nil _), Zb (FrS.nil _), Zb trivial, SlE.weak (hf _ (by repeat first | exact Mh | apply Mt) w' hk) (fun _ _ _ _ => trivial), (by show SlE srE noS (ps.map Cel.x) (.slice (adO st) ps.length (capO st cap)) w'; rw [← hG.sl.1]; exact SlE.ofGr0 hG (hf _ (by repeat first | exact Mh | apply Mt) w' hk) (hf _ (by repeat first | exact Mh | apply Mt) w' hk)), hf _ (by repeat first | exact Mh | apply Mt) w' hk, SlE.exs (hf _ (by repeat first | exact Mh | apply Mt) w' hk), Zb trivial, Z13⟩)
  ·
   try simp only [dT, dF] at ht75
   apply Sk
   repeat first | apply Nx | apply Nb
   first | (have hng : isT 1 Z4h zw.2 = false := ht75; rw [ZQ hng]; have hx18 := hxw; have hgr := ZdJ (e := e) hng) | (have hx18 := hxg; have hgr : groupP e zw.2 = some zg := (by rw [Z8I hgy, hzb, Option.bind_some]; exact hzg))
   repeat apply Sq
   apply Pn
   refine Jt (Z0 rfl) rfl ?_
   refine JO.callK (Lr := [_, _]) (Zd T hc b _ (hx18.trans hts) Z2J) rfl (.refl _) (fun F hF => by repeat (first | (rcases Mc.1 hF with rfl | hF; · (repeat first | exact Mh | apply Mt)) | (cases hF; done))) (.one rfl (.one rfl .nil)) ?_
   intro _ _
   try dsimp only [nA, cA]
   apply Ni
   repeat first | apply Nx | apply Nb
   refine Sl [0, 2, 3, 82] (.cons rfl (.cons rfl (.cons rfl (.cons rfl .nil)))) ?_
   repeat apply Sq
   refine Cd rfl (fun ht82 => ?_) (fun ht82 => ?_)
   ·
    try simp only [dT, dF] at ht82
    have hoy : isT 1 Z2J _ = true := ht82
    rw [ZO hoy]
    repeat apply Sq
    apply Pn
    refine Jt (Z0 rfl) rfl ?_
    refine JO.callPK (Lr := [_, _]) (Zk T hc b _ ((List.tail_suffix _).trans (hx18.trans hts)) w_BY (by decide +kernel) (by decide +kernel) (asc (by decide +kernel))) rfl (.refl _) (fun F hF => by repeat (first | (rcases Mc.1 hF with rfl | hF; · (repeat first | exact Mh | apply Mt)) | (cases hF; done))) (.one rfl (.one rfl .nil)) (fun hbad => ?_) ?_
    · exact JX.pnI (by rw [ZZ, hzi, Option.bind_some, hzf, Option.bind_some, hzs, Option.bind_some, hJ, Z1l hno, Option.bind_some]; unfold qTail; rw [if_pos (by rw [List.length_map]; have := of_decide_eq_true hle; omega), hzw, Option.bind_some, hgr, Option.bind_some, Z4k hoy, hbad]; rfl)
    intro zp hzp
    try dsimp only [nA, cA]
    have hxp : zp.2 <:+ ts := (Zh _ _ _ _ hzp).1.trans ((List.tail_suffix _).trans hx18)
    apply Ni
    repeat first | apply Nx | apply Nb
    refine Sl [0, 2, 3] (.cons rfl (.cons rfl (.cons rfl .nil))) ?_
    repeat apply Sq
    apply Pn
    refine Jt (Z0 rfl) rfl ?_
    refine JO.callPK (Lr := [_, _]) (Z4E N T hc h9 b zp.2 (hxp.trans hts) kyE ZbJ rfl (keyP e) (Z54 hed) 16 Z3e (fun us hus hu => Z4A N T hc h9 b us hus e (fun {us z} h => (hed us z h).1) (fun vs hvs hv => hex vs hvs (by have := hxp.length_le; omega)))) rfl (.refl _) (fun F hF => by repeat (first | (rcases Mc.1 hF with rfl | hF; · (repeat first | exact Mh | apply Mt)) | (cases hF; done))) (.one rfl (.one rfl (.one rfl .nil))) (fun hbad => ?_) ?_
    · exact JX.pnI (by rw [ZZ, hzi, Option.bind_some, hzf, Option.bind_some, hzs, Option.bind_some, hJ, Z1l hno, Option.bind_some]; unfold qTail; rw [if_pos (by rw [List.length_map]; have := of_decide_eq_true hle; omega), hzw, Option.bind_some, hgr, Option.bind_some, Z4k hoy, hzp, Option.bind_some, hbad]; rfl)
    intro zo hzo
    have hxo : zo.2 <:+ ts := (Z5P (Z54 hed) 16 _ _ hzo).1.trans hxp
    try dsimp only [nA, cA]
    refine JO.openEv (s := 86) rfl (fun a86 l86 c86 _ _ => ?_)
    refine Jt (Z1 Z1t rfl) rfl ?_
    refine JO.m (Zf (cs' := [_, _, _, _, _, _, _, _, _, _, _, _, _, _]) rfl rfl (by repeat first | exact .here | apply Ut) rfl rfl rfl rfl Z7Y) (by rfl) ?_
    apply Ni
    repeat first | apply Nx | apply Nb
    refine Sl [0, 2, 3] (.cons rfl (.cons rfl (.cons rfl .nil))) ?_
    first | (have hno2 : isT 1 Z2J _ = false := ht82; rw [ZQ hno2]; have hx21 := hx18; have hor := Z8E (e := e) hno2) | (have hx21 := hxo; have hor : orderP e _ = some zo := (by rw [Z4k hoy, hzp, Option.bind_some]; exact hzo))
    repeat apply Sq
    apply Pn
    refine Jt (Z0 rfl) rfl ?_
    refine JO.callK (Lr := [_, _]) (Zd T hc b _ (hx21.trans hts) Z1z) rfl (.refl _) (fun F hF => by repeat (first | (rcases Mc.1 hF with rfl | hF; · (repeat first | exact Mh | apply Mt)) | (cases hF; done))) (.one rfl (.one rfl .nil)) ?_
    intro _ _
    try dsimp only [nA, cA]
    apply Ni
    repeat first | apply Nx | apply Nb
    refine Sl [0, 2, 3, 89] (.cons rfl (.cons rfl (.cons rfl (.cons rfl .nil)))) ?_
    repeat apply Sq
    refine Cd rfl (fun ht89 => ?_) (fun ht89 => ?_)
    ·
     try simp only [dT, dF] at ht89
     have hly : isT 1 Z1z _ = true := ht89
     rw [ZO hly]
     repeat apply Sq
     apply Pn
     refine Jt (Z0 rfl) rfl ?_
     refine JO.callPK (Lr := [_, _]) (Z1i T hc b _ ((List.tail_suffix _).trans (hx21.trans hts)) 3) rfl (.refl _) (fun F hF => by repeat (first | (rcases Mc.1 hF with rfl | hF; · (repeat first | exact Mh | apply Mt)) | (cases hF; done))) (.one rfl (.one rfl .nil)) (fun hbad => ?_) ?_
     · exact JX.pnI (by rw [ZZ, hzi, Option.bind_some, hzf, Option.bind_some, hzs, Option.bind_some, hJ, Z1l hno, Option.bind_some]; unfold qTail; rw [if_pos (by rw [List.length_map]; have := of_decide_eq_true hle; omega), hzw, Option.bind_some, hgr, Option.bind_some, hor, Option.bind_some, Z2L hly, hbad]; rfl)
     intro zl hzl
     try dsimp only [nA, cA]
     refine Jt (Z3B (off := 2) (by kernel_rfl) rfl rfl) rfl ?_
     refine Jt (Z1 Z2b rfl) rfl ?_
     refine JO.m (Zf (cs' := [_, _, _, _, _, _, _, _, _, _, _, _, _, _]) rfl rfl (by repeat first | exact .here | apply Ut) rfl rfl rfl rfl Z38) (by rfl) ?_
     apply Ni
     repeat first | apply Nx | apply Nb
     refine Sl [2, 3] (.cons rfl (.cons rfl .nil)) ?_
     first | (have hnl : isT 1 Z1z _ = false := ht89; rw [ZQ hnl]; have hlr := Z4b hnl) | (have hlr := Z2L hly; rw [hzl] at hlr)
     repeat apply Sq
     apply Pn
     refine Jt (ZG (cs := [_, _, _, _, _, _, _, _, _, _, _, _, _, _]) Z8 rfl rfl rfl) rfl ?_
     refine JO.m (Z3 rfl rfl (by repeat first | exact .here | apply Ut) (by first | exact cI rfl rfl | exact cE) (by first | exact cI rfl rfl | exact cE | exact cO) Zj) (by rfl) ?_
     apply Ni
     repeat first | apply Nx | apply Nb
     refine Sl [2] (.cons rfl .nil) ?_
     repeat apply Sq
     apply Rt
     repeat first | apply Rp | apply Rb
     refine JX.toP ?_
     exact JX.retLCs (Lr := [_, _]) (L1 := fun z : Pz.St × List T3 => [PB T b z.2]) (R := fun z => .rep (StR N z.1)) rfl ({ stK 4 with items := zi.1, from_ := ps.map Cel.x, where_ := zw.1, group := [], order := zo.1, limit := zl.1.n }, zl.2) (by rw [ZZ, hzi, Option.bind_some, hzf, Option.bind_some, hzs, Option.bind_some, hJ, Z1l hno, Option.bind_some]; unfold qTail; rw [if_pos (by rw [List.length_map]; have := of_decide_eq_true hle; omega), hzw, Option.bind_some, hgr, Option.bind_some, hor, Option.bind_some, hlr]; rfl) (.refl _) rfl rfl hb0 rfl Z8 HasOwn.mem (Z18 rfl) (Sub.st rfl fun X w hf w' hk => ⟨Zb (FrS.nil _), Zb (FrS.nil _), Zb trivial, SlE.weak (hf _ (by repeat first | exact Mh | apply Mt) w' hk) (fun _ _ _ _ => trivial), (by show SlE srE noS (ps.map Cel.x) (.slice (adO st) ps.length (capO st cap)) w'; rw [← hG.sl.1]; exact SlE.ofGr0 hG (hf _ (by repeat first | exact Mh | apply Mt) w' hk) (hf _ (by repeat first | exact Mh | apply Mt) w' hk)), hf _ (by repeat first | exact Mh | apply Mt) w' hk, Z13, SlE.weak (hf _ (by repeat first | exact Mh | apply Mt) w' hk) (fun _ _ _ _ => trivial), Z13⟩)
    ·
     try simp only [dT, dF] at ht89
     apply Sk
     repeat first | apply Nx | apply Nb
     first | (have hnl : isT 1 Z1z _ = false := ht89; rw [ZQ hnl]; have hlr := Z4b hnl) | (have hlr := Z2L hly; rw [hzl] at hlr)
     repeat apply Sq
     apply Pn
     refine Jt (ZG (cs := [_, _, _, _, _, _, _, _, _, _, _, _, _, _]) Z8 rfl rfl rfl) rfl ?_
     refine JO.m (Z3 rfl rfl (by repeat first | exact .here | apply Ut) (by first | exact cI rfl rfl | exact cE) (by first | exact cI rfl rfl | exact cE | exact cO) Zj) (by rfl) ?_
     apply Ni
     repeat first | apply Nx | apply Nb
     refine Sl [2] (.cons rfl .nil) ?_
     repeat apply Sq
     apply Rt
     repeat first | apply Rp | apply Rb
     refine JX.toP ?_
     exact JX.retLCs (Lr := [_, _]) (L1 := fun z : Pz.St × List T3 => [PB T b z.2]) (R := fun z => .rep (StR N z.1)) rfl ({ stK 4 with items := zi.1, from_ := ps.map Cel.x, where_ := zw.1, group := [], order := zo.1, limit := -1 }, zo.2) (by rw [ZZ, hzi, Option.bind_some, hzf, Option.bind_some, hzs, Option.bind_some, hJ, Z1l hno, Option.bind_some]; unfold qTail; rw [if_pos (by rw [List.length_map]; have := of_decide_eq_true hle; omega), hzw, Option.bind_some, hgr, Option.bind_some, hor, Option.bind_some, hlr]; rfl) (.refl _) rfl rfl hb0 rfl Z8 HasOwn.mem (Z18 rfl) (Sub.st rfl fun X w hf w' hk => ⟨Zb (FrS.nil _), Zb (FrS.nil _), Zb trivial, SlE.weak (hf _ (by repeat first | exact Mh | apply Mt) w' hk) (fun _ _ _ _ => trivial), (by show SlE srE noS (ps.map Cel.x) (.slice (adO st) ps.length (capO st cap)) w'; rw [← hG.sl.1]; exact SlE.ofGr0 hG (hf _ (by repeat first | exact Mh | apply Mt) w' hk) (hf _ (by repeat first | exact Mh | apply Mt) w' hk)), hf _ (by repeat first | exact Mh | apply Mt) w' hk, Z13, SlE.weak (hf _ (by repeat first | exact Mh | apply Mt) w' hk) (fun _ _ _ _ => trivial), Z13⟩)
   ·
    try simp only [dT, dF] at ht82
    apply Sk
    repeat first | apply Nx | apply Nb
    first | (have hno2 : isT 1 Z2J _ = false := ht82; rw [ZQ hno2]; have hx21 := hx18; have hor := Z8E (e := e) hno2) | (have hx21 := hxo; have hor : orderP e _ = some zo := (by rw [Z4k hoy, hzp, Option.bind_some]; exact hzo))
    repeat apply Sq
    apply Pn
    refine Jt (Z0 rfl) rfl ?_
    refine JO.callK (Lr := [_, _]) (Zd T hc b _ (hx21.trans hts) Z1z) rfl (.refl _) (fun F hF => by repeat (first | (rcases Mc.1 hF with rfl | hF; · (repeat first | exact Mh | apply Mt)) | (cases hF; done))) (.one rfl (.one rfl .nil)) ?_
    intro _ _
    try dsimp only [nA, cA]
    apply Ni
    repeat first | apply Nx | apply Nb
    refine Sl [0, 2, 3, 89] (.cons rfl (.cons rfl (.cons rfl (.cons rfl .nil)))) ?_
    repeat apply Sq
    refine Cd rfl (fun ht89 => ?_) (fun ht89 => ?_)
    ·
     try simp only [dT, dF] at ht89
     have hly : isT 1 Z1z _ = true := ht89
     rw [ZO hly]
     repeat apply Sq
     apply Pn
     refine Jt (Z0 rfl) rfl ?_
     refine JO.callPK (Lr := [_, _]) (Z1i T hc b _ ((List.tail_suffix _).trans (hx21.trans hts)) 3) rfl (.refl _) (fun F hF => by repeat (first | (rcases Mc.1 hF with rfl | hF; · (repeat first | exact Mh | apply Mt)) | (cases hF; done))) (.one rfl (.one rfl .nil)) (fun hbad => ?_) ?_
     · exact JX.pnI (by rw [ZZ, hzi, Option.bind_some, hzf, Option.bind_some, hzs, Option.bind_some, hJ, Z1l hno, Option.bind_some]; unfold qTail; rw [if_pos (by rw [List.length_map]; have := of_decide_eq_true hle; omega), hzw, Option.bind_some, hgr, Option.bind_some, hor, Option.bind_some, Z2L hly, hbad]; rfl)
     intro zl hzl
     try dsimp only [nA, cA]
     refine Jt (Z3B (off := 2) (by kernel_rfl) rfl rfl) rfl ?_
     refine Jt (Z1 Z2b rfl) rfl ?_
     refine JO.m (Zf (cs' := [_, _, _, _, _, _, _, _, _, _, _, _, _, _]) rfl rfl (by repeat first | exact .here | apply Ut) rfl rfl rfl rfl Z38) (by rfl) ?_
     apply Ni
     repeat first | apply Nx | apply Nb
     refine Sl [2, 3] (.cons rfl (.cons rfl .nil)) ?_
     first | (have hnl : isT 1 Z1z _ = false := ht89; rw [ZQ hnl]; have hlr := Z4b hnl) | (have hlr := Z2L hly; rw [hzl] at hlr)
     repeat apply Sq
     apply Pn
     refine Jt (ZG (cs := [_, _, _, _, _, _, _, _, _, _, _, _, _, _]) Z8 rfl rfl rfl) rfl ?_
     refine JO.m (Z3 rfl rfl (by repeat first | exact .here | apply Ut) (by first | exact cI rfl rfl | exact cE) (by first | exact cI rfl rfl | exact cE | exact cO) Zj) (by rfl) ?_
     apply Ni
     repeat first | apply Nx | apply Nb
     refine Sl [2] (.cons rfl .nil) ?_
     repeat apply Sq
     apply Rt
     repeat first | apply Rp | apply Rb
     refine JX.toP ?_
     exact JX.retLCs (Lr := [_, _]) (L1 := fun z : Pz.St × List T3 => [PB T b z.2]) (R := fun z => .rep (StR N z.1)) rfl ({ stK 4 with items := zi.1, from_ := ps.map Cel.x, where_ := zw.1, group := [], order := [], limit := zl.1.n }, zl.2) (by rw [ZZ, hzi, Option.bind_some, hzf, Option.bind_some, hzs, Option.bind_some, hJ, Z1l hno, Option.bind_some]; unfold qTail; rw [if_pos (by rw [List.length_map]; have := of_decide_eq_true hle; omega), hzw, Option.bind_some, hgr, Option.bind_some, hor, Option.bind_some, hlr]; rfl) (.refl _) rfl rfl hb0 rfl Z8 HasOwn.mem (Z18 rfl) (Sub.st rfl fun X w hf w' hk => ⟨Zb (FrS.nil _), Zb (FrS.nil _), Zb trivial, SlE.weak (hf _ (by repeat first | exact Mh | apply Mt) w' hk) (fun _ _ _ _ => trivial), (by show SlE srE noS (ps.map Cel.x) (.slice (adO st) ps.length (capO st cap)) w'; rw [← hG.sl.1]; exact SlE.ofGr0 hG (hf _ (by repeat first | exact Mh | apply Mt) w' hk) (hf _ (by repeat first | exact Mh | apply Mt) w' hk)), hf _ (by repeat first | exact Mh | apply Mt) w' hk, Z13, Zb trivial, Z13⟩)
    ·
     try simp only [dT, dF] at ht89
     apply Sk
     repeat first | apply Nx | apply Nb
     first | (have hnl : isT 1 Z1z _ = false := ht89; rw [ZQ hnl]; have hlr := Z4b hnl) | (have hlr := Z2L hly; rw [hzl] at hlr)
     repeat apply Sq
     apply Pn
     refine Jt (ZG (cs := [_, _, _, _, _, _, _, _, _, _, _, _, _, _]) Z8 rfl rfl rfl) rfl ?_
     refine JO.m (Z3 rfl rfl (by repeat first | exact .here | apply Ut) (by first | exact cI rfl rfl | exact cE) (by first | exact cI rfl rfl | exact cE | exact cO) Zj) (by rfl) ?_
     apply Ni
     repeat first | apply Nx | apply Nb
     refine Sl [2] (.cons rfl .nil) ?_
     repeat apply Sq
     apply Rt
     repeat first | apply Rp | apply Rb
     refine JX.toP ?_
     exact JX.retLCs (Lr := [_, _]) (L1 := fun z : Pz.St × List T3 => [PB T b z.2]) (R := fun z => .rep (StR N z.1)) rfl ({ stK 4 with items := zi.1, from_ := ps.map Cel.x, where_ := zw.1, group := [], order := [], limit := -1 }, zw.2) (by rw [ZZ, hzi, Option.bind_some, hzf, Option.bind_some, hzs, Option.bind_some, hJ, Z1l hno, Option.bind_some]; unfold qTail; rw [if_pos (by rw [List.length_map]; have := of_decide_eq_true hle; omega), hzw, Option.bind_some, hgr, Option.bind_some, hor, Option.bind_some, hlr]; rfl) (.refl _) rfl rfl hb0 rfl Z8 HasOwn.mem (Z18 rfl) (Sub.st rfl fun X w hf w' hk => ⟨Zb (FrS.nil _), Zb (FrS.nil _), Zb trivial, SlE.weak (hf _ (by repeat first | exact Mh | apply Mt) w' hk) (fun _ _ _ _ => trivial), (by show SlE srE noS (ps.map Cel.x) (.slice (adO st) ps.length (capO st cap)) w'; rw [← hG.sl.1]; exact SlE.ofGr0 hG (hf _ (by repeat first | exact Mh | apply Mt) w' hk) (hf _ (by repeat first | exact Mh | apply Mt) w' hk)), hf _ (by repeat first | exact Mh | apply Mt) w' hk, Z13, Zb trivial, Z13⟩)
end Go.Proofs.YtbedigkncjbggaaGreatDoor
