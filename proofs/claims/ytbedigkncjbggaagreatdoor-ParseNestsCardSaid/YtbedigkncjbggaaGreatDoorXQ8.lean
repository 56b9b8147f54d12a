/- The parser: queries. No condition. -/
import Derived.Test.YtbedigkncjbggaaGreatDoorXQ7
set_option maxRecDepth 20000
namespace Go.Proofs.YtbedigkncjbggaaGreatDoor
open Go Go.Vc
open Go.Pz
abbrev srC (s : Pz.Src) : Cel srE := ⟨s, [.string s.tb, .string s.nm, .slice none 0 0], rfl, by
 intro u hu
 simp only [List.mem_cons, List.mem_nil_iff, or_false] at hu
 rcases hu with rfl | rfl | rfl <;> rfl⟩
theorem ZhJ {s : Pz.Src} (h : s.on = []) (w : World) : CelR (srC s) w := ⟨_, rfl, by rw [h]; exact Z11⟩
abbrev sjC (s : Pz.Src) (x : Ex) (a : Option Addr) (l c : Nat) : Cel srE := ⟨{ s with on := [x] }, [.string s.tb, .string s.nm, .slice a l c], rfl, by
 intro u hu
 simp only [List.mem_cons, List.mem_nil_iff, or_false] at hu
 rcases hu with rfl | rfl | rfl <;> rfl⟩
theorem ZhC {s : Pz.Src} {x : Ex} {a : Option Addr} {l c : Nat} {w : World} (h : ExsR [x] (.slice a l c) w) : CelR (sjC s x a l c) w := ⟨_, rfl, h⟩
attribute [local irreducible] SlE ExsR
theorem Z6s (N : Nat) (T : Tk) (hc : T.ts.length ≤ T.cap) (h9 : T.ts.length ≤ 2049) (b : Nat) (ts : List T3) (hts : ts <:+ T.ts) (e : Ps Ex) (hed : Dn e) (hex : ∀ us, us <:+ T.ts → us.length ≤ ts.length → CallP Tryz.prog Zw [PB T b (us)] [T.G, AF] [.is (.pointer (some ⟨b, 0, none⟩))] (e (us) = none) flt (fun z : Ex × List T3 => e (us) = some z) (fun z => [PB T b z.2]) (fun z => .rep (ExR z.1))) : CallP Tryz.prog Z2O [PB T b ts] [T.G, AF, NH N] [.is (.pointer (some ⟨b, 0, none⟩))] (queryP e ts = none) flt (fun z : Pz.St × List T3 => queryP e ts = some z) (fun z => [PB T b z.2]) (fun z => .rep (StR N z.1)) :=
CallP.ofN (N := N) (List.mem_cons_of_mem _ (List.mem_cons_of_mem _ List.mem_cons_self)) (fn := Tryz.f60) Tryz.func60 (n := 95) rfl rfl rfl (fun _ _ => by kernel_rfl) fun E W hNW hb0 => by
 repeat apply Sq
 apply Pn
 refine JO.alloc Z10 rfl fun b2 => ?_
 apply Ni
 repeat first | apply Nx | apply Nb
 refine Sl [0, 2] (.cons rfl (.cons rfl .nil)) ?_
 repeat apply Sq
 apply Pn
 refine Jt (Zv (cs := [_, _, _, _, _, _, _, _, _, _, _, _, _, _]) Z26 (.cons rfl (.cons rfl .nil)) rfl rfl) rfl ?_
 refine JO.alloc Z10 rfl fun b3 => ?_
 refine JO.m (Z4 rfl rfl (by repeat first | exact .here | apply Ut) (by first | exact cI rfl rfl | exact cE) (by first | exact cI rfl rfl | exact cE | exact cO) Zl) (by rfl) ?_
 apply Ni
 repeat first | apply Nx | apply Nb
 refine Sl [0, 2, 3] (.cons rfl (.cons rfl (.cons rfl .nil))) ?_
 repeat apply Sq
 apply Pn
 refine Jt (Z0 rfl) rfl ?_
 refine JO.callPK (Lr := [_, _]) (Z6X N T hc h9 b ts hts itE Zfp rfl (itemP e) (Z5D hed) 16 Z4e (fun us hus hu => Z6I N T hc h9 b us hus e (fun vs hvs hv => hex vs hvs (by omega)))) rfl (List.perm_append_comm (l₁ := [_, _]) (l₂ := [_])) (fun F hF => by repeat (first | (rcases Mc.1 hF with rfl | hF; · (repeat first | exact Mh | apply Mt)) | (cases hF; done))) (.one rfl (.one rfl (.one rfl .nil))) (fun hbad => ?_) ?_
 · exact JX.pnI (by rw [ZW, hbad]; rfl)
 intro zi hzi
 have hi : Lt zi.2 ts := Z5M (Z5D hed) 16 _ _ hzi
 try dsimp only [nA, cA]
 refine JO.openEv (s := 8) rfl (fun a8 l8 c8 _ _ => ?_)
 refine Jt (Z1 Z1q rfl) rfl ?_
 refine JO.m (Zg (cs' := [_, _, _, _, _, _, _, _, _, _, _, _, _, _]) rfl rfl (by repeat first | exact .here | apply Ut) rfl rfl rfl rfl Z9v) (by rfl) ?_
 apply Ni
 repeat first | apply Nx | apply Nb
 refine Sl [0, 2, 3] (.cons rfl (.cons rfl (.cons rfl .nil))) ?_
 repeat apply Sq
 apply Pn
 refine Jt (Z0 rfl) rfl ?_
 refine JO.callPK (Lr := [_, _]) (Zm T hc b (zi.2) (hi.1.trans hts) Z5B (by decide +kernel) (by decide +kernel) (asc (by decide +kernel))) rfl (.refl _) (fun F hF => by repeat (first | (rcases Mc.1 hF with rfl | hF; · (repeat first | exact Mh | apply Mt)) | (cases hF; done))) (.one rfl (.one rfl .nil)) (fun hbad => ?_) ?_
 · exact JX.pnI (by rw [ZW, hzi, Option.bind_some, hbad]; rfl)
 intro zf hzf
 have hf_ : Lt zf.2 ts := Lt.trans (Zi _ _ _ _ hzf) hi.1
 try dsimp only [nA, cA]
 apply Ni
 repeat first | apply Nx | apply Nb
 refine Sl [0, 2, 3] (.cons rfl (.cons rfl (.cons rfl .nil))) ?_
 repeat apply Sq
 apply Pn
 refine Jt (Z0 rfl) rfl ?_
 refine JO.callPK (Lr := [_, _]) (Z3M T hc b zf.2 (hf_.1.trans hts)) rfl (.refl _) (fun F hF => by repeat (first | (rcases Mc.1 hF with rfl | hF; · (repeat first | exact Mh | apply Mt)) | (cases hF; done))) (.one rfl .nil) (fun hbad => ?_) ?_
 · exact JX.pnI (by rw [ZW, hzi, Option.bind_some, hzf, Option.bind_some, hbad]; rfl)
 intro zs hzs
 have hs_ : Lt zs.2 ts := Lt.trans (Z3F _ _ hzs) hf_.1
 have hon := Za6 hzs
 try dsimp only [nA, cA]
 refine JO.buildE (p := srC zs.1) Zay Z5T rfl (by decide) rfl rfl (fun b14 => ?_)
 refine Jt (Z1 ZX rfl) rfl ?_
 refine JO.m (Zg (cs' := [_, _, _, _, _, _, _, _, _, _, _, _, _, _]) rfl rfl (by repeat first | exact .here | apply Ut) rfl rfl rfl rfl Z5Q) (by rfl) ?_
 apply Ni
 repeat first | apply Nx | apply Nb
 refine Sl [0, 2, 3] (.cons rfl (.cons rfl (.cons rfl .nil))) ?_
 refine J.has (L' := [PB T b zs.2, ⟨b3, _, _⟩, ⟨b2, _, _⟩, ⟨b14, _, _⟩]) (by repeat (first | exact .all | exact .nil | refine Has.own (by repeat first | exact .here | apply Tl.past | apply Tl.there) ?_ | refine Has.cons (by repeat (first | exact .here | apply Pk.past | apply Pk.there)) ?_)) ?_
 repeat apply Sq
 apply Pn
 refine Jt (Z0 rfl) rfl ?_
 refine JO.callK (Lr := _) (Ze T hc b zs.2 (hs_.1.trans hts) Z18) rfl (.refl _) (fun F hF => by repeat (first | (rcases Mc.1 hF with rfl | hF; · (repeat first | exact Mh | apply Mt)) | (cases hF; done))) (.one rfl (.one rfl .nil)) ?_
 intro _ _
 try dsimp only [nA, cA]
 refine Jt (Z2 rfl) rfl ?_
 apply Ni
 repeat first | apply Nx | apply Nb
 refine Sl [0, 2, 3, 4] (.cons rfl (.cons rfl (.cons rfl (.cons rfl .nil)))) ?_
 repeat apply Sq
 apply Bk
 repeat apply Sq
 refine J.loopH (α := List (Cel srE) × Option (Nat × List Value) × Nat × List T3) (fun x => [(0, .is (.pointer (some ⟨b, 0, none⟩))), (2, .is (.pointer (some ⟨b2, 0, none⟩))), (3, .is (.pointer (some ⟨b3, 0, none⟩))), (4, .is (.bool (isT 1 Z18 x.2.2.2)))]) (fun x => PB T b (skT 1 Z18 x.2.2.2) :: ⟨b3, Zx, .is (.agg #[.int .i64 4, .string ⟨#[]⟩, .string ⟨#[]⟩, .slice none 0 0, .slice none 0 0, .slice none 0 0, .slice a8 l8 c8, sliceO x.2.1 x.1.length x.2.2.1, .slice none 0 0, .slice none 0 0, .slice none 0 0, .int .i64 (-1), .slice none 0 0, .bool false])⟩ :: ⟨b2, Zx, .is (.agg #[.int .i64 0, .string ⟨#[]⟩, .string ⟨#[]⟩, .slice none 0 0, .slice none 0 0, .slice none 0 0, .slice none 0 0, .slice none 0 0, .slice none 0 0, .slice none 0 0, .slice none 0 0, .int .i64 0, .slice none 0 0, .bool false])⟩ :: ownO x.2.1 Z7t []) (fun x => CelF srE x.1) (fun x => x.2.2.2 <:+ ts ∧ x.1.length + x.2.2.2.length ≤ ts.length ∧ Grows Cel.cs 3 x.1 x.2.1 x.2.2.1 ∧ joinI e [zs.1] zs.2 = joinI e (x.1.map Cel.x) x.2.2.2) (fun x => x.2.2.2.length) ([srC zs.1], some (b14, (srC zs.1).cs), 1, zs.2) [0, 2, 3, 4] (.cons rfl (.cons rfl (.cons rfl (.cons rfl .nil)))) rfl (fun X w hF => fun w' hk p hp => by rw [List.mem_singleton.1 hp]; exact ZhJ hon w') ⟨hs_.1, (show 1 + zs.2.length ≤ ts.length by have := hs_.2; omega), growE (srC zs.1), rfl⟩ fun ⟨ps, st, cap, us⟩ ⟨hus, hlen, hG, hJ⟩ => ?_
 try dsimp only
 try dsimp only at st
 try dsimp only at cap
 try dsimp only at us
 try dsimp only at hus
 try dsimp only at hlen
 try dsimp only at hG
 try dsimp only at hJ
 have hut : us <:+ T.ts := hus.trans hts
 have hvs : skT 1 Z18 us <:+ T.ts := (Z3Q _ _ _).trans hut
 repeat apply Sq
 apply Pn
 refine Jt (Z0 rfl) rfl ?_
 refine Jt (Z0 rfl) rfl ?_
 refine JO.tg rfl rfl rfl rfl rfl (fun hg => Z0 (.inl rfl)) ?_
 refine JO.tg rfl rfl rfl rfl rfl (fun hg => Z5 (.inr ⟨_, rfl, id⟩)) ?_
 refine JO.tg rfl rfl rfl rfl rfl (fun hg => Z1 Zh (.inr ⟨_, rfl, id⟩)) ?_
 refine JO.tg rfl rfl rfl rfl rfl (fun hg => Z3 Zt (.inr ⟨_, rfl, id⟩) rfl) ?_
 refine JO.tg rfl rfl rfl rfl rfl (fun hg => Zq ZU (.inr ⟨_, rfl, id⟩)) ?_
 refine JO.tg rfl rfl rfl rfl rfl (fun hg => Z2L (.inr ⟨_, rfl, id⟩) (.inl rfl)) ?_
 refine JO.tg rfl rfl rfl rfl rfl (fun hg => Z0 (.inr ⟨_, rfl, id⟩)) ?_
 refine JO.tgg rfl rfl rfl rfl rfl (fun hg => Z0 (.inl rfl)) ?_
 refine JO.tgg rfl rfl rfl rfl rfl (fun hg => Z5 (.inr ⟨_, rfl, id⟩)) ?_
 refine JO.tgg rfl rfl rfl rfl rfl (fun hg => Z1 Zh (.inr ⟨_, rfl, id⟩)) ?_
 refine JO.tgg rfl rfl rfl rfl rfl (fun hg => Z3 Zt (.inr ⟨_, rfl, id⟩) rfl) ?_
 refine JO.tgg rfl rfl rfl rfl rfl (fun hg => Z7 ZT (.inr ⟨_, rfl, id⟩) rfl (.inl rfl) (by omega) (Z2c (Z2m hg.2))) ?_
 refine JO.tgg rfl rfl rfl rfl rfl (fun hg => Z1 Z4S (.inr ⟨_, rfl, id⟩)) ?_
 refine JO.tgg rfl rfl rfl rfl rfl (fun hg => ZA (enc := T3.cells) (sz := 3) (i := T.k (skT 1 Z18 us)) (j := 1) (y := (skT 1 Z18 us).headD t3D) (u := .string ((skT 1 Z18 us).headD t3D).t) Zr (.inr ⟨_, rfl, id⟩) (by repeat first | exact Mh | apply Mt) rfl (Tk.head hvs (Z2m hg.2)) (by rw [Tk.j_eq hc hvs (Z2m hg.2)]; omega) rfl) ?_
 refine JO.tgg rfl rfl rfl rfl rfl (fun hg => Z3B (.inr ⟨_, rfl, id⟩) (.inl rfl)) ?_
 refine JO.tg rfl rfl rfl rfl rfl (fun hg => ZD (.inr ⟨_, rfl, id⟩) (.inl rfl) (.inl rfl) (fun h => ⟨hg, h⟩)) ?_
 refine JO.tg rfl rfl rfl rfl rfl (fun hg => Z0 (.inr ⟨_, rfl, id⟩)) ?_
 refine JO.tgg rfl rfl rfl rfl rfl (fun hg => Z0 (.inl rfl)) ?_
 refine JO.tgg rfl rfl rfl rfl rfl (fun hg => Z5 (.inr ⟨_, rfl, id⟩)) ?_
 refine JO.tgg rfl rfl rfl rfl rfl (fun hg => Z1 Zh (.inr ⟨_, rfl, id⟩)) ?_
 refine JO.tgg rfl rfl rfl rfl rfl (fun hg => Z3 Zt (.inr ⟨_, rfl, id⟩) rfl) ?_
 refine JO.tgg rfl rfl rfl rfl rfl (fun hg => Z7 ZT (.inr ⟨_, rfl, id⟩) rfl (.inl rfl) (by omega) (Z2c (Z2m ((Bool.and_eq_true _ _).mp hg.2).1))) ?_
 refine JO.tgg rfl rfl rfl rfl rfl (fun hg => Z1 Z2r (.inr ⟨_, rfl, id⟩)) ?_
 refine JO.tgg rfl rfl rfl rfl rfl (fun hg => ZA (enc := T3.cells) (sz := 3) (i := T.k (skT 1 Z18 us)) (j := 0) (y := (skT 1 Z18 us).headD t3D) (u := .int .i64 ((skT 1 Z18 us).headD t3D).k) Zy (.inr ⟨_, rfl, id⟩) (by repeat first | exact Mh | apply Mt) rfl (Tk.head hvs (Z2m ((Bool.and_eq_true _ _).mp hg.2).1)) (by rw [Tk.j_eq hc hvs (Z2m ((Bool.and_eq_true _ _).mp hg.2).1)]; omega) rfl) ?_
 refine JO.tgg rfl rfl rfl rfl rfl (fun hg => Z1e (.inr ⟨_, rfl, id⟩) (.inl rfl)) ?_
 refine JO.tg rfl rfl rfl rfl rfl (fun hg => ZD (.inr ⟨_, rfl, id⟩) (.inl rfl) (.inl rfl) (fun h => ⟨hg, h⟩)) ?_
 refine Jt (ZI rfl rfl rfl id) rfl ?_
 apply Ni
 repeat first | apply Nx | apply Nb
 refine Sl [0, 2, 3, 46] (.cons rfl (.cons rfl (.cons rfl (.cons rfl .nil)))) ?_
 repeat apply Sq
 refine Cd rfl (fun ht46 => ?_) (fun ht46 => ?_)
 ·
  try simp only [dT, dF] at ht46
  apply Sk
  repeat first | apply Nx | apply Nb
  repeat apply Sq
  apply Bk
  have hyj : isJ us = true := by rw [← Zey]; exact ht46
  repeat apply Sq
  apply Pn
  refine Jt (Z0 rfl) rfl ?_
  refine JO.callPK (Lr := _) (Zm T hc b (skT 1 Z18 us) hvs Z5b (by decide +kernel) (by decide +kernel) (asc (by decide +kernel))) rfl (.refl _) (fun F hF => by repeat (first | (rcases Mc.1 hF with rfl | hF; · (repeat first | exact Mh | apply Mt)) | (cases hF; done))) (.one rfl (.one rfl .nil)) (fun hbad => ?_) ?_
  · exact JX.pnI (by rw [ZW, hzi, Option.bind_some, hzf, Option.bind_some, hzs, Option.bind_some, hJ]; rw [Z59 hed hyj]; unfold joinP; rw [hbad]; rfl)
  intro y1 hy1
  have g1 : Lt y1.2 us := Lt.trans (Zi _ _ _ _ hy1) (Z3Q _ _ _)
  try dsimp only [nA, cA]
  apply Ni
  repeat first | apply Nx | apply Nb
  refine Sl [0, 2, 3] (.cons rfl (.cons rfl (.cons rfl .nil))) ?_
  repeat apply Sq
  apply Pn
  refine Jt (Z0 rfl) rfl ?_
  refine JO.callPK (Lr := _) (Z3M T hc b y1.2 (g1.1.trans hut)) rfl (.refl _) (fun F hF => by repeat (first | (rcases Mc.1 hF with rfl | hF; · (repeat first | exact Mh | apply Mt)) | (cases hF; done))) (.one rfl .nil) (fun hbad => ?_) ?_
  · exact JX.pnI (by rw [ZW, hzi, Option.bind_some, hzf, Option.bind_some, hzs, Option.bind_some, hJ]; rw [Z59 hed hyj]; unfold joinP; rw [hy1, Option.bind_some, hbad]; rfl)
  intro y2 hy2
  have g2 : Lt y2.2 us := Lt.trans (Z3F _ _ hy2) g1.1
  try dsimp only [nA, cA]
  refine JO.alloc Z3U rfl fun b5 => ?_
  refine JO.m (Z4 rfl rfl (by repeat first | exact .here | apply Ut) (by first | exact cI rfl rfl | exact cE) (by first | exact cI rfl rfl | exact cE | exact cO) Z3b) (by rfl) ?_
  apply Ni
  repeat first | apply Nx | apply Nb
  refine Sl [0, 2, 3, 5] (.cons rfl (.cons rfl (.cons rfl (.cons rfl .nil)))) ?_
  repeat apply Sq
  apply Pn
  refine Jt (Z0 rfl) rfl ?_
  refine JO.callPK (Lr := _) (Zm T hc b (y2.2) (g2.1.trans hut) w_ON (by decide +kernel) (by decide +kernel) (asc (by decide +kernel))) rfl (.swap _ _ _) (fun F hF => by repeat (first | (rcases Mc.1 hF with rfl | hF; · (repeat first | exact Mh | apply Mt)) | (cases hF; done))) (.one rfl (.one rfl .nil)) (fun hbad => ?_) ?_
  · exact JX.pnI (by rw [ZW, hzi, Option.bind_some, hzf, Option.bind_some, hzs, Option.bind_some, hJ]; rw [Z59 hed hyj]; unfold joinP; rw [hy1, Option.bind_some, hy2, Option.bind_some, hbad]; rfl)
  intro y3 hy3
  have g3 : Lt y3.2 us := Lt.trans (Zi _ _ _ _ hy3) g2.1
  try dsimp only [nA, cA]
  apply Ni
  repeat first | apply Nx | apply Nb
  refine Sl [0, 2, 3, 5] (.cons rfl (.cons rfl (.cons rfl (.cons rfl .nil)))) ?_
  repeat apply Sq
  apply Pn
  refine Jt (Z0 rfl) rfl ?_
  refine JO.callPK (Lr := _) (hex y3.2 (g3.1.trans hut) (by have := g3.2; omega)) rfl (.refl _) (fun F hF => by repeat (first | (rcases Mc.1 hF with rfl | hF; · (repeat first | exact Mh | apply Mt)) | (cases hF; done))) (.one rfl .nil) (fun hbad => ?_) ?_
  · exact JX.pnI (by rw [ZW, hzi, Option.bind_some, hzf, Option.bind_some, hzs, Option.bind_some, hJ]; rw [Z59 hed hyj]; unfold joinP; rw [hy1, Option.bind_some, hy2, Option.bind_some, hy3, Option.bind_some, hbad]; rfl)
  intro y4 hy4
  have g4 : Lt y4.2 us := Lt.trans (hed _ _ hy4) g3.1
  try dsimp only [nA, cA]
  refine Jt (Z3g ZJ rfl) rfl ?_
  refine JO.open_ (s := 57) (R := ExsR [y4.1]) rfl ?_
  rintro v57 ⟨w57, h57⟩
  obtain ⟨a57, l57, c57, rfl⟩ := Z8d h57
  refine Jt (Z1 Z2I rfl) rfl ?_
  refine JO.m (Zg (cs' := [_, _, _]) rfl rfl (by repeat first | exact .here | apply Ut) rfl rfl rfl rfl Z2P) (by rfl) ?_
  apply Ni
  repeat first | apply Nx | apply Nb
  refine Sl [0, 2, 3, 5] (.cons rfl (.cons rfl (.cons rfl (.cons rfl .nil)))) ?_
  repeat apply Sq
  apply Pn
  refine Jt (Z1 ZX rfl) rfl ?_
  refine Jt (Z3 ZP rfl rfl) rfl ?_
  refine Jt (ZN (cs := [_, _, _]) Z2G rfl rfl rfl) rfl ?_
  refine Jt (Z2b (p := sjC y2.1 y4.1 a57 l57 c57) Zay Z5T rfl (by decide) rfl) rfl ?_
  refine JO.apO (ys := [sjC y2.1 y4.1 a57 l57 c57]) Z8G Cel.hlen (.there (.there (.there (.there .here)))) hG rfl rfl (srcE _ Z1M) (by simp) (by show (ps.length + 1) * 56 ≤ 140737488355328; have := hts.length_le; omega) (by show ps.length + 1 ≤ 9223372036854775807; have := hts.length_le; omega) rfl (fun st2 cap2 hG2 => ?_)
  obtain ⟨b63, cs63, rfl⟩ := Z4o hG2 (by simp)
  refine Jt (Z1 ZX rfl) rfl ?_
  refine JO.m (Zg (cs' := [_, _, _, _, _, _, _, _, _, _, _, _, _, _]) rfl rfl (by repeat first | exact .here | apply Ut) rfl rfl rfl rfl Z5Q) (by rfl) ?_
  apply Ni
  repeat first | apply Nx | apply Nb
  refine Sl [0, 2, 3] (.cons rfl (.cons rfl (.cons rfl .nil))) ?_
  repeat apply Sq
  apply Pn
  refine Jt (Z0 rfl) rfl ?_
  refine JO.callK (Lr := [_, _, _, _]) (Ze T hc b y4.2 (g4.1.trans hut) Z18) rfl (.swap _ _ _) (fun F hF => by repeat (first | (rcases Mc.1 hF with rfl | hF; · (repeat first | exact Mh | apply Mt)) | (cases hF; done))) (.one rfl (.one rfl .nil)) ?_
  intro _ _
  try dsimp only [nA, cA]
  refine Jt (Z2 rfl) rfl ?_
  apply Ni
  repeat refine JX.normal_block ?_
  refine JX.roundG (x := (ps, st, cap, us)) (ps ++ [sjC y2.1 y4.1 a57 l57 c57], some (b63, cs63), cap2, y4.2) ?_ ?_ [0, 2, 3, 4] ?_ ?_ ?_ ?_
  · exact ⟨g4.1.trans hus, (by show (ps ++ [sjC y2.1 y4.1 a57 l57 c57]).length + y4.2.length ≤ ts.length; rw [List.length_append]; show ps.length + 1 + y4.2.length ≤ ts.length; have := g4.2; omega), hG2, (by rw [hJ, Z59 hed hyj, List.map_append]; unfold joinP; rw [hy1, Option.bind_some, hy2, Option.bind_some, hy3, Option.bind_some, hy4]; rfl)⟩
  · exact (by show y4.2.length < us.length; exact g4.2)
  · exact (.cons rfl (.cons rfl (.cons rfl (.cons rfl .nil))))
  · exact (.cons .here (.cons (.there (.there .here)) (.cons (.there (.there .here)) (.cons .here .nil))))
  · exact fun G hG => by repeat (first | exact hG | refine List.mem_cons_of_mem _ ?_)
  · exact fun X w hF => fun w' hk => CelF.snoc (hF _ (by repeat first | exact Mh | apply Mt) w' hk) (ZhC (hF _ (by repeat first | exact Mh | apply Mt) w' hk))
 ·
  try simp only [dT, dF] at ht46
  repeat apply Sq
  refine J.exit ?_
  repeat first | refine Ht ?_ | refine Ms rfl ?_ | refine Ep ?_
  repeat first | apply Nx | apply Nb
  have hno : isJ us = false := by rw [← Zey]; exact ht46
  have hni : isT 1 Z18 us = false := (Bool.or_eq_false_iff.1 hno).1
  rw [ZO hni]
  repeat apply Sq
  apply Pn
  refine Jt (Z0 rfl) rfl ?_
  refine Jt (Z1 ZX rfl) rfl ?_
  refine Jt (Z3 ZP rfl rfl) rfl ?_
  refine Jt (Zb2 hG Z1M rfl) rfl ?_
  refine Jt (Z3t rfl rfl) rfl ?_
  refine JO.callPK (Lr := _) (Z8 (.pointer (some ⟨b, 0, none⟩)) (decide ((ps.length : Int) ≤ 4))) rfl (Z19 _) ZV (.one rfl (.one rfl .nil)) (fun hbad => ?_) ?_
  · exact JX.pnI (by rw [ZW, hzi, Option.bind_some, hzf, Option.bind_some, hzs, Option.bind_some, hJ, Z1j hno, Option.bind_some]; unfold qTail; rw [if_neg (by rw [List.length_map]; have := of_decide_eq_false hbad; omega)])
  intro _ hle
  try dsimp only [nA, cA]
  apply Ni
  repeat first | apply Nx | apply Nb
  refine Sl [0, 2, 3] (.cons rfl (.cons rfl (.cons rfl .nil))) ?_
  refine J.freezeOMW (e := Z7t) (sz := 3) hNW Cel.hlen hG (.there (.there (.there .here))) (fun q hq => by simp only [List.map_cons, List.map_nil, List.mem_singleton] at hq; exact ⟨_, List.mem_cons_self, hq.symm⟩) rfl rfl ?_
  rw [hG.sl.1]
  repeat apply Sq
  apply Pn
  refine Jt (Z0 rfl) rfl ?_
  refine JO.callPK (Lr := _) (Z2v N T hc h9 b us hut e (fun vs hvs hv => hex vs hvs (by omega))) rfl (.refl _) (fun F hF => by repeat (first | (rcases Mc.1 hF with rfl | hF; · (repeat first | exact Mh | apply Mt)) | (cases hF; done))) (.one rfl .nil) (fun hbad => ?_) ?_
  · exact JX.pnI (by rw [ZW, hzi, Option.bind_some, hzf, Option.bind_some, hzs, Option.bind_some, hJ, Z1j hno, Option.bind_some]; unfold qTail; rw [if_pos (by rw [List.length_map]; have := of_decide_eq_true hle; omega), hbad]; rfl)
  intro zw hzw
  have hxw : zw.2 <:+ ts := (Z69 hed hzw).trans hus
  try dsimp only [nA, cA]
  refine JO.openEv (s := 72) rfl (fun a72 l72 c72 _ _ => ?_)
  refine Jt (Z1 Z1r rfl) rfl ?_
  refine JO.m (Zg (cs' := [_, _, _, _, _, _, _, _, _, _, _, _, _, _]) rfl rfl (by repeat first | exact .here | apply Ut) rfl rfl rfl rfl Z2P) (by rfl) ?_
  apply Ni
  repeat first | apply Nx | apply Nb
  refine Sl [0, 2, 3] (.cons rfl (.cons rfl (.cons rfl .nil))) ?_
  repeat apply Sq
  apply Pn
  refine Jt (Z0 rfl) rfl ?_
  refine JO.callK (Lr := [_, _]) (Ze T hc b zw.2 (hxw.trans hts) Z4E) rfl (.refl _) (fun F hF => by repeat (first | (rcases Mc.1 hF with rfl | hF; · (repeat first | exact Mh | apply Mt)) | (cases hF; done))) (.one rfl (.one rfl .nil)) ?_
  intro _ _
  try dsimp only [nA, cA]
  apply Ni
  repeat first | apply Nx | apply Nb
  refine Sl [0, 2, 3, 75] (.cons rfl (.cons rfl (.cons rfl (.cons rfl .nil)))) ?_
  repeat apply Sq
  refine Cd rfl (fun ht75 => ?_) (fun ht75 => ?_)
  ·
   try simp only [dT, dF] at ht75
   have hgy : isT 1 Z4E zw.2 = true := ht75
   rw [ZK hgy]
   repeat apply Sq
   apply Pn
   refine Jt (Z0 rfl) rfl ?_
   refine JO.callPK (Lr := [_, _]) (Zm T hc b _ ((List.tail_suffix _).trans (hxw.trans hts)) w_BY (by decide +kernel) (by decide +kernel) (asc (by decide +kernel))) rfl (.refl _) (fun F hF => by repeat (first | (rcases Mc.1 hF with rfl | hF; · (repeat first | exact Mh | apply Mt)) | (cases hF; done))) (.one rfl (.one rfl .nil)) (fun hbad => ?_) ?_
   · exact JX.pnI (by rw [ZW, hzi, Option.bind_some, hzf, Option.bind_some, hzs, Option.bind_some, hJ, Z1j hno, Option.bind_some]; unfold qTail; rw [if_pos (by rw [List.length_map]; have := of_decide_eq_true hle; omega), hzw, Option.bind_some, Z87 hgy, hbad]; rfl)
   intro zb hzb
   try dsimp only [nA, cA]
   have hxb : zb.2 <:+ ts := (Zi _ _ _ _ hzb).1.trans ((List.tail_suffix _).trans hxw)
   apply Ni
   repeat first | apply Nx | apply Nb
   refine Sl [0, 2, 3] (.cons rfl (.cons rfl (.cons rfl .nil))) ?_
   repeat apply Sq
   apply Pn
   refine Jt (Z0 rfl) rfl ?_
   refine JO.callPK (Lr := [_, _]) (Z4a N T hc h9 b zb.2 (hxb.trans hts) exE Z40 rfl e hed 16 Zw (fun us hus hu => by have := hex us hus (by have := hxb.length_le; omega); simp only [Z8f] at this; exact this.weak (fun F hF => by repeat (first | (rcases Mc.1 hF with rfl | hF; · (repeat first | exact Mh | apply Mt)) | (cases hF; done))))) rfl (.refl _) (fun F hF => by repeat (first | (rcases Mc.1 hF with rfl | hF; · (repeat first | exact Mh | apply Mt)) | (cases hF; done))) (.one rfl (.one rfl (.one rfl .nil))) (fun hbad => ?_) ?_
   · exact JX.pnI (by rw [ZW, hzi, Option.bind_some, hzf, Option.bind_some, hzs, Option.bind_some, hJ, Z1j hno, Option.bind_some]; unfold qTail; rw [if_pos (by rw [List.length_map]; have := of_decide_eq_true hle; omega), hzw, Option.bind_some, Z87 hgy, hzb, Option.bind_some, hbad]; rfl)
   intro zg hzg
   have hxg : zg.2 <:+ ts := (Z5M hed 16 _ _ hzg).1.trans hxb
   try dsimp only [nA, cA]
   refine JO.openEv (s := 79) rfl (fun a79 l79 c79 _ _ => ?_)
   refine Jt (Z1 Z3f rfl) rfl ?_
   refine JO.m (Zg (cs' := [_, _, _, _, _, _, _, _, _, _, _, _, _, _]) rfl rfl (by repeat first | exact .here | apply Ut) rfl rfl rfl rfl Z2P) (by rfl) ?_
   apply Ni
   repeat first | apply Nx | apply Nb
   refine Sl [0, 2, 3] (.cons rfl (.cons rfl (.cons rfl .nil))) ?_
   first | (have hng : isT 1 Z4E zw.2 = false := ht75; rw [ZO hng]; have hx18 := hxw; have hgr := Zct (e := e) hng) | (have hx18 := hxg; have hgr : groupP e zw.2 = some zg := (by rw [Z87 hgy, hzb, Option.bind_some]; exact hzg))
   repeat apply Sq
   apply Pn
   refine Jt (Z0 rfl) rfl ?_
   refine JO.callK (Lr := [_, _]) (Ze T hc b _ (hx18.trans hts) Z2U) rfl (.refl _) (fun F hF => by repeat (first | (rcases Mc.1 hF with rfl | hF; · (repeat first | exact Mh | apply Mt)) | (cases hF; done))) (.one rfl (.one rfl .nil)) ?_
   intro _ _
   try dsimp only [nA, cA]
   apply Ni
   repeat first | apply Nx | apply Nb
   refine Sl [0, 2, 3, 82] (.cons rfl (.cons rfl (.cons rfl (.cons rfl .nil)))) ?_
   repeat apply Sq
   refine Cd rfl (fun ht82 => ?_) (fun ht82 => ?_)
   ·
    try simp only [dT, dF] at ht82
    have hoy : isT 1 Z2U _ = true := ht82
    rw [ZK hoy]
    repeat apply Sq
    apply Pn
    refine Jt (Z0 rfl) rfl ?_
    refine JO.callPK (Lr := [_, _]) (Zm T hc b _ ((List.tail_suffix _).trans (hx18.trans hts)) w_BY (by decide +kernel) (by decide +kernel) (asc (by decide +kernel))) rfl (.refl _) (fun F hF => by repeat (first | (rcases Mc.1 hF with rfl | hF; · (repeat first | exact Mh | apply Mt)) | (cases hF; done))) (.one rfl (.one rfl .nil)) (fun hbad => ?_) ?_
    · exact JX.pnI (by rw [ZW, hzi, Option.bind_some, hzf, Option.bind_some, hzs, Option.bind_some, hJ, Z1j hno, Option.bind_some]; unfold qTail; rw [if_pos (by rw [List.length_map]; have := of_decide_eq_true hle; omega), hzw, Option.bind_some, hgr, Option.bind_some, Z47 hoy, hbad]; rfl)
    intro zp hzp
    try dsimp only [nA, cA]
    have hxp : zp.2 <:+ ts := (Zi _ _ _ _ hzp).1.trans ((List.tail_suffix _).trans hx18)
    apply Ni
    repeat first | apply Nx | apply Nb
    refine Sl [0, 2, 3] (.cons rfl (.cons rfl (.cons rfl .nil))) ?_
    repeat apply Sq
    apply Pn
    refine Jt (Z0 rfl) rfl ?_
    refine JO.callPK (Lr := [_, _]) (Z4w N T hc h9 b zp.2 (hxp.trans hts) kyE Zbq rfl (keyP e) (Z5r hed) 16 Z36 (fun us hus hu => Z4g N T hc h9 b us hus e (fun {us z} h => (hed us z h).1) (fun vs hvs hv => hex vs hvs (by have := hxp.length_le; omega)))) rfl (.refl _) (fun F hF => by repeat (first | (rcases Mc.1 hF with rfl | hF; · (repeat first | exact Mh | apply Mt)) | (cases hF; done))) (.one rfl (.one rfl (.one rfl .nil))) (fun hbad => ?_) ?_
    · exact JX.pnI (by rw [ZW, hzi, Option.bind_some, hzf, Option.bind_some, hzs, Option.bind_some, hJ, Z1j hno, Option.bind_some]; unfold qTail; rw [if_pos (by rw [List.length_map]; have := of_decide_eq_true hle; omega), hzw, Option.bind_some, hgr, Option.bind_some, Z47 hoy, hzp, Option.bind_some, hbad]; rfl)
    intro zo hzo
    have hxo : zo.2 <:+ ts := (Z5M (Z5r hed) 16 _ _ hzo).1.trans hxp
    try dsimp only [nA, cA]
    refine JO.openEv (s := 86) rfl (fun a86 l86 c86 _ _ => ?_)
    refine Jt (Z1 Z1v rfl) rfl ?_
    refine JO.m (Zg (cs' := [_, _, _, _, _, _, _, _, _, _, _, _, _, _]) rfl rfl (by repeat first | exact .here | apply Ut) rfl rfl rfl rfl Z7v) (by rfl) ?_
    apply Ni
    repeat first | apply Nx | apply Nb
    refine Sl [0, 2, 3] (.cons rfl (.cons rfl (.cons rfl .nil))) ?_
    first | (have hno2 : isT 1 Z2U _ = false := ht82; rw [ZO hno2]; have hx21 := hx18; have hor := Z8e (e := e) hno2) | (have hx21 := hxo; have hor : orderP e _ = some zo := (by rw [Z47 hoy, hzp, Option.bind_some]; exact hzo))
    repeat apply Sq
    apply Pn
    refine Jt (Z0 rfl) rfl ?_
    refine JO.callK (Lr := [_, _]) (Ze T hc b _ (hx21.trans hts) Z1E) rfl (.refl _) (fun F hF => by repeat (first | (rcases Mc.1 hF with rfl | hF; · (repeat first | exact Mh | apply Mt)) | (cases hF; done))) (.one rfl (.one rfl .nil)) ?_
    intro _ _
    try dsimp only [nA, cA]
    apply Ni
    repeat first | apply Nx | apply Nb
    refine Sl [0, 2, 3, 89] (.cons rfl (.cons rfl (.cons rfl (.cons rfl .nil)))) ?_
    repeat apply Sq
    refine Cd rfl (fun ht89 => ?_) (fun ht89 => ?_)
    ·
     try simp only [dT, dF] at ht89
     have hly : isT 1 Z1E _ = true := ht89
     rw [ZK hly]
     repeat apply Sq
     apply Pn
     refine Jt (Z0 rfl) rfl ?_
     refine JO.callPK (Lr := [_, _]) (Z1i T hc b _ ((List.tail_suffix _).trans (hx21.trans hts)) 3) rfl (.refl _) (fun F hF => by repeat (first | (rcases Mc.1 hF with rfl | hF; · (repeat first | exact Mh | apply Mt)) | (cases hF; done))) (.one rfl (.one rfl .nil)) (fun hbad => ?_) ?_
     · exact JX.pnI (by rw [ZW, hzi, Option.bind_some, hzf, Option.bind_some, hzs, Option.bind_some, hJ, Z1j hno, Option.bind_some]; unfold qTail; rw [if_pos (by rw [List.length_map]; have := of_decide_eq_true hle; omega), hzw, Option.bind_some, hgr, Option.bind_some, hor, Option.bind_some, Z2H hly, hbad]; rfl)
     intro zl hzl
     try dsimp only [nA, cA]
     refine Jt (Z3u (off := 2) (by kernel_rfl) rfl rfl) rfl ?_
     refine Jt (Z1 Z25 rfl) rfl ?_
     refine JO.m (Zg (cs' := [_, _, _, _, _, _, _, _, _, _, _, _, _, _]) rfl rfl (by repeat first | exact .here | apply Ut) rfl rfl rfl rfl Z2Z) (by rfl) ?_
     apply Ni
     repeat first | apply Nx | apply Nb
     refine Sl [2, 3] (.cons rfl (.cons rfl .nil)) ?_
     first | (have hnl : isT 1 Z1E _ = false := ht89; rw [ZO hnl]; have hlr := Z4c hnl) | (have hlr := Z2H hly; rw [hzl] at hlr)
     repeat apply Sq
     apply Pn
     refine Jt (ZN (cs := [_, _, _, _, _, _, _, _, _, _, _, _, _, _]) Zc rfl rfl rfl) rfl ?_
     refine JO.m (Z4 rfl rfl (by repeat first | exact .here | apply Ut) (by first | exact cI rfl rfl | exact cE) (by first | exact cI rfl rfl | exact cE | exact cO) Zl) (by rfl) ?_
     apply Ni
     repeat first | apply Nx | apply Nb
     refine Sl [2] (.cons rfl .nil) ?_
     repeat apply Sq
     apply Rt
     repeat first | apply Rp | apply Rb
     refine JX.toP ?_
     exact JX.retLCs (Lr := [_, _]) (L1 := fun z : Pz.St × List T3 => [PB T b z.2]) (R := fun z => .rep (StR N z.1)) rfl ({ stK 4 with items := zi.1, from_ := ps.map Cel.x, where_ := zw.1, group := zg.1, order := zo.1, limit := zl.1.n }, zl.2) (by rw [ZW, hzi, Option.bind_some, hzf, Option.bind_some, hzs, Option.bind_some, hJ, Z1j hno, Option.bind_some]; unfold qTail; rw [if_pos (by rw [List.length_map]; have := of_decide_eq_true hle; omega), hzw, Option.bind_some, hgr, Option.bind_some, hor, Option.bind_some, hlr]; rfl) (.refl _) rfl rfl hb0 rfl Zc HasOwn.mem (Z16 rfl) (Sub.st rfl fun X w hf w' hk => ⟨Za (FrS.nil _), Za (FrS.nil _), Za trivial, SlE.weak (hf _ (by repeat first | exact Mh | apply Mt) w' hk) (fun _ _ _ _ => trivial), (by show SlE srE noS (ps.map Cel.x) (.slice (adO st) ps.length (capO st cap)) w'; rw [← hG.sl.1]; exact SlE.ofGr0 hG (hf _ (by repeat first | exact Mh | apply Mt) w' hk) (hf _ (by repeat first | exact Mh | apply Mt) w' hk)), hf _ (by repeat first | exact Mh | apply Mt) w' hk, SlE.exs (hf _ (by repeat first | exact Mh | apply Mt) w' hk), SlE.weak (hf _ (by repeat first | exact Mh | apply Mt) w' hk) (fun _ _ _ _ => trivial), Z11⟩)
    ·
     try simp only [dT, dF] at ht89
     apply Sk
     repeat first | apply Nx | apply Nb
     first | (have hnl : isT 1 Z1E _ = false := ht89; rw [ZO hnl]; have hlr := Z4c hnl) | (have hlr := Z2H hly; rw [hzl] at hlr)
     repeat apply Sq
     apply Pn
     refine Jt (ZN (cs := [_, _, _, _, _, _, _, _, _, _, _, _, _, _]) Zc rfl rfl rfl) rfl ?_
     refine JO.m (Z4 rfl rfl (by repeat first | exact .here | apply Ut) (by first | exact cI rfl rfl | exact cE) (by first | exact cI rfl rfl | exact cE | exact cO) Zl) (by rfl) ?_
     apply Ni
     repeat first | apply Nx | apply Nb
     refine Sl [2] (.cons rfl .nil) ?_
     repeat apply Sq
     apply Rt
     repeat first | apply Rp | apply Rb
     refine JX.toP ?_
     exact JX.retLCs (Lr := [_, _]) (L1 := fun z : Pz.St × List T3 => [PB T b z.2]) (R := fun z => .rep (StR N z.1)) rfl ({ stK 4 with items := zi.1, from_ := ps.map Cel.x, where_ := zw.1, group := zg.1, order := zo.1, limit := -1 }, zo.2) (by rw [ZW, hzi, Option.bind_some, hzf, Option.bind_some, hzs, Option.bind_some, hJ, Z1j hno, Option.bind_some]; unfold qTail; rw [if_pos (by rw [List.length_map]; have := of_decide_eq_true hle; omega), hzw, Option.bind_some, hgr, Option.bind_some, hor, Option.bind_some, hlr]; rfl) (.refl _) rfl rfl hb0 rfl Zc HasOwn.mem (Z16 rfl) (Sub.st rfl fun X w hf w' hk => ⟨Za (FrS.nil _), Za (FrS.nil _), Za trivial, SlE.weak (hf _ (by repeat first | exact Mh | apply Mt) w' hk) (fun _ _ _ _ => trivial), (by show SlE srE noS (ps.map Cel.x) (.slice (adO st) ps.length (capO st cap)) w'; rw [← hG.sl.1]; exact SlE.ofGr0 hG (hf _ (by repeat first | exact Mh | apply Mt) w' hk) (hf _ (by repeat first | exact Mh | apply Mt) w' hk)), hf _ (by repeat first | exact Mh | apply Mt) w' hk, SlE.exs (hf _ (by repeat first | exact Mh | apply Mt) w' hk), SlE.weak (hf _ (by repeat first | exact Mh | apply Mt) w' hk) (fun _ _ _ _ => trivial), Z11⟩)
   ·
    try simp only [dT, dF] at ht82
    apply Sk
    repeat first | apply Nx | apply Nb
    first | (have hno2 : isT 1 Z2U _ = false := ht82; rw [ZO hno2]; have hx21 := hx18; have hor := Z8e (e := e) hno2) | (have hx21 := hxo; have hor : orderP e _ = some zo := (by rw [Z47 hoy, hzp, Option.bind_some]; exact hzo))
    repeat apply Sq
    apply Pn
    refine Jt (Z0 rfl) rfl ?_
    refine JO.callK (Lr := [_, _]) (Ze T hc b _ (hx21.trans hts) Z1E) rfl (.refl _) (fun F hF => by repeat (first | (rcases Mc.1 hF with rfl | hF; · (repeat first | exact Mh | apply Mt)) | (cases hF; done))) (.one rfl (.one rfl .nil)) ?_
    intro _ _
    try dsimp only [nA, cA]
    apply Ni
    repeat first | apply Nx | apply Nb
    refine Sl [0, 2, 3, 89] (.cons rfl (.cons rfl (.cons rfl (.cons rfl .nil)))) ?_
    repeat apply Sq
    refine Cd rfl (fun ht89 => ?_) (fun ht89 => ?_)
    ·
     try simp only [dT, dF] at ht89
     have hly : isT 1 Z1E _ = true := ht89
     rw [ZK hly]
     repeat apply Sq
     apply Pn
     refine Jt (Z0 rfl) rfl ?_
     refine JO.callPK (Lr := [_, _]) (Z1i T hc b _ ((List.tail_suffix _).trans (hx21.trans hts)) 3) rfl (.refl _) (fun F hF => by repeat (first | (rcases Mc.1 hF with rfl | hF; · (repeat first | exact Mh | apply Mt)) | (cases hF; done))) (.one rfl (.one rfl .nil)) (fun hbad => ?_) ?_
     · exact JX.pnI (by rw [ZW, hzi, Option.bind_some, hzf, Option.bind_some, hzs, Option.bind_some, hJ, Z1j hno, Option.bind_some]; unfold qTail; rw [if_pos (by rw [List.length_map]; have := of_decide_eq_true hle; omega), hzw, Option.bind_some, hgr, Option.bind_some, hor, Option.bind_some, Z2H hly, hbad]; rfl)
     intro zl hzl
     try dsimp only [nA, cA]
     refine Jt (Z3u (off := 2) (by kernel_rfl) rfl rfl) rfl ?_
     refine Jt (Z1 Z25 rfl) rfl ?_
     refine JO.m (Zg (cs' := [_, _, _, _, _, _, _, _, _, _, _, _, _, _]) rfl rfl (by repeat first | exact .here | apply Ut) rfl rfl rfl rfl Z2Z) (by rfl) ?_
     apply Ni
     repeat first | apply Nx | apply Nb
     refine Sl [2, 3] (.cons rfl (.cons rfl .nil)) ?_
     first | (have hnl : isT 1 Z1E _ = false := ht89; rw [ZO hnl]; have hlr := Z4c hnl) | (have hlr := Z2H hly; rw [hzl] at hlr)
     repeat apply Sq
     apply Pn
     refine Jt (ZN (cs := [_, _, _, _, _, _, _, _, _, _, _, _, _, _]) Zc rfl rfl rfl) rfl ?_
     refine JO.m (Z4 rfl rfl (by repeat first | exact .here | apply Ut) (by first | exact cI rfl rfl | exact cE) (by first | exact cI rfl rfl | exact cE | exact cO) Zl) (by rfl) ?_
     apply Ni
     repeat first | apply Nx | apply Nb
     refine Sl [2] (.cons rfl .nil) ?_
     repeat apply Sq
     apply Rt
     repeat first | apply Rp | apply Rb
     refine JX.toP ?_
     exact JX.retLCs (Lr := [_, _]) (L1 := fun z : Pz.St × List T3 => [PB T b z.2]) (R := fun z => .rep (StR N z.1)) rfl ({ stK 4 with items := zi.1, from_ := ps.map Cel.x, where_ := zw.1, group := zg.1, order := [], limit := zl.1.n }, zl.2) (by rw [ZW, hzi, Option.bind_some, hzf, Option.bind_some, hzs, Option.bind_some, hJ, Z1j hno, Option.bind_some]; unfold qTail; rw [if_pos (by rw [List.length_map]; have := of_decide_eq_true hle; omega), hzw, Option.bind_some, hgr, Option.bind_some, hor, Option.bind_some, hlr]; rfl) (.refl _) rfl rfl hb0 rfl Zc HasOwn.mem (Z16 rfl) (Sub.st rfl fun X w hf w' hk => ⟨Za (FrS.nil _), Za (FrS.nil _), Za trivial, SlE.weak (hf _ (by repeat first | exact Mh | apply Mt) w' hk) (fun _ _ _ _ => trivial), (by show SlE srE noS (ps.map Cel.x) (.slice (adO st) ps.length (capO st cap)) w'; rw [← hG.sl.1]; exact SlE.ofGr0 hG (hf _ (by repeat first | exact Mh | apply Mt) w' hk) (hf _ (by repeat first | exact Mh | apply Mt) w' hk)), hf _ (by repeat first | exact Mh | apply Mt) w' hk, SlE.exs (hf _ (by repeat first | exact Mh | apply Mt) w' hk), Za trivial, Z11⟩)
    ·
     try simp only [dT, dF] at ht89
     apply Sk
     repeat first | apply Nx | apply Nb
     first | (have hnl : isT 1 Z1E _ = false := ht89; rw [ZO hnl]; have hlr := Z4c hnl) | (have hlr := Z2H hly; rw [hzl] at hlr)
     repeat apply Sq
     apply Pn
     refine Jt (ZN (cs := [_, _, _, _, _, _, _, _, _, _, _, _, _, _]) Zc rfl rfl rfl) rfl ?_
     refine JO.m (Z4 rfl rfl (by repeat first | exact .here | apply Ut) (by first | exact cI rfl rfl | exact cE) (by first | exact cI rfl rfl | exact cE | exact cO) Zl) (by rfl) ?_
     apply Ni
     repeat first | apply Nx | apply Nb
     refine Sl [2] (.cons rfl .nil) ?_
     repeat apply Sq
     apply Rt
     repeat first | apply Rp | apply Rb
     refine JX.toP ?_
     exact JX.retLCs (Lr := [_, _]) (L1 := fun z : Pz.St × List T3 => [PB T b z.2]) (R := fun z => .rep (StR N z.1)) rfl ({ stK 4 with items := zi.1, from_ := ps.map Cel.x, where_ := zw.1, group := zg.1, order := [], limit := -1 }, zg.2) (by rw [ZW, hzi, Option.bind_some, hzf, Option.bind_some, hzs, Option.bind_some, hJ, Z1j hno, Option.bind_some]; unfold qTail; rw [if_pos (by rw [List.length_map]; have := of_decide_eq_true hle; omega), hzw, Option.bind_some, hgr, Option.bind_some, hor, Option.bind_some, hlr]; rfl) (.refl _) rfl rfl hb0 rfl Zc HasOwn.mem (Z16 rfl) (Sub.st rfl fun X w hf w' hk => ⟨Za (FrS.nil _), Za (FrS.nil _), Za trivial, SlE.weak (hf _ (by repeat first | exact Mh | apply Mt) w' hk) (fun _ _ _ _ => trivial), (by show SlE srE noS (ps.map Cel.x) (.slice (adO st) ps.length (capO st cap)) w'; rw [← hG.sl.1]; exact SlE.ofGr0 hG (hf _ (by repeat first | exact Mh | apply Mt) w' hk) (hf _ (by repeat first | exact Mh | apply Mt) w' hk)), hf _ (by repeat first | exact Mh | apply Mt) w' hk, SlE.exs (hf _ (by repeat first | exact Mh | apply Mt) w' hk), Za trivial, Z11⟩)
  ·
   try simp only [dT, dF] at ht75
   apply Sk
   repeat first | apply Nx | apply Nb
   first | (have hng : isT 1 Z4E zw.2 = false := ht75; rw [ZO hng]; have hx18 := hxw; have hgr := Zct (e := e) hng) | (have hx18 := hxg; have hgr : groupP e zw.2 = some zg := (by rw [Z87 hgy, hzb, Option.bind_some]; exact hzg))
   repeat apply Sq
   apply Pn
   refine Jt (Z0 rfl) rfl ?_
   refine JO.callK (Lr := [_, _]) (Ze T hc b _ (hx18.trans hts) Z2U) rfl (.refl _) (fun F hF => by repeat (first | (rcases Mc.1 hF with rfl | hF; · (repeat first | exact Mh | apply Mt)) | (cases hF; done))) (.one rfl (.one rfl .nil)) ?_
   intro _ _
   try dsimp only [nA, cA]
   apply Ni
   repeat first | apply Nx | apply Nb
   refine Sl [0, 2, 3, 82] (.cons rfl (.cons rfl (.cons rfl (.cons rfl .nil)))) ?_
   repeat apply Sq
   refine Cd rfl (fun ht82 => ?_) (fun ht82 => ?_)
   ·
    try simp only [dT, dF] at ht82
    have hoy : isT 1 Z2U _ = true := ht82
    rw [ZK hoy]
    repeat apply Sq
    apply Pn
    refine Jt (Z0 rfl) rfl ?_
    refine JO.callPK (Lr := [_, _]) (Zm T hc b _ ((List.tail_suffix _).trans (hx18.trans hts)) w_BY (by decide +kernel) (by decide +kernel) (asc (by decide +kernel))) rfl (.refl _) (fun F hF => by repeat (first | (rcases Mc.1 hF with rfl | hF; · (repeat first | exact Mh | apply Mt)) | (cases hF; done))) (.one rfl (.one rfl .nil)) (fun hbad => ?_) ?_
    · exact JX.pnI (by rw [ZW, hzi, Option.bind_some, hzf, Option.bind_some, hzs, Option.bind_some, hJ, Z1j hno, Option.bind_some]; unfold qTail; rw [if_pos (by rw [List.length_map]; have := of_decide_eq_true hle; omega), hzw, Option.bind_some, hgr, Option.bind_some, Z47 hoy, hbad]; rfl)
    intro zp hzp
    try dsimp only [nA, cA]
    have hxp : zp.2 <:+ ts := (Zi _ _ _ _ hzp).1.trans ((List.tail_suffix _).trans hx18)
    apply Ni
    repeat first | apply Nx | apply Nb
    refine Sl [0, 2, 3] (.cons rfl (.cons rfl (.cons rfl .nil))) ?_
    repeat apply Sq
    apply Pn
    refine Jt (Z0 rfl) rfl ?_
    refine JO.callPK (Lr := [_, _]) (Z4w N T hc h9 b zp.2 (hxp.trans hts) kyE Zbq rfl (keyP e) (Z5r hed) 16 Z36 (fun us hus hu => Z4g N T hc h9 b us hus e (fun {us z} h => (hed us z h).1) (fun vs hvs hv => hex vs hvs (by have := hxp.length_le; omega)))) rfl (.refl _) (fun F hF => by repeat (first | (rcases Mc.1 hF with rfl | hF; · (repeat first | exact Mh | apply Mt)) | (cases hF; done))) (.one rfl (.one rfl (.one rfl .nil))) (fun hbad => ?_) ?_
    · exact JX.pnI (by rw [ZW, hzi, Option.bind_some, hzf, Option.bind_some, hzs, Option.bind_some, hJ, Z1j hno, Option.bind_some]; unfold qTail; rw [if_pos (by rw [List.length_map]; have := of_decide_eq_true hle; omega), hzw, Option.bind_some, hgr, Option.bind_some, Z47 hoy, hzp, Option.bind_some, hbad]; rfl)
    intro zo hzo
    have hxo : zo.2 <:+ ts := (Z5M (Z5r hed) 16 _ _ hzo).1.trans hxp
    try dsimp only [nA, cA]
    refine JO.openEv (s := 86) rfl (fun a86 l86 c86 _ _ => ?_)
    refine Jt (Z1 Z1v rfl) rfl ?_
    refine JO.m (Zg (cs' := [_, _, _, _, _, _, _, _, _, _, _, _, _, _]) rfl rfl (by repeat first | exact .here | apply Ut) rfl rfl rfl rfl Z7v) (by rfl) ?_
    apply Ni
    repeat first | apply Nx | apply Nb
    refine Sl [0, 2, 3] (.cons rfl (.cons rfl (.cons rfl .nil))) ?_
    first | (have hno2 : isT 1 Z2U _ = false := ht82; rw [ZO hno2]; have hx21 := hx18; have hor := Z8e (e := e) hno2) | (have hx21 := hxo; have hor : orderP e _ = some zo := (by rw [Z47 hoy, hzp, Option.bind_some]; exact hzo))
    repeat apply Sq
    apply Pn
    refine Jt (Z0 rfl) rfl ?_
    refine JO.callK (Lr := [_, _]) (Ze T hc b _ (hx21.trans hts) Z1E) rfl (.refl _) (fun F hF => by repeat (first | (rcases Mc.1 hF with rfl | hF; · (repeat first | exact Mh | apply Mt)) | (cases hF; done))) (.one rfl (.one rfl .nil)) ?_
    intro _ _
    try dsimp only [nA, cA]
    apply Ni
    repeat first | apply Nx | apply Nb
    refine Sl [0, 2, 3, 89] (.cons rfl (.cons rfl (.cons rfl (.cons rfl .nil)))) ?_
    repeat apply Sq
    refine Cd rfl (fun ht89 => ?_) (fun ht89 => ?_)
    ·
     try simp only [dT, dF] at ht89
     have hly : isT 1 Z1E _ = true := ht89
     rw [ZK hly]
     repeat apply Sq
     apply Pn
     refine Jt (Z0 rfl) rfl ?_
     refine JO.callPK (Lr := [_, _]) (Z1i T hc b _ ((List.tail_suffix _).trans (hx21.trans hts)) 3) rfl (.refl _) (fun F hF => by repeat (first | (rcases Mc.1 hF with rfl | hF; · (repeat first | exact Mh | apply Mt)) | (cases hF; done))) (.one rfl (.one rfl .nil)) (fun hbad => ?_) ?_
     · exact JX.pnI (by rw [ZW, hzi, Option.bind_some, hzf, Option.bind_some, hzs, Option.bind_some, hJ, Z1j hno, Option.bind_some]; unfold qTail; rw [if_pos (by rw [List.length_map]; have := of_decide_eq_true hle; omega), hzw, Option.bind_some, hgr, Option.bind_some, hor, Option.bind_some, Z2H hly, hbad]; rfl)
     intro zl hzl
     try dsimp only [nA, cA]
     refine Jt (Z3u (off := 2) (by kernel_rfl) rfl rfl) rfl ?_
     refine Jt (Z1 Z25 rfl) rfl ?_
     refine JO.m (Zg (cs' := [_, _, _, _, _, _, _, _, _, _, _, _, _, _]) rfl rfl (by repeat first | exact .here | apply Ut) rfl rfl rfl rfl Z2Z) (by rfl) ?_
     apply Ni
     repeat first | apply Nx | apply Nb
     refine Sl [2, 3] (.cons rfl (.cons rfl .nil)) ?_
     first | (have hnl : isT 1 Z1E _ = false := ht89; rw [ZO hnl]; have hlr := Z4c hnl) | (have hlr := Z2H hly; rw [hzl] at hlr)
     repeat apply Sq
     apply Pn
     refine Jt (ZN (cs := [_, _, _, _, _, _, _, _, _, _, _, _, _, _]) Zc rfl rfl rfl) rfl ?_
     refine JO.m (Z4 rfl rfl (by repeat first | exact .here | apply Ut) (by first | exact cI rfl rfl | exact cE) (by first | exact cI rfl rfl | exact cE | exact cO) Zl) (by rfl) ?_
     apply Ni
     repeat first | apply Nx | apply Nb
     refine Sl [2] (.cons rfl .nil) ?_
     repeat apply Sq
     apply Rt
     repeat first | apply Rp | apply Rb
     refine JX.toP ?_
     exact JX.retLCs (Lr := [_, _]) (L1 := fun z : Pz.St × List T3 => [PB T b z.2]) (R := fun z => .rep (StR N z.1)) rfl ({ stK 4 with items := zi.1, from_ := ps.map Cel.x, where_ := zw.1, group := [], order := zo.1, limit := zl.1.n }, zl.2) (by rw [ZW, hzi, Option.bind_some, hzf, Option.bind_some, hzs, Option.bind_some, hJ, Z1j hno, Option.bind_some]; unfold qTail; rw [if_pos (by rw [List.length_map]; have := of_decide_eq_true hle; omega), hzw, Option.bind_some, hgr, Option.bind_some, hor, Option.bind_some, hlr]; rfl) (.refl _) rfl rfl hb0 rfl Zc HasOwn.mem (Z16 rfl) (Sub.st rfl fun X w hf w' hk => ⟨Za (FrS.nil _), Za (FrS.nil _), Za trivial, SlE.weak (hf _ (by repeat first | exact Mh | apply Mt) w' hk) (fun _ _ _ _ => trivial), (by show SlE srE noS (ps.map Cel.x) (.slice (adO st) ps.length (capO st cap)) w'; rw [← hG.sl.1]; exact SlE.ofGr0 hG (hf _ (by repeat first | exact Mh | apply Mt) w' hk) (hf _ (by repeat first | exact Mh | apply Mt) w' hk)), hf _ (by repeat first | exact Mh | apply Mt) w' hk, Z11, SlE.weak (hf _ (by repeat first | exact Mh | apply Mt) w' hk) (fun _ _ _ _ => trivial), Z11⟩)
    ·
     try simp only [dT, dF] at ht89
     apply Sk
     repeat first | apply Nx | apply Nb
     first | (have hnl : isT 1 Z1E _ = false := ht89; rw [ZO hnl]; have hlr := Z4c hnl) | (have hlr := Z2H hly; rw [hzl] at hlr)
     repeat apply Sq
     apply Pn
     refine Jt (ZN (cs := [_, _, _, _, _, _, _, _, _, _, _, _, _, _]) Zc rfl rfl rfl) rfl ?_
     refine JO.m (Z4 rfl rfl (by repeat first | exact .here | apply Ut) (by first | exact cI rfl rfl | exact cE) (by first | exact cI rfl rfl | exact cE | exact cO) Zl) (by rfl) ?_
     apply Ni
     repeat first | apply Nx | apply Nb
     refine Sl [2] (.cons rfl .nil) ?_
     repeat apply Sq
     apply Rt
     repeat first | apply Rp | apply Rb
     refine JX.toP ?_
     exact JX.retLCs (Lr := [_, _]) (L1 := fun z : Pz.St × List T3 => [PB T b z.2]) (R := fun z => .rep (StR N z.1)) rfl ({ stK 4 with items := zi.1, from_ := ps.map Cel.x, where_ := zw.1, group := [], order := zo.1, limit := -1 }, zo.2) (by rw [ZW, hzi, Option.bind_some, hzf, Option.bind_some, hzs, Option.bind_some, hJ, Z1j hno, Option.bind_some]; unfold qTail; rw [if_pos (by rw [List.length_map]; have := of_decide_eq_true hle; omega), hzw, Option.bind_some, hgr, Option.bind_some, hor, Option.bind_some, hlr]; rfl) (.refl _) rfl rfl hb0 rfl Zc HasOwn.mem (Z16 rfl) (Sub.st rfl fun X w hf w' hk => ⟨Za (FrS.nil _), Za (FrS.nil _), Za trivial, SlE.weak (hf _ (by repeat first | exact Mh | apply Mt) w' hk) (fun _ _ _ _ => trivial), (by show SlE srE noS (ps.map Cel.x) (.slice (adO st) ps.length (capO st cap)) w'; rw [← hG.sl.1]; exact SlE.ofGr0 hG (hf _ (by repeat first | exact Mh | apply Mt) w' hk) (hf _ (by repeat first | exact Mh | apply Mt) w' hk)), hf _ (by repeat first | exact Mh | apply Mt) w' hk, Z11, SlE.weak (hf _ (by repeat first | exact Mh | apply Mt) w' hk) (fun _ _ _ _ => trivial), Z11⟩)
   ·
    try simp only [dT, dF] at ht82
    apply Sk
    repeat first | apply Nx | apply Nb
    first | (have hno2 : isT 1 Z2U _ = false := ht82; rw [ZO hno2]; have hx21 := hx18; have hor := Z8e (e := e) hno2) | (have hx21 := hxo; have hor : orderP e _ = some zo := (by rw [Z47 hoy, hzp, Option.bind_some]; exact hzo))
    repeat apply Sq
    apply Pn
    refine Jt (Z0 rfl) rfl ?_
    refine JO.callK (Lr := [_, _]) (Ze T hc b _ (hx21.trans hts) Z1E) rfl (.refl _) (fun F hF => by repeat (first | (rcases Mc.1 hF with rfl | hF; · (repeat first | exact Mh | apply Mt)) | (cases hF; done))) (.one rfl (.one rfl .nil)) ?_
    intro _ _
    try dsimp only [nA, cA]
    apply Ni
    repeat first | apply Nx | apply Nb
    refine Sl [0, 2, 3, 89] (.cons rfl (.cons rfl (.cons rfl (.cons rfl .nil)))) ?_
    repeat apply Sq
    refine Cd rfl (fun ht89 => ?_) (fun ht89 => ?_)
    ·
     try simp only [dT, dF] at ht89
     have hly : isT 1 Z1E _ = true := ht89
     rw [ZK hly]
     repeat apply Sq
     apply Pn
     refine Jt (Z0 rfl) rfl ?_
     refine JO.callPK (Lr := [_, _]) (Z1i T hc b _ ((List.tail_suffix _).trans (hx21.trans hts)) 3) rfl (.refl _) (fun F hF => by repeat (first | (rcases Mc.1 hF with rfl | hF; · (repeat first | exact Mh | apply Mt)) | (cases hF; done))) (.one rfl (.one rfl .nil)) (fun hbad => ?_) ?_
     · exact JX.pnI (by rw [ZW, hzi, Option.bind_some, hzf, Option.bind_some, hzs, Option.bind_some, hJ, Z1j hno, Option.bind_some]; unfold qTail; rw [if_pos (by rw [List.length_map]; have := of_decide_eq_true hle; omega), hzw, Option.bind_some, hgr, Option.bind_some, hor, Option.bind_some, Z2H hly, hbad]; rfl)
     intro zl hzl
     try dsimp only [nA, cA]
     refine Jt (Z3u (off := 2) (by kernel_rfl) rfl rfl) rfl ?_
     refine Jt (Z1 Z25 rfl) rfl ?_
     refine JO.m (Zg (cs' := [_, _, _, _, _, _, _, _, _, _, _, _, _, _]) rfl rfl (by repeat first | exact .here | apply Ut) rfl rfl rfl rfl Z2Z) (by rfl) ?_
     apply Ni
     repeat first | apply Nx | apply Nb
     refine Sl [2, 3] (.cons rfl (.cons rfl .nil)) ?_
     first | (have hnl : isT 1 Z1E _ = false := ht89; rw [ZO hnl]; have hlr := Z4c hnl) | (have hlr := Z2H hly; rw [hzl] at hlr)
     repeat apply Sq
     apply Pn
     refine Jt (ZN (cs := [_, _, _, _, _, _, _, _, _, _, _, _, _, _]) Zc rfl rfl rfl) rfl ?_
     refine JO.m (Z4 rfl rfl (by repeat first | exact .here | apply Ut) (by first | exact cI rfl rfl | exact cE) (by first | exact cI rfl rfl | exact cE | exact cO) Zl) (by rfl) ?_
     apply Ni
     repeat first | apply Nx | apply Nb
     refine Sl [2] (.cons rfl .nil) ?_
     repeat apply Sq
     apply Rt
     repeat first | apply Rp | apply Rb
     refine JX.toP ?_
     exact JX.retLCs (Lr := [_, _]) (L1 := fun z : Pz.St × List T3 => [PB T b z.2]) (R := fun z => .rep (StR N z.1)) rfl ({ stK 4 with items := zi.1, from_ := ps.map Cel.x, where_ := zw.1, group := [], order := [], limit := zl.1.n }, zl.2) (by rw [ZW, hzi, Option.bind_some, hzf, Option.bind_some, hzs, Option.bind_some, hJ, Z1j hno, Option.bind_some]; unfold qTail; rw [if_pos (by rw [List.length_map]; have := of_decide_eq_true hle; omega), hzw, Option.bind_some, hgr, Option.bind_some, hor, Option.bind_some, hlr]; rfl) (.refl _) rfl rfl hb0 rfl Zc HasOwn.mem (Z16 rfl) (Sub.st rfl fun X w hf w' hk => ⟨Za (FrS.nil _), Za (FrS.nil _), Za trivial, SlE.weak (hf _ (by repeat first | exact Mh | apply Mt) w' hk) (fun _ _ _ _ => trivial), (by show SlE srE noS (ps.map Cel.x) (.slice (adO st) ps.length (capO st cap)) w'; rw [← hG.sl.1]; exact SlE.ofGr0 hG (hf _ (by repeat first | exact Mh | apply Mt) w' hk) (hf _ (by repeat first | exact Mh | apply Mt) w' hk)), hf _ (by repeat first | exact Mh | apply Mt) w' hk, Z11, Za trivial, Z11⟩)
    ·
     try simp only [dT, dF] at ht89
     apply Sk
     repeat first | apply Nx | apply Nb
     first | (have hnl : isT 1 Z1E _ = false := ht89; rw [ZO hnl]; have hlr := Z4c hnl) | (have hlr := Z2H hly; rw [hzl] at hlr)
     repeat apply Sq
     apply Pn
     refine Jt (ZN (cs := [_, _, _, _, _, _, _, _, _, _, _, _, _, _]) Zc rfl rfl rfl) rfl ?_
     refine JO.m (Z4 rfl rfl (by repeat first | exact .here | apply Ut) (by first | exact cI rfl rfl | exact cE) (by first | exact cI rfl rfl | exact cE | exact cO) Zl) (by rfl) ?_
     apply Ni
     repeat first | apply Nx | apply Nb
     refine Sl [2] (.cons rfl .nil) ?_
     repeat apply Sq
     apply Rt
     repeat first | apply Rp | apply Rb
     refine JX.toP ?_
     exact JX.retLCs (Lr := [_, _]) (L1 := fun z : Pz.St × List T3 => [PB T b z.2]) (R := fun z => .rep (StR N z.1)) rfl ({ stK 4 with items := zi.1, from_ := ps.map Cel.x, where_ := zw.1, group := [], order := [], limit := -1 }, zw.2) (by rw [ZW, hzi, Option.bind_some, hzf, Option.bind_some, hzs, Option.bind_some, hJ, Z1j hno, Option.bind_some]; unfold qTail; rw [if_pos (by rw [List.length_map]; have := of_decide_eq_true hle; omega), hzw, Option.bind_some, hgr, Option.bind_some, hor, Option.bind_some, hlr]; rfl) (.refl _) rfl rfl hb0 rfl Zc HasOwn.mem (Z16 rfl) (Sub.st rfl fun X w hf w' hk => ⟨Za (FrS.nil _), Za (FrS.nil _), Za trivial, SlE.weak (hf _ (by repeat first | exact Mh | apply Mt) w' hk) (fun _ _ _ _ => trivial), (by show SlE srE noS (ps.map Cel.x) (.slice (adO st) ps.length (capO st cap)) w'; rw [← hG.sl.1]; exact SlE.ofGr0 hG (hf _ (by repeat first | exact Mh | apply Mt) w' hk) (hf _ (by repeat first | exact Mh | apply Mt) w' hk)), hf _ (by repeat first | exact Mh | apply Mt) w' hk, Z11, Za trivial, Z11⟩)
end Go.Proofs.YtbedigkncjbggaaGreatDoor
