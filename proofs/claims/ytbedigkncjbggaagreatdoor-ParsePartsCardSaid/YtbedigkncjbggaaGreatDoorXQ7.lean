/- The parser: statements. No condition. -/
import Derived.Test.YtbedigkncjbggaaGreatDoorXQ6
import Derived.Test.YtbedigkncjbggaaGreatDoorXQ4
set_option maxRecDepth 20000
namespace Go.Proofs.YtbedigkncjbggaaGreatDoor
open Go Go.Vc
open Go.Pz
theorem Zb2 : TEq Tryz.prog Z22 Z3Y ZN Zc0 := ⟨by kernel_rfl, by kernel_rfl, by kernel_rfl, by kernel_rfl, by kernel_rfl, by kernel_rfl, by kernel_rfl⟩
theorem ZgM {ps : List (Cel exE)} {st : Option (Nat × List Value)} {cap : Nat} {w : World} (hG : Grows Cel.cs 8 ps st cap) (hR : RowG Cel.cs 8 ps (adO st) ps.length w) (hF : CelF exE ps w) : ExsR (ps.map Cel.x) (sliceO st ps.length cap) w := SlE.exs (SlE.ofGr0 hG hR hF)
theorem Zhy (l : List (ByteArray × Cel exE)) : (l.map pcX).map (·.2) = (l.map (·.2)).map Cel.x := by rw [List.map_map, List.map_map]; rfl
abbrev stC (s : ByteArray) : Cel stE := ⟨s, [.string s], rfl, fun u h => by rw [List.mem_singleton.1 h]; rfl⟩
theorem ZiW (s : ByteArray) (w : World) : CelF stE [stC s] w := fun p hp => by rw [List.mem_singleton.1 hp]; rfl
theorem Sub.rwT {L : List Own} {Φ : List (World → Prop)} {G : GoS} {xs : List Ex} {V : Value} (hF : SlE exE G xs V ∈ Φ) : Sub L Φ (.is V) (.rep (rwE.T xs)) := fun X v w hf e => by
 rw [show v = _ from e]
 exact fun w' hk => ⟨[V], rfl, V, rfl, SlE.exs (hf.2 _ hF w' hk)⟩
theorem Z9l (ts : List T3) : (decide ((0 : Int) < ((ts.length : Nat) : Int)) && teq (ts.headD t3D) ⟨5, s_lp, 0⟩) = isLp ts := by
  cases ts with
  | nil => rfl
  | cons t r =>
    rw [decide_eq_true (show (0 : Int) < (((t :: r).length : Nat) : Int) by simp), Bool.true_and]
    show ((t.k == 5) && (seq t.t s_lp && (t.n == 0))) = ((t.k == 5) && (sq t.t s_lp && (t.n == 0)))
    rw [Z5W]
attribute [local irreducible] SlE ExsR
theorem Z6h (N : Nat) (T : Tk) (hc : T.ts.length ≤ T.cap) (h9 : T.ts.length ≤ 2049) (b : Nat) (ts : List T3) (hts : ts <:+ T.ts) (e : Ps Ex) (hed : Dn e) (hex : ∀ us, us <:+ T.ts → us.length ≤ ts.length → CallP Tryz.prog Zx [PB T b (us)] [T.G, AF] [.is (.pointer (some ⟨b, 0, none⟩))] (e (us) = none) flt (fun z : Ex × List T3 => e (us) = some z) (fun z => [PB T b z.2]) (fun z => .rep (ExR z.1))) : CallP Tryz.prog Z2H [PB T b ts] [T.G, AF, NH N] [.is (.pointer (some ⟨b, 0, none⟩))] (updateP e ts = none) flt (fun z : Pz.St × List T3 => updateP e ts = some z) (fun z => [PB T b z.2]) (fun z => .rep (StR N z.1)) :=
CallP.ofN (N := N) (List.mem_cons_of_mem _ (List.mem_cons_of_mem _ List.mem_cons_self)) (fn := Tryz.f61) Tryz.func61 (n := 17) rfl rfl rfl (fun _ _ => by kernel_rfl) fun E W hNW hb0 => by
 repeat apply Sq
 apply Pn
 refine JO.alloc ZU rfl fun b2 => ?_
 apply Ni
 repeat first | apply Nx | apply Nb
 refine Sl [0, 2] (.cons rfl (.cons rfl .nil)) ?_
 repeat apply Sq
 apply Pn
 refine Jt (Z0 rfl) rfl ?_
 refine JO.callPK (Lr := [_]) (Zz T hc b ts hts) rfl (List.perm_append_comm (l₁ := [_]) (l₂ := [_])) (fun F hF => by repeat (first | (rcases Mc.1 hF with rfl | hF; · (repeat first | exact Mh | apply Mt)) | (cases hF; done))) (.one rfl .nil) (fun hbad => ?_) ?_
 · exact JX.pnI (by unfold updateP; rw [hbad]; rfl)
 intro z1 hz1
 have h1 : Lt z1.2 ts := ZE _ _ hz1
 try dsimp only [nA, cA]
 refine Jt (Zv (cs := [_, _, _, _, _, _, _, _, _, _, _, _, _, _]) Z1X (.cons rfl (.cons rfl (.cons rfl .nil))) rfl rfl) rfl ?_
 refine JO.alloc ZU rfl fun b3 => ?_
 refine JO.m (Z3 rfl rfl (by repeat first | exact .here | apply Ut) (by first | exact cI rfl rfl | exact cE) (by first | exact cI rfl rfl | exact cE | exact cO) Zj) (by rfl) ?_
 apply Ni
 repeat first | apply Nx | apply Nb
 refine Sl [0, 2, 3] (.cons rfl (.cons rfl (.cons rfl .nil))) ?_
 repeat apply Sq
 apply Pn
 refine Jt (Z0 rfl) rfl ?_
 refine JO.callPK (Lr := [_, _]) (Zk T hc b (z1.2) (h1.1.trans hts) Zbh (by decide +kernel) (by decide +kernel) (asc (by decide +kernel))) rfl (.swap _ _ _) (fun F hF => by repeat (first | (rcases Mc.1 hF with rfl | hF; · (repeat first | exact Mh | apply Mt)) | (cases hF; done))) (.one rfl (.one rfl .nil)) (fun hbad => ?_) ?_
 · exact JX.pnI (by unfold updateP; rw [hz1, Option.bind_some, hbad]; rfl)
 intro z2 hz2
 have h2 : Lt z2.2 ts := Lt.trans (Zh _ _ _ _ hz2) h1.1
 try dsimp only [nA, cA]
 apply Ni
 repeat first | apply Nx | apply Nb
 refine Sl [0, 2, 3] (.cons rfl (.cons rfl (.cons rfl .nil))) ?_
 repeat apply Sq
 apply Pn
 refine Jt (Z0 rfl) rfl ?_
 refine Jt (Z2U .nil (.cons rfl .nil)) rfl ?_
 refine JO.callPK (Lr := [_]) (Z4L (S := UpS) N T hc h9 b z2.2 (h2.1.trans hts) pcE ZgX rfl (setP e) pcX (Z5H hed) (upX z1.1 b3) upI ([], none, 0) ⟨rfl, rfl⟩ (fun s o ho => by rw [List.mem_singleton.1 ho]; exact ⟨_, List.mem_cons_self, rfl⟩) (fun s => by obtain ⟨ps, st, cap⟩ := s; cases st <;> rfl) 16 Z3s [.pointer (some ⟨b3, 0, none⟩)] (fun us s l hus hu hI => Z5z N T hc h9 b us hus e (fun vs hvs hv => hex vs hvs (by have := h2.2; omega)) z1.1 b3 s l hI (by have := h2.2; have := hts.length_le; omega))) rfl (.refl _) (fun F hF => by repeat (first | (rcases Mc.1 hF with rfl | hF; · (repeat first | exact Mh | apply Mt)) | (cases hF; done))) (.one rfl (.one rfl (.one rfl .nil))) (fun hbad => ?_) ?_
 · exact JX.pnI (by unfold updateP; rw [hz1, Option.bind_some, hz2, Option.bind_some, hbad]; rfl)
 rintro ⟨l3, us3, ⟨ps, st, cap⟩⟩ ⟨hz3, hps, hG⟩
 dsimp only at hz3 hps hG
 have h3 : Lt us3 ts := Lt.trans (show Lt us3 z2.2 from Z5P (Z5H hed) 16 _ _ hz3) h2.1
 try dsimp only [nA, cA]
 rw [ZbT]
 try dsimp only [nA, cA]
 refine JO.openEv (s := 11) rfl (fun a11 l11 c11 _ _ => ?_)
 refine Jt (Z1 Z28 rfl) rfl ?_
 refine JO.m (Zf (cs' := [_, _, _, _, _, _, _, _, _, _, _, _, _, _]) rfl rfl (by repeat first | exact .here | apply Ut) rfl rfl rfl rfl Z60) (by rfl) ?_
 apply Ni
 repeat first | apply Nx | apply Nb
 refine Sl [0, 2, 3] (.cons rfl (.cons rfl (.cons rfl .nil))) ?_
 repeat apply Sq
 apply Pn
 refine Jt (Z0 rfl) rfl ?_
 refine JO.callPK (Lr := _) (Z2D N T hc h9 b us3 (h3.1.trans hts) e (fun vs hvs hv => hex vs hvs (by have := h3.2; omega))) rfl (.refl _) (fun F hF => by repeat (first | (rcases Mc.1 hF with rfl | hF; · (repeat first | exact Mh | apply Mt)) | (cases hF; done))) (.one rfl .nil) (fun hbad => ?_) ?_
 · exact JX.pnI (by unfold updateP; rw [hz1, Option.bind_some, hz2, Option.bind_some, hz3, Option.bind_some, hbad]; rfl)
 intro z4 hz4
 try dsimp only [nA, cA]
 refine JO.openEv (s := 14) rfl (fun a14 l14 c14 _ _ => ?_)
 refine Jt (Z1 Z24 rfl) rfl ?_
 refine JO.m (Zf (cs' := [_, _, _, _, _, _, _, _, _, _, _, _, _, _]) rfl rfl (by repeat first | exact .here | apply Ut) rfl rfl rfl rfl Z2Z) (by rfl) ?_
 apply Ni
 repeat first | apply Nx | apply Nb
 refine Sl [2, 3] (.cons rfl (.cons rfl .nil)) ?_
 refine J.freezeOMW (e := Z6) (sz := 8) hNW Cel.hlen hG (.there (.there .here)) (fun q hq => by simp only [List.map_cons, List.map_nil, List.mem_singleton] at hq; exact ⟨_, List.mem_cons_self, hq.symm⟩) rfl rfl ?_
 rw [hG.sl.1]
 repeat apply Sq
 apply Pn
 refine Jt (ZG (cs := [_, _, _, _, _, _, _, _, _, _, _, _, _, _]) Z8 rfl rfl rfl) rfl ?_
 refine JO.m (Z3 rfl rfl (by repeat first | exact .here | apply Ut) (by first | exact cI rfl rfl | exact cE) (by first | exact cI rfl rfl | exact cE | exact cO) Zj) (by rfl) ?_
 apply Ni
 repeat first | apply Nx | apply Nb
 refine Sl [2] (.cons rfl .nil) ?_
 repeat apply Sq
 apply Rt
 repeat first | apply Rp | apply Rb
 refine JX.toP ?_
 exact JX.retLCs (Lr := [_, _]) (L1 := fun z : Pz.St × List T3 => [PB T b z.2]) (R := fun z => .rep (StR N z.1)) rfl ({ stK 5 with tb := z1.1, names := (l3.map pcX).map (·.1), sets := (l3.map pcX).map (·.2), where_ := z4.1 }, z4.2) (by unfold updateP; rw [hz1, Option.bind_some, hz2, Option.bind_some, hz3, Option.bind_some, hz4]; rfl) (.refl _) rfl rfl hb0 rfl Z8 HasOwn.mem (Z18 rfl) (Sub.st rfl fun X w hf w' hk => ⟨Zb (FrS.nil _), Zgi (hf _ (by repeat first | exact Mh | apply Mt) w' hk), Zb trivial, Zb trivial, Zb trivial, hf _ (by repeat first | exact Mh | apply Mt) w' hk, Z13, Zb trivial, (by show ExsR ((l3.map pcX).map (·.2)) (.slice (adO st) ps.length (capO st cap)) w'; rw [Zhy, ← hps, ← hG.sl.1]; exact ZgM hG (hf _ (by repeat first | exact Mh | apply Mt) w' hk) (by rw [hps]; exact Zhd (hf _ (by repeat first | exact Mh | apply Mt) w' hk)))⟩)
theorem Z3r (N : Nat) (T : Tk) (hc : T.ts.length ≤ T.cap) (h9 : T.ts.length ≤ 2049) (b : Nat) (ts : List T3) (hts : ts <:+ T.ts) (e : Ps Ex) (hed : Dn e) (hex : ∀ us, us <:+ T.ts → us.length ≤ ts.length → CallP Tryz.prog Zx [PB T b (us)] [T.G, AF] [.is (.pointer (some ⟨b, 0, none⟩))] (e (us) = none) flt (fun z : Ex × List T3 => e (us) = some z) (fun z => [PB T b z.2]) (fun z => .rep (ExR z.1))) : CallP Tryz.prog Z2v [PB T b ts] [T.G, AF, NH N] [.is (.pointer (some ⟨b, 0, none⟩))] (withinP e ts = none) flt (fun z : List Ex × List T3 => withinP e ts = some z) (fun z => [PB T b z.2]) (fun z => .rep (rwE.T z.1)) :=
CallP.of (fn := Tryz.f111) Tryz.func111 (n := 5) rfl rfl rfl (fun _ _ => by kernel_rfl) fun E W hb0 => by
 repeat apply Sq
 apply Pn
 refine Jt (Z2 rfl) rfl ?_
 apply Ni
 repeat first | apply Nx | apply Nb
 refine Sl [0] (.cons rfl .nil) ?_
 repeat apply Sq
 apply Pn
 refine Jt (Z0 rfl) rfl ?_
 refine JO.callPK (Lr := []) (Z6m N T hc h9 b ts hts exE Z47 rfl e hed Zx (fun us hus hu => by have := hex us hus hu; simp only [Z8z] at this; exact this.weak (fun F hF => by repeat (first | (rcases Mc.1 hF with rfl | hF; · (repeat first | exact Mh | apply Mt)) | (cases hF; done))))) rfl (.refl _) (fun F hF => by repeat (first | (rcases Mc.1 hF with rfl | hF; · (repeat first | exact Mh | apply Mt)) | (cases hF; done))) (.one rfl (.one rfl .nil)) (fun hbad => ?_) ?_
 · exact JX.pnI (hbad)
 intro z hz
 try dsimp only [nA, cA]
 refine JO.openEv (s := 4) rfl (fun a4 l4 c4 _ _ => ?_)
 refine Jt (Z2 rfl) rfl ?_
 apply Ni
 repeat first | apply Nx | apply Nb
 refine Sl [2] (.cons rfl .nil) ?_
 repeat apply Sq
 apply Rt
 repeat first | apply Rp | apply Rb
 refine JX.toP ?_
 exact JX.retL1 (Lr := []) (L1 := fun z : List Ex × List T3 => [PB T b z.2]) (R := fun z => .rep (rwE.T z.1)) rfl z hz (.refl _) rfl rfl hb0 rfl (Sub.rwT (by repeat first | exact Mh | apply Mt))
theorem Z6j (N : Nat) (T : Tk) (hc : T.ts.length ≤ T.cap) (h9 : T.ts.length ≤ 2049) (b : Nat) (ts : List T3) (hts : ts <:+ T.ts)  : CallP Tryz.prog Z2G [PB T b ts] [T.G, AF, NH N] [.is (.pointer (some ⟨b, 0, none⟩))] (createP ts = none) flt (fun z : Pz.St × List T3 => createP ts = some z) (fun z => [PB T b z.2]) (fun z => .rep (StR N z.1)) :=
CallP.ofN (N := N) (List.mem_cons_of_mem _ (List.mem_cons_of_mem _ List.mem_cons_self)) (fn := Tryz.f58) Tryz.func58 (n := 43) rfl rfl rfl (fun _ _ => by kernel_rfl) fun E W hNW hb0 => by
 repeat apply Sq
 apply Pn
 refine JO.alloc ZU rfl fun b2 => ?_
 apply Ni
 repeat first | apply Nx | apply Nb
 refine Sl [0, 2] (.cons rfl (.cons rfl .nil)) ?_
 repeat apply Sq
 apply Pn
 refine Jt (Zv (cs := [_, _, _, _, _, _, _, _, _, _, _, _, _, _]) Z1X (.cons rfl (.cons rfl .nil)) rfl rfl) rfl ?_
 refine JO.alloc ZU rfl fun b3 => ?_
 refine JO.m (Z3 rfl rfl (by repeat first | exact .here | apply Ut) (by first | exact cI rfl rfl | exact cE) (by first | exact cI rfl rfl | exact cE | exact cO) Zj) (by rfl) ?_
 apply Ni
 repeat first | apply Nx | apply Nb
 refine Sl [0, 2, 3] (.cons rfl (.cons rfl (.cons rfl .nil))) ?_
 repeat apply Sq
 apply Pn
 refine Jt (Z0 rfl) rfl ?_
 refine JO.callK (Lr := [_, _]) (Zd T hc b (ts) (hts) Z71) rfl (List.perm_append_comm (l₁ := [_, _]) (l₂ := [_])) (fun F hF => by repeat (first | (rcases Mc.1 hF with rfl | hF; · (repeat first | exact Mh | apply Mt)) | (cases hF; done))) (.one rfl (.one rfl .nil)) ?_
 intro _ _
 try dsimp only [nA, cA]
 apply Ni
 repeat first | apply Nx | apply Nb
 refine Sl [0, 2, 3, 6] (.cons rfl (.cons rfl (.cons rfl (.cons rfl .nil)))) ?_
 repeat apply Sq
 refine Cd rfl (fun ht6 => ?_) (fun ht6 => ?_)
 ·
  try simp only [dT, dF] at ht6
  have htb : isT 1 Z71 ts = true := ht6
  rw [ZO htb]
  repeat apply Sq
  apply Pn
  refine Jt (Z0 rfl) rfl ?_
  refine JO.callPK (Lr := [_, _]) (Zz T hc b ts.tail (Zi hts)) rfl (.refl _) (fun F hF => by repeat (first | (rcases Mc.1 hF with rfl | hF; · (repeat first | exact Mh | apply Mt)) | (cases hF; done))) (.one rfl .nil) (fun hbad => ?_) ?_
  · exact JX.pnI (by unfold createP; rw [if_pos htb, hbad]; rfl)
  intro z1 hz1
  have h1 : z1.2 <:+ T.ts := (ZE _ _ hz1).1.trans (Zi hts)
  try dsimp only [nA, cA]
  refine Jt (Z1 Z42 rfl) rfl ?_
  refine JO.m (Zf (cs' := [_, _, _, _, _, _, _, _, _, _, _, _, _, _]) rfl rfl (by repeat first | exact .here | apply Ut) rfl rfl rfl rfl Z4e) (by rfl) ?_
  apply Ni
  repeat first | apply Nx | apply Nb
  refine Sl [0, 2, 3] (.cons rfl (.cons rfl (.cons rfl .nil))) ?_
  repeat apply Sq
  apply Pn
  refine Jt (Z0 rfl) rfl ?_
  refine JO.callPK (Lr := [_, _]) (Z5E N T hc h9 b z1.2 h1 coE Zgt rfl colP Zad Z3T (fun us hus hu => Z6o N T hc h9 b us hus)) rfl (.refl _) (fun F hF => by repeat (first | (rcases Mc.1 hF with rfl | hF; · (repeat first | exact Mh | apply Mt)) | (cases hF; done))) (.one rfl (.one rfl .nil)) (fun hbad => ?_) ?_
  · exact JX.pnI (by unfold createP; rw [if_pos htb, hz1, Option.bind_some, hbad]; rfl)
  intro z2 hz2
  try dsimp only [nA, cA]
  refine JO.openEv (s := 11) rfl (fun a11 l11 c11 _ _ => ?_)
  refine Jt (Z1 Z2N rfl) rfl ?_
  refine JO.m (Zf (cs' := [_, _, _, _, _, _, _, _, _, _, _, _, _, _]) rfl rfl (by repeat first | exact .here | apply Ut) rfl rfl rfl rfl Z9k) (by rfl) ?_
  apply Ni
  repeat first | apply Nx | apply Nb
  refine Sl [2, 3] (.cons rfl (.cons rfl .nil)) ?_
  repeat apply Sq
  apply Pn
  refine Jt (ZG (cs := [_, _, _, _, _, _, _, _, _, _, _, _, _, _]) Z8 rfl rfl rfl) rfl ?_
  refine JO.m (Z3 rfl rfl (by repeat first | exact .here | apply Ut) (by first | exact cI rfl rfl | exact cE) (by first | exact cI rfl rfl | exact cE | exact cO) Zj) (by rfl) ?_
  apply Ni
  repeat first | apply Nx | apply Nb
  refine Sl [2] (.cons rfl .nil) ?_
  repeat apply Sq
  apply Rt
  repeat first | apply Rp | apply Rb
  refine JX.toP ?_
  exact JX.retLCs (Lr := [_, _]) (L1 := fun z : Pz.St × List T3 => [PB T b z.2]) (R := fun z => .rep (StR N z.1)) rfl ({ stK 1 with tb := z1.1, cols := z2.1 }, z2.2) (by unfold createP; rw [if_pos htb, hz1, Option.bind_some, hz2]; rfl) (.refl _) rfl rfl hb0 rfl Z8 HasOwn.mem (Z18 rfl) (Sub.st rfl fun X w hf w' hk => ⟨hf _ (by repeat first | exact Mh | apply Mt) w' hk, Zb (FrS.nil _), Zb trivial, Zb trivial, Zb trivial, Zb (FrS.nil _), Z13, Zb trivial, Z13⟩)
 ·
  try simp only [dT, dF] at ht6
  apply Sk
  repeat first | apply Nx | apply Nb
  have htb : isT 1 Z71 ts = false := ht6
  rw [ZQ htb]
  repeat apply Sq
  apply Pn
  refine Jt (Z0 rfl) rfl ?_
  refine JO.callPK (Lr := [_, _]) (Zk T hc b (ts) (hts) Za7 (by decide +kernel) (by decide +kernel) (asc (by decide +kernel))) rfl (.refl _) (fun F hF => by repeat (first | (rcases Mc.1 hF with rfl | hF; · (repeat first | exact Mh | apply Mt)) | (cases hF; done))) (.one rfl (.one rfl .nil)) (fun hbad => ?_) ?_
  · exact JX.pnI (by unfold createP; rw [if_neg (by rw [htb]; decide), hbad]; rfl)
  intro z1 hz1
  have h1 : z1.2 <:+ T.ts := (Zh _ _ _ _ hz1).1.trans hts
  try dsimp only [nA, cA]
  apply Ni
  repeat first | apply Nx | apply Nb
  refine Sl [0, 2, 3] (.cons rfl (.cons rfl (.cons rfl .nil))) ?_
  repeat apply Sq
  apply Pn
  refine Jt (Z0 rfl) rfl ?_
  refine JO.callPK (Lr := [_, _]) (Zz T hc b z1.2 h1) rfl (.refl _) (fun F hF => by repeat (first | (rcases Mc.1 hF with rfl | hF; · (repeat first | exact Mh | apply Mt)) | (cases hF; done))) (.one rfl .nil) (fun hbad => ?_) ?_
  · exact JX.pnI (by unfold createP; rw [if_neg (by rw [htb]; decide), hz1, Option.bind_some, hbad]; rfl)
  intro z2 hz2
  have h2 : z2.2 <:+ T.ts := (ZE _ _ hz2).1.trans h1
  try dsimp only [nA, cA]
  refine Jt (Z1 Z44 rfl) rfl ?_
  refine JO.m (Zf (cs' := [_, _, _, _, _, _, _, _, _, _, _, _, _, _]) rfl rfl (by repeat first | exact .here | apply Ut) rfl rfl rfl rfl Z38) (by rfl) ?_
  refine Jt (Z1 Z5p rfl) rfl ?_
  refine JO.m (Zf (cs' := [_, _, _, _, _, _, _, _, _, _, _, _, _, _]) rfl rfl (by repeat first | exact .here | apply Ut) rfl rfl rfl rfl Z4e) (by rfl) ?_
  apply Ni
  repeat first | apply Nx | apply Nb
  refine Sl [0, 2, 3] (.cons rfl (.cons rfl (.cons rfl .nil))) ?_
  repeat apply Sq
  apply Pn
  refine Jt (Z0 rfl) rfl ?_
  refine JO.callPK (Lr := [_, _]) (Zk T hc b (z2.2) (h2) w_ON (by decide +kernel) (by decide +kernel) (asc (by decide +kernel))) rfl (.refl _) (fun F hF => by repeat (first | (rcases Mc.1 hF with rfl | hF; · (repeat first | exact Mh | apply Mt)) | (cases hF; done))) (.one rfl (.one rfl .nil)) (fun hbad => ?_) ?_
  · exact JX.pnI (by unfold createP; rw [if_neg (by rw [htb]; decide), hz1, Option.bind_some, hz2, Option.bind_some, hbad]; rfl)
  intro z3 hz3
  have h3 : z3.2 <:+ T.ts := (Zh _ _ _ _ hz3).1.trans h2
  try dsimp only [nA, cA]
  apply Ni
  repeat first | apply Nx | apply Nb
  refine Sl [0, 2, 3] (.cons rfl (.cons rfl (.cons rfl .nil))) ?_
  repeat apply Sq
  apply Pn
  refine Jt (Z0 rfl) rfl ?_
  refine JO.callPK (Lr := [_, _]) (Zz T hc b z3.2 h3) rfl (.refl _) (fun F hF => by repeat (first | (rcases Mc.1 hF with rfl | hF; · (repeat first | exact Mh | apply Mt)) | (cases hF; done))) (.one rfl .nil) (fun hbad => ?_) ?_
  · exact JX.pnI (by unfold createP; rw [if_neg (by rw [htb]; decide), hz1, Option.bind_some, hz2, Option.bind_some, hz3, Option.bind_some, hbad]; rfl)
  intro z4 hz4
  have h4 : z4.2 <:+ T.ts := (ZE _ _ hz4).1.trans h3
  try dsimp only [nA, cA]
  refine Jt (Z1 Z42 rfl) rfl ?_
  refine JO.m (Zf (cs' := [_, _, _, _, _, _, _, _, _, _, _, _, _, _]) rfl rfl (by repeat first | exact .here | apply Ut) rfl rfl rfl rfl Z4e) (by rfl) ?_
  apply Ni
  repeat first | apply Nx | apply Nb
  refine Sl [0, 2, 3] (.cons rfl (.cons rfl (.cons rfl .nil))) ?_
  repeat apply Sq
  apply Pn
  refine Jt (Z0 rfl) rfl ?_
  refine Jt (Z0 rfl) rfl ?_
  refine JO.callK (Lr := [_, _]) (Z9 T hc b (z4.2) (h4) s_lp) rfl (.refl _) (fun F hF => by repeat (first | (rcases Mc.1 hF with rfl | hF; · (repeat first | exact Mh | apply Mt)) | (cases hF; done))) (.one rfl (.one rfl .nil)) ?_
  intro _ _
  try dsimp only [nA, cA]
  refine JO.callPK (Lr := _) (Z7 (.pointer (some ⟨b, 0, none⟩)) (isT 5 s_lp z4.2)) rfl (Z1a _) Z10 (.one rfl (.one rfl .nil)) (fun hbad => ?_) ?_
  · exact JX.pnI (by unfold createP; rw [if_neg (by rw [htb]; decide), hz1, Option.bind_some, hz2, Option.bind_some, hz3, Option.bind_some, hz4, Option.bind_some, wantN hbad]; rfl)
  intro _ hlp
  try dsimp only [nA, cA]
  apply Ni
  repeat first | apply Nx | apply Nb
  refine Sl [0, 2, 3] (.cons rfl (.cons rfl (.cons rfl .nil))) ?_
  rw [ZO hlp]
  repeat apply Sq
  apply Pn
  refine Jt (Z0 rfl) rfl ?_
  refine JO.callPK (Lr := [_, _]) (Zz T hc b z4.2.tail (Zi h4)) rfl (.refl _) (fun F hF => by repeat (first | (rcases Mc.1 hF with rfl | hF; · (repeat first | exact Mh | apply Mt)) | (cases hF; done))) (.one rfl .nil) (fun hbad => ?_) ?_
  · exact JX.pnI (by unfold createP; rw [if_neg (by rw [htb]; decide), hz1, Option.bind_some, hz2, Option.bind_some, hz3, Option.bind_some, hz4, Option.bind_some, wantY hlp, Option.bind_some, hbad]; rfl)
  intro z5 hz5
  have h5 : z5.2 <:+ T.ts := (ZE _ _ hz5).1.trans (Zi h4)
  try dsimp only [nA, cA]
  refine JO.buildE (p := stC z5.1) ZbP Z1Y rfl (by decide) rfl rfl (fun b31 => ?_)
  refine Jt (Z1 Z28 rfl) rfl ?_
  refine JO.m (Zf (cs' := [_, _, _, _, _, _, _, _, _, _, _, _, _, _]) rfl rfl (by repeat first | exact .here | apply Ut) rfl rfl rfl rfl Z60) (by rfl) ?_
  apply Ni
  repeat first | apply Nx | apply Nb
  refine Sl [0, 2, 3] (.cons rfl (.cons rfl (.cons rfl .nil))) ?_
  refine J.freezeOMW (L' := [PB T b z5.2, _, _]) (e := ZN) (sz := 1) hNW Cel.hlen (growE (stC z5.1)) (Tl.here (st := some (b31, (stC z5.1).cs))) (fun q hq => by simp only [List.map_cons, List.map_nil, List.mem_singleton] at hq; exact ⟨_, List.mem_cons_self, hq.symm⟩) rfl rfl ?_
  refine J.fact (CelF stE [stC z5.1]) (fun X w hf _ => fun w' _ => ZiW _ _) ?_
  repeat apply Sq
  apply Pn
  refine Jt (Z0 rfl) rfl ?_
  refine Jt (Z0 rfl) rfl ?_
  refine JO.callK (Lr := [_, _]) (Z9 T hc b (z5.2) (h5) s_rp) rfl (.refl _) (fun F hF => by repeat (first | (rcases Mc.1 hF with rfl | hF; · (repeat first | exact Mh | apply Mt)) | (cases hF; done))) (.one rfl (.one rfl .nil)) ?_
  intro _ _
  try dsimp only [nA, cA]
  refine JO.callPK (Lr := _) (Z7 (.pointer (some ⟨b, 0, none⟩)) (isT 5 s_rp z5.2)) rfl (Z1a _) Z10 (.one rfl (.one rfl .nil)) (fun hbad => ?_) ?_
  · exact JX.pnI (by unfold createP; rw [if_neg (by rw [htb]; decide), hz1, Option.bind_some, hz2, Option.bind_some, hz3, Option.bind_some, hz4, Option.bind_some, wantY hlp, Option.bind_some, hz5, Option.bind_some, wantN hbad]; rfl)
  intro _ hrp
  try dsimp only [nA, cA]
  apply Ni
  repeat first | apply Nx | apply Nb
  refine Sl [0, 2, 3] (.cons rfl (.cons rfl (.cons rfl .nil))) ?_
  rw [ZO hrp]
  repeat apply Sq
  apply Pn
  refine Jt (Z0 rfl) rfl ?_
  refine JO.callK (Lr := [_, _]) (Zd T hc b (z5.2.tail) (Zi h5) Z5K) rfl (.refl _) (fun F hF => by repeat (first | (rcases Mc.1 hF with rfl | hF; · (repeat first | exact Mh | apply Mt)) | (cases hF; done))) (.one rfl (.one rfl .nil)) ?_
  intro _ _
  try dsimp only [nA, cA]
  apply Ni
  repeat first | apply Nx | apply Nb
  refine Sl [0, 2, 3, 38] (.cons rfl (.cons rfl (.cons rfl (.cons rfl .nil)))) ?_
  repeat apply Sq
  refine Cd rfl (fun ht38 => ?_) (fun ht38 => ?_)
  ·
   try simp only [dT, dF] at ht38
   have hus : isT 1 Z5K z5.2.tail = true := ht38
   rw [ZO hus]
   repeat apply Sq
   apply Pn
   refine Jt (Z0 rfl) rfl ?_
   refine JO.callPK (Lr := [_, _]) (Zk T hc b (z5.2.tail.tail) (Zi (Zi h5)) ZbW (by decide +kernel) (by decide +kernel) (asc (by decide +kernel))) rfl (.refl _) (fun F hF => by repeat (first | (rcases Mc.1 hF with rfl | hF; · (repeat first | exact Mh | apply Mt)) | (cases hF; done))) (.one rfl (.one rfl .nil)) (fun hbad => ?_) ?_
   · exact JX.pnI (by unfold createP; rw [if_neg (by rw [htb]; decide), hz1, Option.bind_some, hz2, Option.bind_some, hz3, Option.bind_some, hz4, Option.bind_some, wantY hlp, Option.bind_some, hz5, Option.bind_some, wantY hrp, Option.bind_some]; dsimp only; rw [if_pos hus, hbad]; rfl)
   intro z6 hz6
   try dsimp only [nA, cA]
   apply Ni
   repeat first | apply Nx | apply Nb
   refine Sl [2, 3] (.cons rfl (.cons rfl .nil)) ?_
   repeat apply Sq
   apply Pn
   refine Jt (Z1 Z4T rfl) rfl ?_
   refine JO.m (Zf (cs' := [_, _, _, _, _, _, _, _, _, _, _, _, _, _]) rfl rfl (by repeat first | exact .here | apply Ut) rfl rfl rfl rfl Z3O) (by rfl) ?_
   apply Ni
   repeat first | apply Nx | apply Nb
   refine Sl [2, 3] (.cons rfl (.cons rfl .nil)) ?_
   first | (have hus : isT 1 Z5K z5.2.tail = false := ht38; rw [ZQ hus]) | skip
   repeat apply Sq
   apply Pn
   refine Jt (ZG (cs := [_, _, _, _, _, _, _, _, _, _, _, _, _, _]) Z8 rfl rfl rfl) rfl ?_
   refine JO.m (Z3 rfl rfl (by repeat first | exact .here | apply Ut) (by first | exact cI rfl rfl | exact cE) (by first | exact cI rfl rfl | exact cE | exact cO) Zj) (by rfl) ?_
   apply Ni
   repeat first | apply Nx | apply Nb
   refine Sl [2] (.cons rfl .nil) ?_
   repeat apply Sq
   apply Rt
   repeat first | apply Rp | apply Rb
   refine JX.toP ?_
   exact JX.retLCs (Lr := [_, _]) (L1 := fun z : Pz.St × List T3 => [PB T b z.2]) (R := fun z => .rep (StR N z.1)) rfl ({ stK 2 with nm := z2.1, tb := z4.1, names := [z5.1], hash := true }, z6.2) (by unfold createP; rw [if_neg (by rw [htb]; decide), hz1, Option.bind_some, hz2, Option.bind_some, hz3, Option.bind_some, hz4, Option.bind_some, wantY hlp, Option.bind_some, hz5, Option.bind_some, wantY hrp, Option.bind_some]; dsimp only; rw [if_pos hus, hz6]; rfl) (.refl _) rfl rfl hb0 rfl Z8 HasOwn.mem (Z18 rfl) (Sub.st rfl fun X w hf w' hk => ⟨Zb (FrS.nil _), SlE.ofGr (growE (stC z5.1)) (hf _ (by repeat first | exact Mh | apply Mt) w' hk) (hf _ (by repeat first | exact Mh | apply Mt) w' hk) (hf _ (by repeat first | exact Mh | apply Mt) w' hk), Zb trivial, Zb trivial, Zb trivial, Zb (FrS.nil _), Z13, Zb trivial, Z13⟩)
  ·
   try simp only [dT, dF] at ht38
   apply Sk
   repeat first | apply Nx | apply Nb
   first | (have hus : isT 1 Z5K z5.2.tail = false := ht38; rw [ZQ hus]) | skip
   repeat apply Sq
   apply Pn
   refine Jt (ZG (cs := [_, _, _, _, _, _, _, _, _, _, _, _, _, _]) Z8 rfl rfl rfl) rfl ?_
   refine JO.m (Z3 rfl rfl (by repeat first | exact .here | apply Ut) (by first | exact cI rfl rfl | exact cE) (by first | exact cI rfl rfl | exact cE | exact cO) Zj) (by rfl) ?_
   apply Ni
   repeat first | apply Nx | apply Nb
   refine Sl [2] (.cons rfl .nil) ?_
   repeat apply Sq
   apply Rt
   repeat first | apply Rp | apply Rb
   refine JX.toP ?_
   exact JX.retLCs (Lr := [_, _]) (L1 := fun z : Pz.St × List T3 => [PB T b z.2]) (R := fun z => .rep (StR N z.1)) rfl ({ stK 2 with nm := z2.1, tb := z4.1, names := [z5.1] }, z5.2.tail) (by unfold createP; rw [if_neg (by rw [htb]; decide), hz1, Option.bind_some, hz2, Option.bind_some, hz3, Option.bind_some, hz4, Option.bind_some, wantY hlp, Option.bind_some, hz5, Option.bind_some, wantY hrp, Option.bind_some]; dsimp only; rw [if_neg (by rw [hus]; decide)]) (.refl _) rfl rfl hb0 rfl Z8 HasOwn.mem (Z18 rfl) (Sub.st rfl fun X w hf w' hk => ⟨Zb (FrS.nil _), SlE.ofGr (growE (stC z5.1)) (hf _ (by repeat first | exact Mh | apply Mt) w' hk) (hf _ (by repeat first | exact Mh | apply Mt) w' hk) (hf _ (by repeat first | exact Mh | apply Mt) w' hk), Zb trivial, Zb trivial, Zb trivial, Zb (FrS.nil _), Z13, Zb trivial, Z13⟩)
end Go.Proofs.YtbedigkncjbggaaGreatDoor
set_option maxRecDepth 20000
namespace Go.Proofs.YtbedigkncjbggaaGreatDoor
open Go Go.Vc
open Go.Pz
theorem Sub.stT {s : ByteArray} : Sub [] [] (.is (.string s)) (.rep (stE.T s)) := fun X v w _ e => by
 rw [show v = _ from e]
 exact fun w' _ => ⟨[.string s], rfl, rfl⟩
attribute [local irreducible] SlE ExsR
theorem Z6l (N : Nat) (T : Tk) (hc : T.ts.length ≤ T.cap) (h9 : T.ts.length ≤ 2049) (b : Nat) (ts : List T3) (hts : ts <:+ T.ts) (e : Ps Ex) (hed : Dn e) (hex : ∀ us, us <:+ T.ts → us.length ≤ ts.length → CallP Tryz.prog Zx [PB T b (us)] [T.G, AF] [.is (.pointer (some ⟨b, 0, none⟩))] (e (us) = none) flt (fun z : Ex × List T3 => e (us) = some z) (fun z => [PB T b z.2]) (fun z => .rep (ExR z.1))) : CallP Tryz.prog Z2I [PB T b ts] [T.G, AF, NH N] [.is (.pointer (some ⟨b, 0, none⟩))] (insertP e ts = none) flt (fun z : Pz.St × List T3 => insertP e ts = some z) (fun z => [PB T b z.2]) (fun z => .rep (StR N z.1)) :=
CallP.ofN (N := N) (List.mem_cons_of_mem _ (List.mem_cons_of_mem _ List.mem_cons_self)) (fn := Tryz.f59) Tryz.func59 (n := 34) rfl rfl rfl (fun _ _ => by kernel_rfl) fun E W hNW hb0 => by
 repeat apply Sq
 apply Pn
 refine JO.alloc ZU rfl fun b2 => ?_
 apply Ni
 repeat first | apply Nx | apply Nb
 refine Sl [0, 2] (.cons rfl (.cons rfl .nil)) ?_
 repeat apply Sq
 apply Pn
 refine Jt (Z0 rfl) rfl ?_
 refine JO.callPK (Lr := [_]) (Zk T hc b (ts) (hts) Z9K (by decide +kernel) (by decide +kernel) (asc (by decide +kernel))) rfl (List.perm_append_comm (l₁ := [_]) (l₂ := [_])) (fun F hF => by repeat (first | (rcases Mc.1 hF with rfl | hF; · (repeat first | exact Mh | apply Mt)) | (cases hF; done))) (.one rfl (.one rfl .nil)) (fun hbad => ?_) ?_
 · exact JX.pnI (by unfold insertP; rw [hbad]; rfl)
 intro z0 hz0
 have h0 : Lt z0.2 ts := Zh _ _ _ _ hz0
 try dsimp only [nA, cA]
 apply Ni
 repeat first | apply Nx | apply Nb
 refine Sl [0, 2] (.cons rfl (.cons rfl .nil)) ?_
 repeat apply Sq
 apply Pn
 refine Jt (Z0 rfl) rfl ?_
 refine JO.callPK (Lr := [_]) (Zz T hc b z0.2 (h0.1.trans hts)) rfl (.refl _) (fun F hF => by repeat (first | (rcases Mc.1 hF with rfl | hF; · (repeat first | exact Mh | apply Mt)) | (cases hF; done))) (.one rfl .nil) (fun hbad => ?_) ?_
 · exact JX.pnI (by unfold insertP; rw [hz0, Option.bind_some, hbad]; rfl)
 intro z1 hz1
 have h1 : Lt z1.2 ts := Lt.trans (ZE _ _ hz1) h0.1
 have h1s : z1.2 <:+ T.ts := h1.1.trans hts
 try dsimp only [nA, cA]
 refine Jt (Zv (cs := [_, _, _, _, _, _, _, _, _, _, _, _, _, _]) Z1X (.cons rfl (.cons rfl (.cons rfl .nil))) rfl rfl) rfl ?_
 refine JO.alloc ZU rfl fun b3 => ?_
 refine JO.m (Z3 rfl rfl (by repeat first | exact .here | apply Ut) (by first | exact cI rfl rfl | exact cE) (by first | exact cI rfl rfl | exact cE | exact cO) Zj) (by rfl) ?_
 apply Ni
 repeat first | apply Nx | apply Nb
 refine Sl [0, 2, 3] (.cons rfl (.cons rfl (.cons rfl .nil))) ?_
 repeat apply Sq
 apply Pn
 refine Jt (Z0 rfl) rfl ?_
 refine Jt (Z5 rfl) rfl ?_
 refine Jt (Z1 Zg rfl) rfl ?_
 refine Jt (Z4 Zs rfl rfl) rfl ?_
 refine Jt (Zq ZY rfl) rfl ?_
 refine Jt (Z2O rfl rfl) rfl ?_
 refine Jt (Z0 rfl) rfl ?_
 refine JO.tg rfl rfl rfl rfl rfl (fun hg => Z0 (.inl rfl)) ?_
 refine JO.tg rfl rfl rfl rfl rfl (fun hg => Z5 (.inr ⟨_, rfl, id⟩)) ?_
 refine JO.tg rfl rfl rfl rfl rfl (fun hg => Z1 Zg (.inr ⟨_, rfl, id⟩)) ?_
 refine JO.tg rfl rfl rfl rfl rfl (fun hg => Z4 Zs (.inr ⟨_, rfl, id⟩) rfl) ?_
 refine JO.tg rfl rfl rfl rfl rfl (fun hg => Za ZX (.inr ⟨_, rfl, id⟩) rfl (.inl rfl) (by omega) (Z2j (Z2r hg))) ?_
 refine JO.tg rfl rfl rfl rfl rfl (fun hg => Z3A (enc := T3.cells) (sz := 3) (i := T.k z1.2) (y := z1.2.headD t3D) (cs := T3.cells (z1.2.headD t3D)) ZW (.inr ⟨_, rfl, id⟩) (by repeat first | exact Mh | apply Mt) rfl (Tk.head h1s (Z2r hg)) (by rw [Tk.j_eq hc h1s (Z2r hg)]; rfl) rfl) ?_
 refine JO.tg rfl rfl rfl rfl rfl (fun hg => Zv (cs := [_, _, _]) Z1k (.cons (.inl rfl) (.cons (.inl rfl) .nil)) rfl rfl) ?_
 refine JO.tg rfl rfl rfl rfl rfl (fun hg => ZiG (b := ⟨5, s_lp, 0⟩) Zb2 (.inr ⟨_, rfl, id⟩) (.inr ⟨_, rfl, id⟩)) ?_
 refine Jt (Zy rfl rfl rfl id) rfl ?_
 apply Ni
 repeat first | apply Nx | apply Nb
 refine Sl [0, 2, 3, 24] (.cons rfl (.cons rfl (.cons rfl (.cons rfl .nil)))) ?_
 repeat apply Sq
 refine Cd rfl (fun ht24 => ?_) (fun ht24 => ?_)
 ·
  try simp only [dT, dF] at ht24
  have hlp : isLp z1.2 = true := by rw [← Z9l]; exact ht24
  repeat apply Sq
  apply Pn
  refine Jt (Z0 rfl) rfl ?_
  refine JO.callPK (Lr := [_, _]) (Z78 N T hc h9 b z1.2 h1s stE ZbP rfl nameP ZE Z4a (fun us hus hu => ((Zz T hc b us hus).weak (fun F hF => by rw [List.mem_singleton.1 hF]; exact List.mem_cons_self)).sub (fun z => Sub.stT))) rfl (.swap _ _ _) (fun F hF => by repeat (first | (rcases Mc.1 hF with rfl | hF; · (repeat first | exact Mh | apply Mt)) | (cases hF; done))) (.one rfl (.one rfl .nil)) (fun hbad => ?_) ?_
  · exact JX.pnI (by unfold insertP; rw [hz0, Option.bind_some, hz1, Option.bind_some]; rw [if_pos hlp, hbad]; rfl)
  intro z2 hz2
  have h2 : Lt z2.2 ts := Lt.trans (Z2t ZE.le _ _ hz2) h1.1
  try dsimp only [nA, cA]
  refine JO.openEv (s := 26) rfl (fun a26 l26 c26 _ _ => ?_)
  refine Jt (Z1 Z28 rfl) rfl ?_
  refine JO.m (Zf (cs' := [_, _, _, _, _, _, _, _, _, _, _, _, _, _]) rfl rfl (by repeat first | exact .here | apply Ut) rfl rfl rfl rfl Z60) (by rfl) ?_
  apply Ni
  repeat first | apply Nx | apply Nb
  refine Sl [0, 2, 3] (.cons rfl (.cons rfl (.cons rfl .nil))) ?_
  first | (have hlp : isLp z1.2 = false := (by rw [← Z9l]; exact ht24); refine J.has (L' := [PB T b z1.2, ⟨b3, _, _⟩, ⟨b2, _, _⟩]) (by repeat (first | exact .all | exact .nil | refine Has.cons (by repeat (first | exact .here | apply Pk.past | apply Pk.there)) ?_)) ?_; have hx := h1) | (have hx := h2)
  repeat apply Sq
  apply Pn
  refine Jt (Z0 rfl) rfl ?_
  refine JO.callPK (Lr := [_, _]) (Zk T hc b _ (hx.1.trans hts) Z66 (by decide +kernel) (by decide +kernel) (asc (by decide +kernel))) rfl (.refl _) (fun F hF => by repeat (first | (rcases Mc.1 hF with rfl | hF; · (repeat first | exact Mh | apply Mt)) | (cases hF; done))) (.one rfl (.one rfl .nil)) (fun hbad => ?_) ?_
  · exact JX.pnI (by first | (unfold insertP; rw [hz0, Option.bind_some, hz1, Option.bind_some]; rw [if_pos hlp, hz2, Option.bind_some]; unfold insRows; rw [hbad]; rfl) | (unfold insertP; rw [hz0, Option.bind_some, hz1, Option.bind_some]; rw [if_neg (by rw [hlp]; decide)]; unfold insRows; rw [hbad]; rfl))
  intro z3 hz3
  have h3 : Lt z3.2 ts := Lt.trans (Zh _ _ _ _ hz3) hx.1
  try dsimp only [nA, cA]
  apply Ni
  repeat first | apply Nx | apply Nb
  refine Sl [0, 2, 3] (.cons rfl (.cons rfl (.cons rfl .nil))) ?_
  repeat apply Sq
  apply Pn
  refine Jt (Z0 rfl) rfl ?_
  refine JO.callPK (Lr := [_, _]) (Z3E N T hc h9 b z3.2 (h3.1.trans hts) rwE ZbD rfl (withinP e) (Z2t hed.le) 32 Z2v (fun us hus hu => Z3r N T hc h9 b us hus e hed (fun vs hvs hv => hex vs hvs (by have := h3.2; omega)))) rfl (.refl _) (fun F hF => by repeat (first | (rcases Mc.1 hF with rfl | hF; · (repeat first | exact Mh | apply Mt)) | (cases hF; done))) (.one rfl (.one rfl (.one rfl .nil))) (fun hbad => ?_) ?_
  · exact JX.pnI (by first | (unfold insertP; rw [hz0, Option.bind_some, hz1, Option.bind_some]; rw [if_pos hlp, hz2, Option.bind_some]; unfold insRows; rw [hz3, Option.bind_some, hbad]; rfl) | (unfold insertP; rw [hz0, Option.bind_some, hz1, Option.bind_some]; rw [if_neg (by rw [hlp]; decide)]; unfold insRows; rw [hz3, Option.bind_some, hbad]; rfl))
  intro z4 hz4
  try dsimp only [nA, cA]
  refine JO.openEv (s := 31) rfl (fun a31 l31 c31 _ _ => ?_)
  refine Jt (Z1 Z1D rfl) rfl ?_
  refine JO.m (Zf (cs' := [_, _, _, _, _, _, _, _, _, _, _, _, _, _]) rfl rfl (by repeat first | exact .here | apply Ut) rfl rfl rfl rfl Z5u) (by rfl) ?_
  apply Ni
  repeat first | apply Nx | apply Nb
  refine Sl [2, 3] (.cons rfl (.cons rfl .nil)) ?_
  repeat apply Sq
  apply Pn
  refine Jt (ZG (cs := [_, _, _, _, _, _, _, _, _, _, _, _, _, _]) Z8 rfl rfl rfl) rfl ?_
  refine JO.m (Z3 rfl rfl (by repeat first | exact .here | apply Ut) (by first | exact cI rfl rfl | exact cE) (by first | exact cI rfl rfl | exact cE | exact cO) Zj) (by rfl) ?_
  apply Ni
  repeat first | apply Nx | apply Nb
  refine Sl [2] (.cons rfl .nil) ?_
  repeat apply Sq
  apply Rt
  repeat first | apply Rp | apply Rb
  refine JX.toP ?_
  exact JX.retLCs (Lr := [_, _]) (L1 := fun z : Pz.St × List T3 => [PB T b z.2]) (R := fun z => .rep (StR N z.1)) rfl ({ stK 3 with tb := z1.1, names := z2.1, rows := z4.1 }, z4.2) (by unfold insertP; rw [hz0, Option.bind_some, hz1, Option.bind_some]; rw [if_pos hlp, hz2, Option.bind_some]; unfold insRows; rw [hz3, Option.bind_some, hz4]; rfl) (.refl _) rfl rfl hb0 rfl Z8 HasOwn.mem (Z18 rfl) (Sub.st rfl fun X w hf w' hk => ⟨Zb (FrS.nil _), hf _ (by repeat first | exact Mh | apply Mt) w' hk, SlE.weak (hf _ (by repeat first | exact Mh | apply Mt) w' hk) (fun _ _ _ _ => trivial), Zb trivial, Zb trivial, Zb (FrS.nil _), Z13, Zb trivial, Z13⟩)
 ·
  try simp only [dT, dF] at ht24
  apply Sk
  repeat first | apply Nx | apply Nb
  first | (have hlp : isLp z1.2 = false := (by rw [← Z9l]; exact ht24); refine J.has (L' := [PB T b z1.2, ⟨b3, _, _⟩, ⟨b2, _, _⟩]) (by repeat (first | exact .all | exact .nil | refine Has.cons (by repeat (first | exact .here | apply Pk.past | apply Pk.there)) ?_)) ?_; have hx := h1) | (have hx := h2)
  repeat apply Sq
  apply Pn
  refine Jt (Z0 rfl) rfl ?_
  refine JO.callPK (Lr := [_, _]) (Zk T hc b _ (hx.1.trans hts) Z66 (by decide +kernel) (by decide +kernel) (asc (by decide +kernel))) rfl (.refl _) (fun F hF => by repeat (first | (rcases Mc.1 hF with rfl | hF; · (repeat first | exact Mh | apply Mt)) | (cases hF; done))) (.one rfl (.one rfl .nil)) (fun hbad => ?_) ?_
  · exact JX.pnI (by first | (unfold insertP; rw [hz0, Option.bind_some, hz1, Option.bind_some]; rw [if_pos hlp, hz2, Option.bind_some]; unfold insRows; rw [hbad]; rfl) | (unfold insertP; rw [hz0, Option.bind_some, hz1, Option.bind_some]; rw [if_neg (by rw [hlp]; decide)]; unfold insRows; rw [hbad]; rfl))
  intro z3 hz3
  have h3 : Lt z3.2 ts := Lt.trans (Zh _ _ _ _ hz3) hx.1
  try dsimp only [nA, cA]
  apply Ni
  repeat first | apply Nx | apply Nb
  refine Sl [0, 2, 3] (.cons rfl (.cons rfl (.cons rfl .nil))) ?_
  repeat apply Sq
  apply Pn
  refine Jt (Z0 rfl) rfl ?_
  refine JO.callPK (Lr := [_, _]) (Z3E N T hc h9 b z3.2 (h3.1.trans hts) rwE ZbD rfl (withinP e) (Z2t hed.le) 32 Z2v (fun us hus hu => Z3r N T hc h9 b us hus e hed (fun vs hvs hv => hex vs hvs (by have := h3.2; omega)))) rfl (.refl _) (fun F hF => by repeat (first | (rcases Mc.1 hF with rfl | hF; · (repeat first | exact Mh | apply Mt)) | (cases hF; done))) (.one rfl (.one rfl (.one rfl .nil))) (fun hbad => ?_) ?_
  · exact JX.pnI (by first | (unfold insertP; rw [hz0, Option.bind_some, hz1, Option.bind_some]; rw [if_pos hlp, hz2, Option.bind_some]; unfold insRows; rw [hz3, Option.bind_some, hbad]; rfl) | (unfold insertP; rw [hz0, Option.bind_some, hz1, Option.bind_some]; rw [if_neg (by rw [hlp]; decide)]; unfold insRows; rw [hz3, Option.bind_some, hbad]; rfl))
  intro z4 hz4
  try dsimp only [nA, cA]
  refine JO.openEv (s := 31) rfl (fun a31 l31 c31 _ _ => ?_)
  refine Jt (Z1 Z1D rfl) rfl ?_
  refine JO.m (Zf (cs' := [_, _, _, _, _, _, _, _, _, _, _, _, _, _]) rfl rfl (by repeat first | exact .here | apply Ut) rfl rfl rfl rfl Z5u) (by rfl) ?_
  apply Ni
  repeat first | apply Nx | apply Nb
  refine Sl [2, 3] (.cons rfl (.cons rfl .nil)) ?_
  repeat apply Sq
  apply Pn
  refine Jt (ZG (cs := [_, _, _, _, _, _, _, _, _, _, _, _, _, _]) Z8 rfl rfl rfl) rfl ?_
  refine JO.m (Z3 rfl rfl (by repeat first | exact .here | apply Ut) (by first | exact cI rfl rfl | exact cE) (by first | exact cI rfl rfl | exact cE | exact cO) Zj) (by rfl) ?_
  apply Ni
  repeat first | apply Nx | apply Nb
  refine Sl [2] (.cons rfl .nil) ?_
  repeat apply Sq
  apply Rt
  repeat first | apply Rp | apply Rb
  refine JX.toP ?_
  exact JX.retLCs (Lr := [_, _]) (L1 := fun z : Pz.St × List T3 => [PB T b z.2]) (R := fun z => .rep (StR N z.1)) rfl ({ stK 3 with tb := z1.1, names := [], rows := z4.1 }, z4.2) (by unfold insertP; rw [hz0, Option.bind_some, hz1, Option.bind_some]; rw [if_neg (by rw [hlp]; decide)]; unfold insRows; rw [hz3, Option.bind_some, hz4]; rfl) (.refl _) rfl rfl hb0 rfl Z8 HasOwn.mem (Z18 rfl) (Sub.st rfl fun X w hf w' hk => ⟨Zb (FrS.nil _), Zb (FrS.nil _), SlE.weak (hf _ (by repeat first | exact Mh | apply Mt) w' hk) (fun _ _ _ _ => trivial), Zb trivial, Zb trivial, Zb (FrS.nil _), Z13, Zb trivial, Z13⟩)
end Go.Proofs.YtbedigkncjbggaaGreatDoor
namespace Go.Pz
open Go Go.Vc
theorem Z6L {e : Ps Ex} (he : Dn e) : ∀ (n m : Nat) (ts : List T3), ts.length ≤ n → ts.length ≤ m → joinsG e n ts = joinsG e m ts
  | 0, m, ts, h, _ => by
    have : ts = [] := List.length_eq_zero_iff.1 (by omega)
    subst this
    cases m with
    | zero => rfl
    | succ m => rw [joinsG, joinsG, if_neg (by exact Bool.false_ne_true)]
  | n + 1, 0, ts, _, h => by
    have : ts = [] := List.length_eq_zero_iff.1 (by omega)
    subst this
    rw [joinsG, joinsG, if_neg (by exact Bool.false_ne_true)]
  | n + 1, m + 1, ts, h, h' => by
    rw [joinsG, joinsG]
    split
    · exact Z1W fun y hy => by
        have h2 := (Z4N he _ _ hy).2
        have h3 := (Z3H 1 ZT ts).length_le
        rw [Z6L he n m y.2 (by omega) (by omega)]
    · rfl
def joinsC (e : Ps Ex) : Ps (List Src) := fun ts => joinsG e ts.length ts
def isJ (us : List T3) : Bool := isT 1 ZT us || isT 1 Z3G us
theorem Zfc {e : Ps Ex} {ts : List T3} (h : isJ ts = false) : joinsC e ts = some ([], ts) := by
 unfold joinsC
 cases ts.length with
 | zero => rfl
 | succ n => rw [joinsG, if_neg (by rw [show (isT 1 ZT ts || isT 1 Z3G ts) = false from h]; decide)]
theorem Zej {e : Ps Ex} (he : Dn e) {ts : List T3} (h : isJ ts = true) : joinsC e ts = (joinP e (skT 1 ZT ts)).bind fun s => (joinsC e s.2).map fun y => (s.1 :: y.1, y.2) := by
  unfold joinsC
  rw [Z6L he _ (ts.length + 1) ts (by omega) (by omega), joinsG, if_pos (by exact h)]
  exact Z1W fun y hy => by
    have h2 := (Z4N he _ _ hy).2
    have h3 := (Z3H 1 ZT ts).length_le
    rw [Z6L he _ y.2.length y.2 (by omega) (by omega)]
def joinI (e : Ps Ex) (xs : List Src) : Ps (List Src) := fun us => (joinsC e us).map fun y => (xs ++ y.1, y.2)
theorem Z1l {e : Ps Ex} {xs : List Src} {us : List T3} (h : isJ us = false) : joinI e xs us = some (xs, us) := by
 unfold joinI; rw [Zfc h]; simp
theorem Z5j {e : Ps Ex} (he : Dn e) {xs : List Src} {us : List T3} (h : isJ us = true) : joinI e xs us = (joinP e (skT 1 ZT us)).bind fun s => joinI e (xs ++ [s.1]) s.2 := by
 unfold joinI
 rw [Zej he h, Option.map_bind]
 refine Z1W fun s _ => ?_
 simp only [Function.comp]
 cases joinsC e s.2 with
 | none => rfl
 | some y => simp
def qTail (e : Ps Ex) (is : List Itm) (xs : List Src) : Ps St := fun us =>
 if xs.length ≤ 4 then (whereP e us).bind fun w => (groupP e w.2).bind fun g => (orderP e g.2).bind fun o => (limitP o.2).map fun l =>
  ({ stK 4 with items := is, from_ := xs, where_ := w.1, group := g.1, order := o.1, limit := l.1 }, l.2)
 else none
theorem ZZ (e : Ps Ex) (ts : List T3) : queryP e ts = (listP 16 (itemP e) ts).bind fun i => (wantP 1 Z4D i.2).bind fun a => (sourceP a.2).bind fun s => (joinI e [s.1] s.2).bind fun j => qTail e i.1 j.1 j.2 := by
 unfold queryP joinI
 refine Z1W fun i _ => Z1W fun a _ => Z1W fun s _ => ?_
 show (joinsC e s.2).bind _ = _
 cases joinsC e s.2 with
 | none => rfl
 | some j => simp only [Option.bind_some, Option.map_some, qTail, List.singleton_append, List.length_cons]
theorem Z8I {e : Ps Ex} {us : List T3} (h : isT 1 Z4h us = true) : groupP e us = (wantP 1 w_BY us.tail).bind fun a => listP 16 e a.2 := by unfold groupP; rw [if_pos h]
theorem ZdJ {e : Ps Ex} {us : List T3} (h : isT 1 Z4h us = false) : groupP e us = some ([], us) := by unfold groupP; rw [if_neg (by rw [h]; decide)]
theorem Z4k {e : Ps Ex} {us : List T3} (h : isT 1 Z2J us = true) : orderP e us = (wantP 1 w_BY us.tail).bind fun a => listP 16 (keyP e) a.2 := by unfold orderP; rw [if_pos h]
theorem Z8E {e : Ps Ex} {us : List T3} (h : isT 1 Z2J us = false) : orderP e us = some ([], us) := by unfold orderP; rw [if_neg (by rw [h]; decide)]
theorem Z2L {us : List T3} (h : isT 1 Z1z us = true) : limitP us = (takeP 3 us.tail).map fun z => (z.1.n, z.2) := by unfold limitP; rw [if_pos h]
theorem Z4b {us : List T3} (h : isT 1 Z1z us = false) : limitP us = some (-1, us) := by unfold limitP; rw [if_neg (by rw [h]; decide)]
theorem ZaR {us : List T3} {z : Src × List T3} (h : sourceP us = some z) : z.1.on = [] := by
 unfold sourceP at h
 obtain ⟨n, _, h⟩ := bnd h
 split at h
 · obtain ⟨m, _, rfl⟩ := mpd h; rfl
 split at h
 · obtain ⟨m, _, rfl⟩ := mpd h; rfl
 · injection h with h; subst h; rfl
theorem Zfg (us : List T3) : (isT 1 ZT us || ((decide ((0 : Int) < (((skT 1 ZT us).length : Nat) : Int)) && seq ((skT 1 ZT us).headD t3D).t Z3G) && (((skT 1 ZT us).headD t3D).k == 1))) = isJ us := by
  unfold isJ
  cases h : isT 1 ZT us with
  | true => rfl
  | false =>
    have hs : skT 1 ZT us = us := by unfold skT; rw [h]; rfl
    rw [hs]
    cases us with
    | nil => rfl
    | cons t r =>
      rw [decide_eq_true (show (0 : Int) < (((t :: r).length : Nat) : Int) by simp), Bool.true_and, Z5W]
      show (false || (sq t.t Z3G && (t.k == 1))) = (false || ((t.k == 1) && sq t.t Z3G))
      rw [Bool.and_comm]
end Go.Pz
namespace Go.Pz
open Go Go.Vc
theorem Z6v {e : Ps Ex} (he : Dn e) {us : List T3} {z : List Ex × List T3} (h : whereP e us = some z) : z.2 <:+ us := by
  unfold whereP at h
  split at h
  · rename_i hi
    obtain ⟨v, h5, rfl⟩ := mpd h
    exact (he _ _ h5).1.trans (Zr hi).1
  · injection h with h; subst h; exact List.suffix_refl us
end Go.Pz
