/- The parser: columns, items, keys. No condition. -/
import Derived.Test.YtbedigkncjbggaaGreatDoorXQ8
import Derived.Test.YtbedigkncjbggaaGreatDoorXQ1
set_option maxRecDepth 20000
namespace Go.Proofs.YtbedigkncjbggaaGreatDoor
open Go Go.Vc
open Go.Pz
abbrev tyO : List (ByteArray × Int) := [(ZcX, 1), (Zbn, 2), (Zby, 3)]
abbrev tyVs : List Value := [.string ZcX, .string Zbn, .string Zby]
theorem Zls {i : Nat} (h : i < 3) : tyVs[0 + ((i : Nat) : Int).toNat * 1]? = some (.string (tyO.getD i (em, 0)).1) := by
 match i, h with
 | 0, _ => rfl
 | 1, _ => rfl
 | 2, _ => rfl
theorem ty_k {i : Nat} (h : i < 3) : ((i : Nat) : Int) + 1 = (tyO.getD i (em, 0)).2 := by
 match i, h with
 | 0, _ => rfl
 | 1, _ => rfl
 | 2, _ => rfl
theorem ZdF (us : List T3) : typeP us = (opOf 1 tyO us).map fun t => (t, us.tail) := by
 unfold typeP
 simp only [Go.Pz.opOf]
 split
 · rfl
 split
 · rfl
 split
 · rfl
 · rfl
def coI (us1 : List T3) (i : Nat) (ty : Int) (us : List T3) : Prop := (ty = 0 → us = us1 ∧ opOf 1 (tyO.drop i) us1 = opOf 1 tyO us1) ∧ (ty ≠ 0 → 0 < ty ∧ typeP us1 = some (ty, us))
theorem Zjf {us1 : List T3} {i : Nat} {us : List T3} (h : coI us1 i 0 us) (hi : i < 3) (ht : isT 1 (tyO.getD i (em, 0)).1 us = true) : coI us1 (i + 1) (((i : Nat) : Int) + 1) us.tail := by
 obtain ⟨rfl, h2⟩ := h.1 rfl
 rw [Z5v (ops := tyO) (by show i < 3; omega), if_pos ht] at h2
 refine ⟨fun e => by omega, fun _ => ⟨by omega, ?_⟩⟩
 rw [ZdF, ← h2, ty_k hi]; rfl
theorem ZkA {us1 : List T3} {i : Nat} {us : List T3} (h : coI us1 i 0 us) (hi : i < 3) (ht : isT 1 (tyO.getD i (em, 0)).1 us = false) : coI us1 (i + 1) 0 us := by
 obtain ⟨rfl, h2⟩ := h.1 rfl
 rw [Z5v (ops := tyO) (by show i < 3; omega), if_neg (by rw [ht]; decide)] at h2
 exact ⟨fun _ => ⟨rfl, h2⟩, fun e => absurd rfl e⟩
theorem Zki {us1 : List T3} {i : Nat} {ty : Int} {us : List T3} (h : coI us1 i ty us) (hn : ty ≠ 0) : coI us1 (i + 1) ty us := ⟨fun e => absurd e hn, h.2⟩
theorem Zf1 {us1 : List T3} {i : Nat} {ty : Int} {us : List T3} (h : coI us1 i ty us) (hi : 3 ≤ i) : (¬ 0 < ty → typeP us1 = none) ∧ (0 < ty → typeP us1 = some (ty, us)) := by
 refine ⟨fun hn => ?_, fun hp => (h.2 qM).2⟩
 by_cases e : ty = 0
 · have := (h.1 e).2
   rw [List.drop_eq_nil_of_le (by exact hi)] at this
   rw [ZdF, ← this]; rfl
 · exact absurd (h.2 e).1 hn
theorem Sub.coT {L : List Own} {Φ : List (World → Prop)} {nm : ByteArray} {ty : Int} {nn un : Bool} : Sub L Φ (.is (.agg #[.string nm, .int .i64 ty, .bool nn, .bool un])) (.rep (coE.T ⟨nm, ty, nn, un⟩)) := fun X v w hf e => by
 rw [show v = _ from e]
 exact fun w' _ => ⟨Col.cells ⟨nm, ty, nn, un⟩, rfl, rfl⟩
theorem Sub.itAll {L : List Own} {Φ : List (World → Prop)} : Sub L Φ (.is (.agg #[.bool true, .int .i64 0, .int .i64 0, .int .i64 0, .string em, .string em, .string em, .int .i64 0, .slice none 0 0])) (.rep (itE.T ⟨true, ex0⟩)) := fun X v w hf e => by
 rw [show v = _ from e]
 exact fun w' _ => ⟨_, rfl, exCells 0 0 0 em em em 0 none 0 0, rfl, Zd5⟩
theorem Sub.itEx {L : List Own} {Φ : List (World → Prop)} {x : Ex} {es : List Value} {cs : Array Value} (hF : ExR x (.agg es.toArray) ∈ Φ) (hc : cs = (Value.bool false :: es).toArray) : Sub L Φ (.is (.agg cs)) (.rep (itE.T ⟨false, x⟩)) := fun X v w hf e => by
 rw [show v = _ from e, hc]
 exact fun w' hk => ⟨_, rfl, es, rfl, hf.2 _ hF w' hk⟩
theorem Sub.kyEx {L : List Own} {Φ : List (World → Prop)} {x : Ex} {d : Bool} {es : List Value} {cs : Array Value} (hF : ExR x (.agg es.toArray) ∈ Φ) (hc : cs = (es ++ [Value.bool d]).toArray) : Sub L Φ (.is (.agg cs)) (.rep (kyE.T ⟨x, d⟩)) := fun X v w hf e => by
 rw [show v = _ from e, hc]
 exact fun w' hk => ⟨_, rfl, es, rfl, hf.2 _ hF w' hk⟩
theorem Z7m (N : Nat) (T : Tk) (hc : T.ts.length ≤ T.cap) (h9 : T.ts.length ≤ 2049) (b : Nat) (ts : List T3) (hts : ts <:+ T.ts)  : CallP Tryz.prog Z4S [PB T b ts] [T.G, AF, NH N] [.is (.pointer (some ⟨b, 0, none⟩))] (colP ts = none) flt (fun z : Pz.Col × List T3 => colP ts = some z) (fun z => [PB T b z.2]) (fun z => .rep (coE.T z.1)) :=
CallP.of (fn := Tryz.f107) Tryz.func107 (n := 49) rfl rfl rfl (fun _ _ => by kernel_rfl) fun E W hb0 => by
 refine vQ ?_
 refine JO.alloc Z6C rfl fun b2 => ?_
 refine vP [0, 2] ?_
 refine Jm rfl ?_
 refine JO.callPK (Lr := [_]) (ZK T hc b ts hts) rfl (List.perm_append_comm (l₁ := [_]) (l₂ := [_])) qF qA (fun hbad => ?_) ?_
 · exact JX.pnI (by unfold colP; rw [hbad]; rfl)
 intro z1 hz1
 refine vD ?_
 refine Jq (ZB (cs := [_, _, _, _]) ZcS (.cons rfl .nil) rfl rfl) ?_
 refine JO.alloc Z6C rfl fun b3 => ?_
 refine JO.m (Z3 rfl rfl qU qC qO Z3k) (by rfl) ?_
 refine vP [0, 2, 3] ?_
 refine Jq (ZF (cs := [_, _, _]) Z1c qM qM (.cons rfl (.cons rfl (.cons rfl .nil))) rfl rfl rfl) ?_
 refine JO.openNew (s := 9) rfl (fun r9 => ?_)
 refine Jq (Zo ZX rfl) ?_
 refine Jm rfl ?_
 refine vS [0, 2, 3, 9, 10, 11] ?_
 apply yk
 repeat apply yQ
 refine J.loopG (α := Nat × Int × List T3) (fun x => [(0, .is (.pointer (some ⟨b, 0, none⟩))), (2, .is (.pointer (some ⟨b2, 0, none⟩))), (3, .is (.pointer (some ⟨b3, 0, none⟩))), (9, .is (.slice (some ⟨r9, 0, none⟩) 3 3)), (10, .is (.int .i64 3)), (11, .is (.int .i64 (x.1 : Int)))]) (fun x => [⟨b3, Z12, .is (.agg #[.string z1.1, .int .i64 x.2.1, .bool false, .bool false])⟩, PB T b x.2.2, ⟨b2, Z12, .is (.agg #[.string ⟨#[]⟩, .int .i64 0, .bool false, .bool false])⟩]) (fun x => fun _ => True) (fun x => x.1 ≤ 3 ∧ x.2.2 <:+ T.ts ∧ coI z1.2 x.1 x.2.1 x.2.2) (fun x => 3 - x.1) (0, 0, z1.2) [0, 2, 3, 9, 10, 11] (.cons rfl (.cons rfl (.cons rfl (.cons rfl (.cons rfl (.cons rfl .nil)))))) rfl (fun _ => trivial) ⟨Nat.zero_le _, (show z1.2 <:+ T.ts from (Zw _ _ hz1).1.trans hts), ⟨fun _ => ⟨rfl, rfl⟩, fun h => absurd rfl h⟩⟩ fun ⟨i, ty, us⟩ ⟨hi, hus, hI⟩ => ?_
 try dsimp only
 try dsimp only at hi
 try dsimp only at hus
 try dsimp only at hI
 refine vQ ?_
 refine Jq (ZW rfl rfl) ?_
 refine vS [0, 2, 3, 9, 10, 11, 12] ?_
 refine yC rfl (fun ht12 => ?_) (fun ht12 => ?_)
 try simp only [yd, yf] at ht12
 apply yK
 refine vN ?_
 apply yk
 refine vQ ?_
 refine Jm rfl (Jq (Z7 Z1B rfl rfl rfl qM qM) ?_)
 refine Jq (Z8l (cs := tyVs) (u := .string (tyO.getD i (em, 0)).1) Z9 rfl qI (Zls qM)) ?_
 refine Ja rfl (Ja rfl ?_)
 refine vS [0, 2, 3, 4, 5, 9, 10, 11] ?_
 by_cases hty0 : ty = 0
 refine vQ ?_
 refine Jq (Z0 Z2n rfl) ?_
 refine Jq (Z1 Zt rfl rfl) ?_
 refine Jq (Ob.bc (ZM rfl rfl) (cc := true) (by rw [hty0]; rfl)) ?_
 refine Jm rfl ?_
 refine JO.gd rfl rfl rfl ?_
 refine Jm rfl ?_
 refine JO.gd rfl rfl rfl ?_
 refine Jm rfl ?_
 refine JO.gd rfl rfl rfl ?_
 refine JO.callK (Lr := [_, _]) (Zi T hc b (us) ((show us <:+ T.ts from hus)) (tyO.getD i (em, 0)).1) rfl (.swap _ _ _) qF qA ?_
 intro _ _
 refine vD ?_
 refine Jq (Ze7 rfl rfl) ?_
 refine vS [0, 2, 3, 4, 9, 10, 11, 23] ?_
 refine yC rfl (fun ht23 => ?_) (fun ht23 => ?_)
 have hI0 : coI z1.2 i 0 us := hty0 ▸ hI
 rw [ZU ht23]
 refine vQ ?_
 refine Jm rfl (Jq (ZE (cc := ((i : Nat) : Int) + 1) rfl rfl rfl qM qM) ?_)
 refine Jq (Z0 Z2n rfl) ?_
 refine JO.m (Zj (cs' := [_, _, _, _]) rfl rfl qU rfl rfl rfl rfl Z3F) (by rfl) ?_
 refine vS [0, 2, 3, 9, 10, 11] ?_
 first|(have hnt5 : isT 1 (tyO.getD i (em, 0)).1 us = false := ht23; have hI0 : coI z1.2 i 0 us := hty0 ▸ hI; rw [ZZ hnt5]) | skip
 refine vQ ?_
 refine Jq (ZE (cc := ((i + 1 : Nat) : Int)) rfl rfl qM qM qM) ?_
 refine Jm rfl ?_
 apply yI
 repeat refine JX.normal_block ?_
 refine JX.roundG (x := (i, ty, us)) (i + 1, ((i : Nat) : Int) + 1, us.tail) ?_ ?_ [0, 2, 3, 9, 10, 11] ?_ ?_ ?_ ?_
 · exact ⟨by show i + 1 ≤ 3; omega, Zm hus, Zjf hI0 qM ht23⟩
 · exact (by show 3 - (i + 1) < 3 - i; omega)
 · exact qS
 · exact qH
 · exact qG
 · exact fun _ _ _ => fun _ _ => trivial
 apply yK
 repeat first|apply yX|apply yB
 first|(have hnt5 : isT 1 (tyO.getD i (em, 0)).1 us = false := ht23; have hI0 : coI z1.2 i 0 us := hty0 ▸ hI; rw [ZZ hnt5]) | skip
 refine vQ ?_
 refine Jq (ZE (cc := ((i + 1 : Nat) : Int)) rfl rfl qM qM qM) ?_
 refine Jm rfl ?_
 apply yI
 repeat refine JX.normal_block ?_
 refine JX.roundG (x := (i, ty, us)) (i + 1, ty, us) ?_ ?_ [0, 2, 3, 9, 10, 11] ?_ ?_ ?_ ?_
 · exact ⟨by show i + 1 ≤ 3; omega, hus, (by show coI z1.2 (i + 1) ty us; rw [hty0]; exact ZkA hI0 qM hnt5)⟩
 · exact (by show 3 - (i + 1) < 3 - i; omega)
 · exact qS
 · exact qH
 · exact qG
 · exact fun _ _ _ => fun _ _ => trivial
 refine vQ ?_
 refine Jq (Z0 Z2n rfl) ?_
 refine Jq (Z1 Zt rfl rfl) ?_
 refine Jq (Ob.bc (ZM rfl rfl) (cc := false) (by simpa using hty0)) ?_
 refine Jm rfl ?_
 refine JO.gn rfl rfl rfl rfl rfl ?_
 refine JO.gn rfl rfl rfl rfl rfl ?_
 refine JO.gn rfl rfl rfl rfl rfl ?_
 refine Jq (ZdO rfl rfl) ?_
 refine vS [0, 2, 3, 4, 9, 10, 11, 23] ?_
 refine yC rfl (fun ht23 => ?_) (fun ht23 => ?_)
 exfalso
 cases ht23
 try simp only [yd, yf] at ht23
 apply yK
 repeat first|apply yX|apply yB
 first|(have hnt5 : isT 1 (tyO.getD i (em, 0)).1 us = false := ht23; have hI0 : coI z1.2 i 0 us := hty0 ▸ hI; rw [ZZ hnt5]) | skip
 refine vQ ?_
 refine Jq (ZE (cc := ((i + 1 : Nat) : Int)) rfl rfl qM qM qM) ?_
 refine Jm rfl ?_
 apply yI
 repeat refine JX.normal_block ?_
 refine JX.roundG (x := (i, ty, us)) (i + 1, ty, us) ?_ ?_ [0, 2, 3, 9, 10, 11] ?_ ?_ ?_ ?_
 · exact ⟨by show i + 1 ≤ 3; omega, hus, Zki hI hty0⟩
 · exact (by show 3 - (i + 1) < 3 - i; omega)
 · exact qS
 · exact qH
 · exact qG
 · exact fun _ _ _ => fun _ _ => trivial
 try simp only [yd, yf] at ht12
 repeat apply yQ
 refine J.exit ?_
 repeat first|refine yH ?_|refine yM rfl ?_|refine yE ?_
 refine vN ?_
 apply yN
 refine Jm rfl (Jq (Z0 Z2n rfl) ?_)
 refine Jq (Z1 Zt rfl rfl) ?_
 refine Jq (Z2i rfl rfl) ?_
 refine JO.callPK (Lr := _) (Zb (.pointer (some ⟨b, 0, none⟩)) (decide (0 < ty))) rfl (Z1k _) Z19 qA (fun hbad => ?_) ?_
 · exact JX.pnI (by unfold colP; rw [hz1]; simp only [Option.bind_some]; rw [(Zf1 hI qM).1 (of_decide_eq_false hbad)]; rfl)
 intro _ hmo
 refine vD ?_
 have hty := (Zf1 hI qM).2 (of_decide_eq_true hmo)
 refine vP [0, 2, 3] ?_
 refine Jm rfl ?_
 refine JO.callK (Lr := [_, _]) (Zi T hc b (us) ((show us <:+ T.ts from hus)) ZY) rfl (.swap _ _ _) qF qA ?_
 intro _ _
 refine vD ?_
 refine vS [0, 2, 3, 34] ?_
 refine yC rfl (fun ht34 => ?_) (fun ht34 => ?_)
 have hnt : isT 1 ZY us = true := ht34
 rw [ZU hnt]
 refine vQ ?_
 refine Jm rfl ?_
 refine JO.callPK (Lr := [_, _]) (Zr T hc b (us.tail) (Zm hus) Z1D (by decide +kernel) (by decide +kernel) (asc (by decide +kernel))) rfl (.refl _) qF qA (fun hbad => ?_) ?_
 · exact JX.pnI (by unfold colP; rw [hz1]; simp only [Option.bind_some]; rw [hty]; simp only [Option.bind_some]; rw [if_pos hnt]; rw [hbad]; rfl)
 intro z2 hz2
 refine vD ?_
 refine vP [0, 2, 3] ?_
 refine Jq (Z0 Z4k rfl) ?_
 refine JO.m (Zj (cs' := [_, _, _, _]) rfl rfl qU rfl rfl rfl rfl Z4G) (by rfl) ?_
 refine vS [0, 2, 3] ?_
 first|(have hnt : isT 1 ZY us = false := ht34; rw [ZZ hnt]; have husx : us <:+ T.ts := hus)|(have husx : z2.2 <:+ T.ts := (Z8 _ _ _ _ hz2).1.trans (Zm hus))
 refine vQ ?_
 refine Jm rfl ?_
 refine JO.callK (Lr := [_, _]) (Zi T hc b _ husx Z3S) rfl (.refl _) qF qA ?_
 intro _ _
 refine vD ?_
 refine vS [0, 2, 3, 39] ?_
 refine yC rfl (fun ht39 => ?_) (fun ht39 => ?_)
 have hpr : isT 1 Z3S _ = true := ht39
 rw [ZU hpr]
 refine vQ ?_
 refine Jm rfl ?_
 refine JO.callPK (Lr := [_, _]) (Zr T hc b _ (Zm husx) Zfw (by decide +kernel) (by decide +kernel) (asc (by decide +kernel))) rfl (.refl _) qF qA (fun hbad => ?_) ?_
 · exact JX.pnI (by first|(unfold colP; rw [hz1]; simp only [Option.bind_some]; rw [hty]; simp only [Option.bind_some]; rw [if_pos hnt]; rw [hz2]; simp only [Option.bind_some]; unfold colEnd; rw [if_pos hpr, hbad]; rfl)|(unfold colP; rw [hz1]; simp only [Option.bind_some]; rw [hty]; simp only [Option.bind_some]; rw [if_neg (by rw [hnt]; decide)]; unfold colEnd; rw [if_pos hpr, hbad]; rfl))
 intro z3 hz3
 refine vD ?_
 refine vP [2, 3] ?_
 refine Jq (Z0 Z4k rfl) ?_
 refine JO.m (Zj (cs' := [_, _, _, _]) rfl rfl qU rfl rfl rfl rfl Z4G) (by rfl) ?_
 refine Jq (Z0 Z2P rfl) ?_
 refine JO.m (Zj (cs' := [_, _, _, _]) rfl rfl qU rfl rfl rfl rfl Z4G) (by rfl) ?_
 refine vP [2, 3] ?_
 refine Jq (ZI (cs := [_, _, _, _]) Z1w rfl rfl rfl) ?_
 refine JO.m (Z3 rfl rfl qU qC qO Z3k) (by rfl) ?_
 refine vS [2] ?_
 refine vR ?_
 refine JX.toP ?_
 exact JX.retLCs (Lr := [_, _]) (L1 := fun z : Pz.Col × List T3 => [PB T b z.2]) (R := fun z => .rep (coE.T z.1)) rfl (⟨z1.1, ty, true, true⟩, z3.2) (by unfold colP; rw [hz1]; simp only [Option.bind_some]; rw [hty]; simp only [Option.bind_some]; rw [if_pos hnt]; rw [hz2]; simp only [Option.bind_some]; unfold colEnd; rw [if_pos hpr, hz3]; rfl) (.refl _) rfl rfl hb0 rfl Z1w HasOwn.mem (Z1i rfl) Sub.coT
 apply yK
 repeat first|apply yX|apply yB
 have hpr : isT 1 Z3S _ = false := ht39
 rw [ZZ hpr]
 refine vQ ?_
 refine Jm rfl ?_
 refine JO.callK (Lr := [_, _]) (Zi T hc b _ husx Z20) rfl (.refl _) qF qA ?_
 intro _ _
 refine vD ?_
 refine Jq (Z0 Z2P rfl) ?_
 refine JO.m (Zj (cs' := [_, _, _, _]) rfl rfl qU rfl rfl rfl rfl Z4G) (by rfl) ?_
 refine vP [2, 3] ?_
 refine Jq (ZI (cs := [_, _, _, _]) Z1w rfl rfl rfl) ?_
 refine JO.m (Z3 rfl rfl qU qC qO Z3k) (by rfl) ?_
 refine vS [2] ?_
 refine vR ?_
 refine JX.toP ?_
 exact JX.retLCs (Lr := [_, _]) (L1 := fun z : Pz.Col × List T3 => [PB T b z.2]) (R := fun z => .rep (coE.T z.1)) rfl (⟨z1.1, ty, true, isT 1 Z20 z2.2⟩, skT 1 Z20 z2.2) (by unfold colP; rw [hz1]; simp only [Option.bind_some]; rw [hty]; simp only [Option.bind_some]; rw [if_pos hnt]; rw [hz2]; simp only [Option.bind_some]; unfold colEnd; rw [if_neg (by rw [hpr]; decide)]) (.refl _) rfl rfl hb0 rfl Z1w HasOwn.mem (Z1i rfl) Sub.coT
 apply yK
 repeat first|apply yX|apply yB
 first|(have hnt : isT 1 ZY us = false := ht34; rw [ZZ hnt]; have husx : us <:+ T.ts := hus)|(have husx : z2.2 <:+ T.ts := (Z8 _ _ _ _ hz2).1.trans (Zm hus))
 refine vQ ?_
 refine Jm rfl ?_
 refine JO.callK (Lr := [_, _]) (Zi T hc b _ husx Z3S) rfl (.refl _) qF qA ?_
 intro _ _
 refine vD ?_
 refine vS [0, 2, 3, 39] ?_
 refine yC rfl (fun ht39 => ?_) (fun ht39 => ?_)
 have hpr : isT 1 Z3S _ = true := ht39
 rw [ZU hpr]
 refine vQ ?_
 refine Jm rfl ?_
 refine JO.callPK (Lr := [_, _]) (Zr T hc b _ (Zm husx) Zfw (by decide +kernel) (by decide +kernel) (asc (by decide +kernel))) rfl (.refl _) qF qA (fun hbad => ?_) ?_
 · exact JX.pnI (by first|(unfold colP; rw [hz1]; simp only [Option.bind_some]; rw [hty]; simp only [Option.bind_some]; rw [if_pos hnt]; rw [hz2]; simp only [Option.bind_some]; unfold colEnd; rw [if_pos hpr, hbad]; rfl)|(unfold colP; rw [hz1]; simp only [Option.bind_some]; rw [hty]; simp only [Option.bind_some]; rw [if_neg (by rw [hnt]; decide)]; unfold colEnd; rw [if_pos hpr, hbad]; rfl))
 intro z3 hz3
 refine vD ?_
 refine vP [2, 3] ?_
 refine Jq (Z0 Z4k rfl) ?_
 refine JO.m (Zj (cs' := [_, _, _, _]) rfl rfl qU rfl rfl rfl rfl Z4G) (by rfl) ?_
 refine Jq (Z0 Z2P rfl) ?_
 refine JO.m (Zj (cs' := [_, _, _, _]) rfl rfl qU rfl rfl rfl rfl Z4G) (by rfl) ?_
 refine vP [2, 3] ?_
 refine Jq (ZI (cs := [_, _, _, _]) Z1w rfl rfl rfl) ?_
 refine JO.m (Z3 rfl rfl qU qC qO Z3k) (by rfl) ?_
 refine vS [2] ?_
 refine vR ?_
 refine JX.toP ?_
 exact JX.retLCs (Lr := [_, _]) (L1 := fun z : Pz.Col × List T3 => [PB T b z.2]) (R := fun z => .rep (coE.T z.1)) rfl (⟨z1.1, ty, true, true⟩, z3.2) (by unfold colP; rw [hz1]; simp only [Option.bind_some]; rw [hty]; simp only [Option.bind_some]; rw [if_neg (by rw [hnt]; decide)]; unfold colEnd; rw [if_pos hpr, hz3]; rfl) (.refl _) rfl rfl hb0 rfl Z1w HasOwn.mem (Z1i rfl) Sub.coT
 apply yK
 repeat first|apply yX|apply yB
 have hpr : isT 1 Z3S _ = false := ht39
 rw [ZZ hpr]
 refine vQ ?_
 refine Jm rfl ?_
 refine JO.callK (Lr := [_, _]) (Zi T hc b _ husx Z20) rfl (.refl _) qF qA ?_
 intro _ _
 refine vD ?_
 refine Jq (Z0 Z2P rfl) ?_
 refine JO.m (Zj (cs' := [_, _, _, _]) rfl rfl qU rfl rfl rfl rfl Z4G) (by rfl) ?_
 refine vP [2, 3] ?_
 refine Jq (ZI (cs := [_, _, _, _]) Z1w rfl rfl rfl) ?_
 refine JO.m (Z3 rfl rfl qU qC qO Z3k) (by rfl) ?_
 refine vS [2] ?_
 refine vR ?_
 refine JX.toP ?_
 exact JX.retLCs (Lr := [_, _]) (L1 := fun z : Pz.Col × List T3 => [PB T b z.2]) (R := fun z => .rep (coE.T z.1)) rfl (⟨z1.1, ty, false, isT 1 Z20 us⟩, skT 1 Z20 us) (by unfold colP; rw [hz1]; simp only [Option.bind_some]; rw [hty]; simp only [Option.bind_some]; rw [if_neg (by rw [hnt]; decide)]; unfold colEnd; rw [if_neg (by rw [hpr]; decide)]) (.refl _) rfl rfl hb0 rfl Z1w HasOwn.mem (Z1i rfl) Sub.coT
attribute [local irreducible] SlE ExsR
def PlF (k : Int) (v : Value) (w : World) : Prop := ∃ bx, v = .func (.func Z1C) #[] #[.pointer (some ⟨bx, 0, none⟩)] ∧ HeapIs bx [.int .i64 k] Z4Z w
theorem Sub.plF {L : List Own} {Φ : List (World → Prop)} {k : Int} {bx : Nat} (hF : HeapIs bx [.int .i64 k] Z4Z ∈ Φ) : Sub L Φ (.is (.func (.func Z1C) #[] #[.pointer (some ⟨bx, 0, none⟩)])) (.rep (PlF k)) := fun X v w hf e => by
 rw [show v = _ from e]
 exact fun w' hk => ⟨bx, rfl, hf.2 _ hF w' hk⟩
theorem Z8C (N : Nat) (T : Tk) (hc : T.ts.length ≤ T.cap) (h9 : T.ts.length ≤ 2049) (b : Nat) (ts : List T3) (hts : ts <:+ T.ts) (e : Ps Ex) (hex : ∀ us, us <:+ T.ts → us.length ≤ ts.length → CallP Tryz.prog ZH [PB T b (us)] [T.G, AF] [.is (.pointer (some ⟨b, 0, none⟩))] (e (us) = none) flt (fun z : Ex × List T3 => e (us) = some z) (fun z => [PB T b z.2]) (fun z => .rep (ExR z.1))) : CallP Tryz.prog Z5i [PB T b ts] [T.G, AF, NH N] [.is (.pointer (some ⟨b, 0, none⟩))] (itemP e ts = none) flt (fun z : Pz.Itm × List T3 => itemP e ts = some z) (fun z => [PB T b z.2]) (fun z => .rep (itE.T z.1)) :=
CallP.of (fn := Tryz.f115) Tryz.func115 (n := 9) rfl rfl rfl (fun _ _ => by kernel_rfl) fun E W hb0 => by
 refine vQ ?_
 refine JO.alloc Z7P rfl fun b2 => ?_
 refine vP [0, 2] ?_
 refine Jm rfl ?_
 refine JO.callK (Lr := [_]) (Ze T hc b (ts) (hts) Z14) rfl (List.perm_append_comm (l₁ := [_]) (l₂ := [_])) qF qA ?_
 intro _ _
 refine vD ?_
 refine vS [0, 2, 4] ?_
 refine yC rfl (fun ht4 => ?_) (fun ht4 => ?_)
 have hs : isT 5 Z14 ts = true := ht4
 rw [ZU hs]
 refine vQ ?_
 refine Jq (ZB (cs := [_, _, _, _, _, _, _, _, _]) ZaO (.cons rfl .nil) rfl rfl) ?_
 refine JO.m (Z3 rfl rfl qU qC qO Z6j) (by rfl) ?_
 refine vS [2] ?_
 refine vR ?_
 refine JX.toP ?_
 exact JX.retLCs (Lr := [_]) (L1 := fun z : Pz.Itm × List T3 => [PB T b z.2]) (R := fun z => .rep (itE.T z.1)) rfl (⟨true, ex0⟩, ts.tail) (by unfold itemP; rw [if_pos hs]) (.refl _) rfl rfl hb0 rfl Z4U HasOwn.mem (Z1i rfl) Sub.itAll
 apply yK
 repeat first|apply yX|apply yB
 have hs : isT 5 Z14 ts = false := ht4
 rw [ZZ hs]
 refine vQ ?_
 refine Jm rfl ?_
 refine JO.callPK (Lr := [_]) (hex ts hts (Nat.le_refl _)) rfl (.refl _) qF qA (fun hbad => ?_) ?_
 · exact JX.pnI (by unfold itemP; rw [if_neg (by rw [hs]; decide), hbad]; rfl)
 intro z hz
 refine vD ?_
 refine JO.openA (s := 7) rfl (fun a7 l7 q7 b7_ o7_ _ _ => ?_)
 refine Jq (ZB (cs := [_, _, _, _, _, _, _, _, _]) ZaO (.cons rfl .nil) rfl rfl) ?_
 refine JO.m (Z3 rfl rfl qU qC qO Z6j) (by rfl) ?_
 refine vS [2] ?_
 refine vR ?_
 refine JX.toP ?_
 exact JX.retLCs (Lr := [_]) (L1 := fun z : Pz.Itm × List T3 => [PB T b z.2]) (R := fun z => .rep (itE.T z.1)) rfl (⟨false, z.1⟩, z.2) (by unfold itemP; rw [if_neg (by rw [hs]; decide), hz]; rfl) (.refl _) rfl rfl hb0 rfl Z4U HasOwn.mem (Z1i rfl) (Sub.itEx qI rfl)
theorem Z5C (N : Nat) (T : Tk) (hc : T.ts.length ≤ T.cap) (h9 : T.ts.length ≤ 2049) (b : Nat) (ts : List T3) (hts : ts <:+ T.ts) (e : Ps Ex) (exprDn : ∀ {us : List T3} {z : Ex × List T3}, e us = some z → z.2 <:+ us) (hex : ∀ us, us <:+ T.ts → us.length ≤ ts.length → CallP Tryz.prog ZH [PB T b (us)] [T.G, AF] [.is (.pointer (some ⟨b, 0, none⟩))] (e (us) = none) flt (fun z : Ex × List T3 => e (us) = some z) (fun z => [PB T b z.2]) (fun z => .rep (ExR z.1))) : CallP Tryz.prog Z3W [PB T b ts] [T.G, AF, NH N] [.is (.pointer (some ⟨b, 0, none⟩))] (keyP e ts = none) flt (fun z : Pz.Ky × List T3 => keyP e ts = some z) (fun z => [PB T b z.2]) (fun z => .rep (kyE.T z.1)) :=
CallP.of (fn := Tryz.f120) Tryz.func120 (n := 14) rfl rfl rfl (fun _ _ => by kernel_rfl) fun E W hb0 => by
 refine vQ ?_
 refine JO.alloc Z6O rfl fun b2 => ?_
 refine vP [0, 2] ?_
 refine Jm rfl ?_
 refine JO.callPK (Lr := [_]) (hex ts hts (Nat.le_refl _)) rfl (List.perm_append_comm (l₁ := [_]) (l₂ := [_])) qF qA (fun hbad => ?_) ?_
 · exact JX.pnI (by unfold keyP; rw [hbad]; rfl)
 intro z hz
 refine vD ?_
 refine JO.openA (s := 5) rfl (fun a5 l5 q5 b5_ o5_ _ _ => ?_)
 refine Jq (ZB (cs := [_, _, _, _, _, _, _, _, _]) Zg1 (.cons rfl .nil) rfl rfl) ?_
 refine JO.alloc Z6O rfl fun b3 => ?_
 refine JO.m (Z3 rfl rfl qU qC qO Z5B) (by rfl) ?_
 refine vP [0, 2, 3] ?_
 refine Jm rfl ?_
 refine JO.callK (Lr := [_, _]) (Zi T hc b (z.2) (((exprDn hz).trans hts)) Z7C) rfl (.swap _ _ _) qF qA ?_
 intro _ _
 refine vD ?_
 refine Jq (Z6p rfl) ?_
 refine vS [0, 2, 3, 9] ?_
 refine yC rfl (fun ht9 => ?_) (fun ht9 => ?_)
 have ha : isT 1 Z7C z.2 = false := by simpa using ht9
 rw [ZZ ha]
 refine vQ ?_
 refine Jm rfl ?_
 refine JO.callK (Lr := [_, _]) (Zi T hc b (z.2) (((exprDn hz).trans hts)) Z4C) rfl (.refl _) qF qA ?_
 intro _ _
 refine vD ?_
 refine Jq (Z0 Z5L rfl) ?_
 refine JO.m (Zj (cs' := [_, _, _, _, _, _, _, _, _]) rfl rfl qU rfl rfl rfl rfl Z4G) (by rfl) ?_
 refine vS [2, 3] ?_
 first|(have ha : isT 1 Z7C z.2 = true := (by simpa using ht9); rw [ZU ha]) | skip
 refine vQ ?_
 refine Jq (ZI (cs := [_, _, _, _, _, _, _, _, _]) Z3U rfl rfl rfl) ?_
 refine JO.m (Z3 rfl rfl qU qC qO Z5B) (by rfl) ?_
 refine vS [2] ?_
 refine vR ?_
 refine JX.toP ?_
 exact JX.retLCs (Lr := [_, _]) (L1 := fun z : Pz.Ky × List T3 => [PB T b z.2]) (R := fun z => .rep (kyE.T z.1)) rfl (⟨z.1, isT 1 Z4C z.2⟩, skT 1 Z4C z.2) (by unfold keyP; rw [hz, Option.map_some, if_neg (by rw [ha]; decide)]) (.refl _) rfl rfl hb0 rfl Z3U HasOwn.mem (Z1i rfl) (Sub.kyEx qI rfl)
 apply yK
 repeat first|apply yX|apply yB
 first|(have ha : isT 1 Z7C z.2 = true := (by simpa using ht9); rw [ZU ha]) | skip
 refine vQ ?_
 refine Jq (ZI (cs := [_, _, _, _, _, _, _, _, _]) Z3U rfl rfl rfl) ?_
 refine JO.m (Z3 rfl rfl qU qC qO Z5B) (by rfl) ?_
 refine vS [2] ?_
 refine vR ?_
 refine JX.toP ?_
 exact JX.retLCs (Lr := [_, _]) (L1 := fun z : Pz.Ky × List T3 => [PB T b z.2]) (R := fun z => .rep (kyE.T z.1)) rfl (⟨z.1, false⟩, z.2.tail) (by unfold keyP; rw [hz, Option.map_some, if_pos ha]) (.refl _) rfl rfl hb0 rfl Z3U HasOwn.mem (Z1i rfl) (Sub.kyEx qI rfl)
theorem Z3b (N : Nat) (T : Tk) (hc : T.ts.length ≤ T.cap) (h9 : T.ts.length ≤ 2049) (b : Nat) (ts : List T3) (hts : ts <:+ T.ts) (e : Ps Ex) (hex : ∀ us, us <:+ T.ts → us.length ≤ ts.length → CallP Tryz.prog ZH [PB T b (us)] [T.G, AF] [.is (.pointer (some ⟨b, 0, none⟩))] (e (us) = none) flt (fun z : Ex × List T3 => e (us) = some z) (fun z => [PB T b z.2]) (fun z => .rep (ExR z.1))) : CallP Tryz.prog Z7U [PB T b ts] [T.G, AF, NH N] [.is (.pointer (some ⟨b, 0, none⟩))] (whereP e ts = none) flt (fun z : List Ex × List T3 => whereP e ts = some z) (fun z => [PB T b z.2]) (fun z => .rep (SlE exE (FX N) z.1)) :=
CallP.ofN (N := N) (List.mem_cons_of_mem _ (List.mem_cons_of_mem _ List.mem_cons_self)) (fn := Tryz.f117) Tryz.func117 (n := 9) rfl rfl rfl (fun _ _ => by kernel_rfl) fun E W hNW hb0 => by
 refine vQ ?_
 refine Ja rfl ?_
 refine vP [0] ?_
 refine Jm rfl ?_
 refine JO.callK (Lr := []) (Zi T hc b (ts) (hts) Z3E) rfl (.refl _) qF qA ?_
 intro _ _
 refine vD ?_
 refine Jq (Z6p rfl) ?_
 refine vS [0, 5] ?_
 refine yC rfl (fun ht5 => ?_) (fun ht5 => ?_)
 have hw : isT 1 Z3E ts = false := by simpa using ht5
 rw [ZZ hw]
 refine vQ ?_
 refine Ja rfl ?_
 refine vS [2] ?_
 refine vR ?_
 refine JX.toP ?_
 exact JX.retL1 (Lr := []) (L1 := fun z : List Ex × List T3 => [PB T b z.2]) (R := fun z => .rep (SlE exE (FX N) z.1)) rfl ([], ts) (by unfold whereP; rw [if_neg (by rw [hw]; decide)]) (.refl _) rfl rfl hb0 rfl (Sub.slENil fun _ => FrS.nil _)
 apply yK
 repeat first|apply yX|apply yB
 have hw : isT 1 Z3E ts = true := by simpa using ht5
 rw [ZU hw]
 refine vQ ?_
 refine Jm rfl ?_
 refine JO.callPK (Lr := []) (hex ts.tail (Zm hts) (by have := (Zz hw).2; omega)) rfl (.refl _) qF qA (fun hbad => ?_) ?_
 · exact JX.pnI (by unfold whereP; rw [if_pos hw, hbad]; rfl)
 intro z hz
 refine vD ?_
 rw [Zar]
 refine JO.openT (s := 7) rfl (fun p1 hp1 => ?_)
 refine JO.buildE Z58 ZT rfl qD rfl rfl (fun b8 => ?_)
 refine Ja rfl ?_
 refine vS [2] ?_
 refine J.freezeOMW (e := Z6) (sz := 8) hNW Cel.hlen (growE p1) .here (fun q hq => by simp only [List.map_cons, List.map_nil, List.mem_singleton] at hq; exact ⟨_, List.mem_cons_self, hq.symm⟩) rfl rfl ?_
 refine J.fact (CelF exE [p1]) (fun X w hf _ => fun w' hk p hp => by rw [List.mem_singleton.1 hp]; exact hf _ qI w' hk) ?_
 refine vR ?_
 refine JX.toP ?_
 exact JX.retL1 (Lr := []) (L1 := fun z : List Ex × List T3 => [PB T b z.2]) (R := fun z => .rep (SlE exE (FX N) z.1)) rfl ([p1].map Cel.x, z.2) (by unfold whereP; rw [if_pos hw, hz, List.map_singleton, hp1]; rfl) (.refl _) rfl rfl hb0 rfl (Sub.slEO (growE p1) qI qI qI)
theorem Z7s (N : Nat) (T : Tk) (hc : T.ts.length ≤ T.cap) (h9 : T.ts.length ≤ 2049) (b : Nat) (ts : List T3) (hts : ts <:+ T.ts) (e : Ps Ex) (hex : ∀ us, us <:+ T.ts → us.length ≤ ts.length → CallP Tryz.prog ZH [PB T b (us)] [T.G, AF] [.is (.pointer (some ⟨b, 0, none⟩))] (e (us) = none) flt (fun z : Ex × List T3 => e (us) = some z) (fun z => [PB T b z.2]) (fun z => .rep (ExR z.1))) : CallP Tryz.prog Z3e [PB T b ts] [T.G, AF, NH N] [.is (.pointer (some ⟨b, 0, none⟩))] (removeP e ts = none) flt (fun z : Pz.St × List T3 => removeP e ts = some z) (fun z => [PB T b z.2]) (fun z => .rep (StR N z.1)) :=
CallP.of (fn := Tryz.f62) Tryz.func62 (n := 10) rfl rfl rfl (fun _ _ => by kernel_rfl) fun E W hb0 => by
 refine vQ ?_
 refine JO.alloc Z1o rfl fun b2 => ?_
 refine vP [0, 2] ?_
 refine Jm rfl ?_
 refine JO.callPK (Lr := [_]) (Zr T hc b (ts) (hts) Z4z (by decide +kernel) (by decide +kernel) (asc (by decide +kernel))) rfl (List.perm_append_comm (l₁ := [_]) (l₂ := [_])) qF qA (fun hbad => ?_) ?_
 · exact JX.pnI (by unfold removeP; rw [hbad]; rfl)
 intro z0 hz0
 have h0 : Lt z0.2 ts := Z8 _ _ _ _ hz0
 refine vD ?_
 refine vP [0, 2] ?_
 refine Jm rfl ?_
 refine JO.callPK (Lr := [_]) (ZK T hc b z0.2 (h0.1.trans hts)) rfl (.refl _) qF qA (fun hbad => ?_) ?_
 · exact JX.pnI (by unfold removeP; rw [hz0, Option.bind_some, hbad]; rfl)
 intro z1 hz1
 have h1 : Lt z1.2 ts := Lt.trans (Zw _ _ hz1) h0.1
 refine vD ?_
 refine Jm rfl ?_
 refine JO.callPK (Lr := [_]) (Z3b N T hc h9 b z1.2 (h1.1.trans hts) e (fun us hus hu => hex us hus (by have := h1.2; omega))) rfl (.refl _) qF qA (fun hbad => ?_) ?_
 · exact JX.pnI (by unfold removeP; rw [hz0, Option.bind_some, hz1, Option.bind_some, hbad]; rfl)
 intro z2 hz2
 refine vD ?_
 refine JO.openEv (s := 8) rfl (fun aw lw cw _ _ => ?_)
 refine Jq (ZB (cs := [_, _, _, _, _, _, _, _, _, _, _, _, _, _]) Z2D (.cons rfl (.cons rfl (.cons rfl (.cons rfl .nil)))) rfl rfl) ?_
 refine JO.m (Z3 rfl rfl qU qC qO Zu) (by rfl) ?_
 refine vS [2] ?_
 refine vR ?_
 refine JX.toP ?_
 exact JX.retLCs (Lr := [_]) (L1 := fun z : Pz.St × List T3 => [PB T b z.2]) (R := fun z => .rep (StR N z.1)) rfl ({ stK 6 with tb := z1.1, where_ := z2.1 }, z2.2) (by unfold removeP; rw [hz0, Option.bind_some, hz1, Option.bind_some, hz2]; rfl) (.refl _) rfl rfl hb0 rfl Zc HasOwn.mem (Z1i rfl) (Sub.st rfl fun X w hf w' hk => ⟨Zf (FrS.nil _), Zf (FrS.nil _), Zf trivial, Zf trivial, Zf trivial, hf _ qI w' hk, Z1b, Zf trivial, Z1b⟩)
theorem Z5H (N : Nat) (T : Tk) (hc : T.ts.length ≤ T.cap) (h9 : T.ts.length ≤ 2049) (b : Nat) (ts : List T3) (hts : ts <:+ T.ts) (bx : Nat) (k : Int) : CallP Tryz.prog Z1C [PB T b ts] [T.G, AF, NH N, HeapIs bx [.int .i64 k] Z4Z] ([.is (.pointer (some ⟨b, 0, none⟩))] ++ [Value.pointer (some ⟨bx, 0, none⟩)].map Ty.is) False flt (fun z : Pz.St × List T3 => z = (stK k, ts)) (fun z => [PB T b z.2]) (fun z => .rep (StR N z.1)) :=
CallP.of (fn := Tryz.f123) Tryz.func123 (n := 6) rfl rfl rfl (fun _ _ => by kernel_rfl) fun E W hb0 => by
 refine vQ ?_
 refine JO.alloc Z1o rfl fun b3 => ?_
 refine vP [1, 3] ?_
 refine Jq (Z8l (cs := [Value.int .i64 k]) (u := .int .i64 k) Zt rfl qI rfl) ?_
 refine Jq (ZB (cs := [_, _, _, _, _, _, _, _, _, _, _, _, _, _]) Z2D (.cons rfl (.cons rfl .nil)) rfl rfl) ?_
 refine JO.m (Z3 rfl rfl qU qC qO Zu) (by rfl) ?_
 refine vS [3] ?_
 refine vR ?_
 refine JX.toP ?_
 exact JX.retLCs (Lr := [_]) (L1 := fun z : Pz.St × List T3 => [PB T b z.2]) (R := fun z => .rep (StR N z.1)) rfl (stK k, ts) (by rfl) (List.perm_append_comm (l₁ := [_]) (l₂ := [_])) rfl rfl hb0 rfl Zc HasOwn.mem (Z1i rfl) (Sub.st rfl fun X w hf w' hk => ⟨Zf (FrS.nil _), Zf (FrS.nil _), Zf trivial, Zf trivial, Zf trivial, Zf (FrS.nil _), Z1b, Zf trivial, Z1b⟩)
theorem Z6D (k : Int) : CallTy Tryz.prog ZcT [.is (.int .i64 k)] (.rep (PlF k)) :=
 CallTy.of (fn := Tryz.f63) Tryz.func63 (n := 4) rfl rfl rfl (fun _ _ => by kernel_rfl) fun E W => by
 refine vQ ?_
 refine JO.box rfl rfl fun b1 => ?_
 refine Ja rfl ?_
 refine vP [1] ?_
 refine Jq (Z3w .nil (.cons rfl .nil)) ?_
 refine Ja rfl ?_
 refine vS [2] ?_
 refine J.freeze1 rfl (fun _ h => h) rfl rfl ?_
 refine vR ?_
 exact JX.ret1sub rfl rfl rfl (Sub.plF List.mem_cons_self)
end Go.Proofs.YtbedigkncjbggaaGreatDoor
set_option maxRecDepth 20000
namespace Go.Proofs.YtbedigkncjbggaaGreatDoor
open Go Go.Vc
open Go.Pz
def pcE : Enc (ByteArray × Cel exE) where
 sz := 1
 R x cs w := cs = [.string x.1] ∧ CelR x.2 w
 v := hdv
 pos := by decide
 len := by rintro x cs w ⟨rfl, _⟩; rfl
 one := by rintro x cs w ⟨rfl, _⟩ u hu; rw [List.mem_singleton.1 hu]; rfl
 nu := by rintro x cs w ⟨rfl, _⟩; exact ⟨_, rfl, by simp [undef]⟩
 inj := Zcf
theorem ZhI : pcE.flat := fun p => ZaU p.h p.o
abbrev pcX (z : ByteArray × Cel exE) : ByteArray × Ex := (z.1, z.2.x)
theorem ZhS {G : GoS} {xs : List (ByteArray × Cel exE)} {v : Value} {w : World} (h : SlE pcE G xs v w) : SlE stE G ((xs.map pcX).map (·.1)) v w := by
 obtain ⟨ps, a, len, cap, hm, hv, hlc, hR, hF, hG⟩ := h
 let f : Cel pcE → Cel stE := fun p => ⟨p.x.1, p.cs, p.h, p.o⟩
 refine ⟨ps.map f, a, len, cap, ?_, hv, hlc, ⟨by rw [List.length_map]; exact hR.1, fun hn => ?_⟩, fun q hq => ?_, hG⟩
 · rw [← hm, List.map_map, List.map_map, List.map_map]; rfl
 · obtain ⟨b, o, ha, hr⟩ := hR.2 hn
   refine ⟨b, o, ha, fun i q hq => ?_⟩
   rw [List.getElem?_map] at hq
   obtain ⟨p, hp, rfl⟩ := Option.map_eq_some_iff.1 hq
   exact hr i p hp
 · obtain ⟨p, hp, rfl⟩ := List.mem_map.1 hq
   exact (hF p hp).1
theorem Zjm {G : GoS} {xs : List (ByteArray × Cel exE)} {v : Value} {w : World} (h : SlE pcE G xs v w) : CelF exE (xs.map (·.2)) w := by
 obtain ⟨ps, a, len, cap, hm, hv, hlc, hR, hF, hG⟩ := h
 intro p hp
 rw [← hm] at hp
 obtain ⟨x, hx, rfl⟩ := List.mem_map.1 hp
 obtain ⟨q, hq, rfl⟩ := List.mem_map.1 hx
 exact (hF q hq).2
theorem Sub.pcT {L : List Own} {Φ : List (World → Prop)} {n : ByteArray} {p : Cel exE} (hF : CelR p ∈ Φ) : Sub L Φ (.is (.string n)) (.rep (pcE.T (n, p))) := fun X v w hf e => by
 rw [show v = _ from e]
 exact fun w' hk => ⟨[.string n], rfl, rfl, hf.2 _ hF w' hk⟩
def p0E : Cel exE := ⟨ex0, exCells 0 0 0 em em em 0 none 0 0, rfl, by
 intro u hu
 simp only [exCells, List.mem_cons, List.mem_nil_iff, or_false] at hu
 rcases hu with rfl|rfl|rfl|rfl|rfl|rfl|rfl|rfl <;> rfl⟩
abbrev UpS := List (Cel exE) × Option (Nat × List Value) × Nat
abbrev upX (nm : ByteArray) (b3 : Nat) (s : UpS) : List Own := ⟨b3, ZD, .is (.agg #[.int .i64 5, .string nm, .string ⟨#[]⟩, .slice none 0 0, .slice none 0 0, .slice none 0 0, .slice none 0 0, .slice none 0 0, .slice none 0 0, .slice none 0 0, .slice none 0 0, .int .i64 (-1), sliceO s.2.1 s.1.length s.2.2, .bool false])⟩ :: ownO s.2.1 Z6 []
def upI (s : UpS) (l : List (ByteArray × Cel exE)) : Prop := s.1 = l.map (·.2) ∧ Grows Cel.cs 8 s.1 s.2.1 s.2.2
structure UpM where
 z : Option ((Ex × List T3) × Cel exE)
 ap : Option (Nat × List Value × Nat)
 e8 : Bool
 e10 : Bool
abbrev UpM.p (s : UpM) : Cel exE := match s.z with | none => p0E | some z => z.2
def UpM.cur (ps : List (Cel exE)) (st : Option (Nat × List Value)) (s : UpM) : Option (Nat × List Value) := match s.ap with | none => st | some a => some (a.1, if s.e8 = true then splice a.2.1 (ps.length * 8) s.p.cs else a.2.1)
abbrev apV (ps : List (Cel exE)) : Option (Nat × List Value × Nat) → Value
 | none => .slice none 0 0
 | some a => .slice (some ⟨a.1, 0, none⟩) (ps.length + 1) a.2.2
def UpM.fld (ps : List (Cel exE)) (st : Option (Nat × List Value)) (cap : Nat) (s : UpM) : Value := if s.e10 = true then apV ps s.ap else sliceO st ps.length cap
abbrev upB (nm : ByteArray) (b3 : Nat) (v : Value) : Own := ⟨b3, ZD, .is (.agg #[.int .i64 5, .string nm, .string ⟨#[]⟩, .slice none 0 0, .slice none 0 0, .slice none 0 0, .slice none 0 0, .slice none 0 0, .slice none 0 0, .slice none 0 0, .slice none 0 0, .int .i64 (-1), v, .bool false])⟩
def usO (us : List T3) : Option ((Ex × List T3) × Cel exE) → List T3
 | none => us
 | some z => z.1.2
def UpM.L (T : Tk) (b : Nat) (us : List T3) (nm : ByteArray) (b3 : Nat) (ps : List (Cel exE)) (st : Option (Nat × List Value)) (cap : Nat) (s : UpM) : List Own := PB T b (usO us s.z) :: upB nm b3 (s.fld ps st cap) :: ownO (s.cur ps st) Z6 []
def UpM.T (b b3 : Nat) (ps : List (Cel exE)) (st : Option (Nat × List Value)) (cap : Nat) (s : UpM) : Nat → Ty
 | 0 => .is (.pointer (some ⟨b3, 12, none⟩))
 | 1 => .is (sliceO st ps.length cap)
 | 2 => .is (.pointer (some ⟨b, 0, none⟩))
 | 3 => TC s.p
 | 4 => .is (.int .i64 (ps.length : Nat))
 | 5 => .newSl (.cells p0E.cs.toArray 42 (0, 0)) 1 1
 | 6 => .is (apV ps s.ap)
 | 7 => match s.ap with | none => .any | some a => .is (.pointer (some ⟨a.1, 0 + ((ps.length : Nat) : Int).toNat * 8, none⟩))
 | 9 => .is (.pointer (some ⟨b3, 12, none⟩))
 | _ => .any
structure UpM.inv (e : Ps Ex) (us : List T3) (ps : List (Cel exE)) (s : UpM) (D : Array Bool) : Prop where
 z : D.getD 3 false = s.z.isSome
 r : ∀ z, s.z = some z → e us = some z.1 ∧ z.2.x = z.1.1
 a : D.getD 6 false = s.ap.isSome
 g : ∀ a, s.ap = some a → Grows Cel.cs 8 (ps ++ [p0E]) (some (a.1, a.2.1)) a.2.2
 e8 : D.getD 8 false = s.e8
 e10 : D.getD 10 false = s.e10
 c6 : D.getD 6 false = true → ∀ j, j < 6 → D.getD j false = true
 c7 : D.getD 7 false = true → D.getD 6 false = true
 c8 : D.getD 8 false = true → D.getD 6 false = true
 c10 : D.getD 10 false = true → D.getD 6 false = true
theorem UpM.inv.quiet {e : Ps Ex} {us : List T3} {ps : List (Cel exE)} {s : UpM} {D : Array Bool} (h : s.inv e us ps D) {i : Nat} (hs : i < D.size) (hi : i ≠ 3 ∧ i ≠ 6 ∧ i ≠ 8 ∧ i ≠ 10) (h7 : i = 7 → D.getD 6 false = true) : s.inv e us ps (D.setIfInBounds i true) := by
 obtain ⟨h3, h6, h8, h10⟩ := hi
 refine ⟨by rw [ZN hs (Ne.symm h3)]; exact h.z, h.r, by rw [ZN hs (Ne.symm h6)]; exact h.a, h.g, by rw [ZN hs (Ne.symm h8)]; exact h.e8, by rw [ZN hs (Ne.symm h10)]; exact h.e10, fun h1 j hj => (Z1g hs).2 (.inr (h.c6 (by rw [← ZN hs (Ne.symm h6)]; exact h1) j hj)), fun h1 => ?_, fun h1 => ?_, fun h1 => ?_⟩
 · rw [ZN hs (Ne.symm h6)]
   by_cases e7 : i = 7
   · exact h7 e7
   · exact h.c7 (by rw [← ZN hs (Ne.symm e7)]; exact h1)
 · rw [ZN hs (Ne.symm h6)]
   exact h.c8 (by rw [← ZN hs (Ne.symm h8)]; exact h1)
 · rw [ZN hs (Ne.symm h6)]
   exact h.c10 (by rw [← ZN hs (Ne.symm h10)]; exact h1)
theorem Z7N {D : Array Bool} {i j : Nat} (h : D.getD i false = true → D.getD j false = true) (hj : D.getD j false = false) : D.getD i false = false := by
 cases hq : D.getD i false with
 | false => rfl
 | true => rw [h hq] at hj; cases hj
theorem UpM.inv.call {e : Ps Ex} {us : List T3} {ps : List (Cel exE)} {s : UpM} {D : Array Bool} (h : s.inv e us ps D) (hs : 3 < D.size) {z : (Ex × List T3) × Cel exE} (hz : e us = some z.1) (hx : z.2.x = z.1.1) : UpM.inv e us ps { s with z := some z } (D.setIfInBounds 3 true) :=
 ⟨by rw [(Z1g hs).2 (.inl rfl)]; rfl, fun y hy => by injection hy with hy; subst hy; exact ⟨hz, hx⟩, by rw [ZN hs qD]; exact h.a, h.g, by rw [ZN hs qD]; exact h.e8, by rw [ZN hs qD]; exact h.e10,
  fun h1 j hj => (Z1g hs).2 (.inr (h.c6 (by rw [← ZN hs qD]; exact h1) j hj)), fun h1 => by rw [ZN hs qD] at h1 ⊢; exact h.c7 h1, fun h1 => by rw [ZN hs qD] at h1 ⊢; exact h.c8 h1, fun h1 => by rw [ZN hs qD] at h1 ⊢; exact h.c10 h1⟩
theorem UpM.inv.app {e : Ps Ex} {us : List T3} {ps : List (Cel exE)} {s : UpM} {D : Array Bool} (h : s.inv e us ps D) (hs : 6 < D.size) (hall : ∀ j, j < 6 → D.getD j false = true) {a : Nat × List Value × Nat} (hG : Grows Cel.cs 8 (ps ++ [p0E]) (some (a.1, a.2.1)) a.2.2) : UpM.inv e us ps { s with ap := some a } (D.setIfInBounds 6 true) :=
 ⟨by rw [ZN hs qD]; exact h.z, h.r, by rw [(Z1g hs).2 (.inl rfl)]; rfl, fun y hy => by injection hy with hy; subst hy; exact hG, by rw [ZN hs qD]; exact h.e8, by rw [ZN hs qD]; exact h.e10,
  fun _ j hj => (Z1g hs).2 (.inr (hall j hj)), fun _ => (Z1g hs).2 (.inl rfl), fun _ => (Z1g hs).2 (.inl rfl), fun _ => (Z1g hs).2 (.inl rfl)⟩
theorem UpM.inv.st8 {e : Ps Ex} {us : List T3} {ps : List (Cel exE)} {s : UpM} {D : Array Bool} (h : s.inv e us ps D) (hs : 8 < D.size) (h6 : D.getD 6 false = true) : UpM.inv e us ps { s with e8 := true } (D.setIfInBounds 8 true) :=
 ⟨by rw [ZN hs qD]; exact h.z, h.r, by rw [ZN hs qD]; exact h.a, h.g, (Z1g hs).2 (.inl rfl), by rw [ZN hs qD]; exact h.e10,
  fun h1 j hj => (Z1g hs).2 (.inr (h.c6 (by rw [← ZN hs qD]; exact h1) j hj)), fun h1 => by rw [ZN hs qD] at h1 ⊢; exact h.c7 h1, fun _ => by rw [ZN hs qD]; exact h6, fun h1 => by rw [ZN hs qD] at h1 ⊢; exact h.c10 h1⟩
theorem UpM.inv.st10 {e : Ps Ex} {us : List T3} {ps : List (Cel exE)} {s : UpM} {D : Array Bool} (h : s.inv e us ps D) (hs : 10 < D.size) (h6 : D.getD 6 false = true) : UpM.inv e us ps { s with e10 := true } (D.setIfInBounds 10 true) :=
 ⟨by rw [ZN hs qD]; exact h.z, h.r, by rw [ZN hs qD]; exact h.a, h.g, by rw [ZN hs qD]; exact h.e8, (Z1g hs).2 (.inl rfl),
  fun h1 j hj => (Z1g hs).2 (.inr (h.c6 (by rw [← ZN hs qD]; exact h1) j hj)), fun h1 => by rw [ZN hs qD] at h1 ⊢; exact h.c7 h1, fun h1 => by rw [ZN hs qD] at h1 ⊢; exact h.c8 h1, fun _ => by rw [ZN hs qD]; exact h6⟩
theorem UpM.T_same {b b3 : Nat} {ps : List (Cel exE)} {st : Option (Nat × List Value)} {cap : Nat} {s s' : UpM} {D : Array Bool} (h3 : D.getD 3 false = true → s'.p = s.p) (h6 : D.getD 6 false = true ∨ D.getD 7 false = true → s'.ap = s.ap) {j : Nat} (hj : D.getD j false = true) : s'.T b b3 ps st cap j = s.T b b3 ps st cap j := by
 match j, hj with
 | 3, hj => show TC s'.p = TC s.p; rw [h3 hj]
 | 6, hj => show Ty.is (apV ps s'.ap) = Ty.is (apV ps s.ap); rw [h6 (.inl hj)]
 | 7, hj => simp only [UpM.T]; rw [h6 (.inr hj)]
 | 0, _ => rfl
 | 1, _ => rfl
 | 2, _ => rfl
 | 4, _ => rfl
 | 5, _ => rfl
 | 8, _ => rfl
 | 9, _ => rfl
 | j + 10, _ => rfl
theorem pickEx {P : Program} {L : List Own} {Φ : List (World → Prop)} {H : Know} {o : Oper} {Bad : Prop} {ch : List PanicEntry} {G : Type} {f : G → Ex} {Lg : G → List Own} (h : BigObP P L Φ H o Bad ch (fun g => .rep (ExR (f g))) Lg) : BigObP P L Φ H o Bad ch (G := { q : G × Cel exE // q.2.x = f q.1 }) (fun q => TC q.1.2) (fun q => Lg q.1.1) := by
 simp only [Zar] at h
 exact h.pick
attribute [local irreducible] SlE ExsR
theorem Z6N (N : Nat) (T : Tk) (hc : T.ts.length ≤ T.cap) (h9 : T.ts.length ≤ 2049) (b : Nat) (ts : List T3) (hts : ts <:+ T.ts) (e : Ps Ex) (hex : ∀ us, us <:+ T.ts → us.length ≤ ts.length → CallP Tryz.prog ZH [PB T b (us)] [T.G, AF] [.is (.pointer (some ⟨b, 0, none⟩))] (e (us) = none) flt (fun z : Ex × List T3 => e (us) = some z) (fun z => [PB T b z.2]) (fun z => .rep (ExR z.1))) (nm : ByteArray) (b3 : Nat) (s : UpS) (l : List (ByteArray × Cel exE)) (hI : upI s l) (hl : l.length + ts.length ≤ 4096) : CallP Tryz.prog Z4h (PB T b ts :: upX nm b3 s) [T.G, AF, NH N] ([.is (.pointer (some ⟨b, 0, none⟩))] ++ [Value.pointer (some ⟨b3, 0, none⟩)].map Ty.is) (setP e ts = none) flt (fun z : (ByteArray × Cel exE) × List T3 × UpS => setP e ts = some (pcX z.1, z.2.1) ∧ upI z.2.2 (l ++ [z.1])) (fun z => PB T b z.2.1 :: upX nm b3 z.2.2) (fun z => .rep (pcE.T z.1)) :=
CallP.of (fn := Tryz.f122) Tryz.func122 (n := 21) rfl rfl rfl (fun _ _ => by kernel_rfl) fun E W hb0 => by
 obtain ⟨ps, st, cap⟩ := s
 obtain ⟨hps, hG⟩ := hI
 dsimp only at hps hG
 have hpl : ps.length = l.length := by rw [hps, List.length_map]
 refine vQ ?_
 refine Ja rfl ?_
 refine vP [0, 1] ?_
 refine Jm rfl ?_
 refine JO.callPK (Lr := ⟨b3, ZD, .is (.agg #[.int .i64 5, .string nm, .string ⟨#[]⟩, .slice none 0 0, .slice none 0 0, .slice none 0 0, .slice none 0 0, .slice none 0 0, .slice none 0 0, .slice none 0 0, .slice none 0 0, .int .i64 (-1), sliceO st ps.length cap, .bool false])⟩ :: ownO st Z6 []) (ZK T hc b ts hts) rfl (.refl _) qF qA (fun hbad => ?_) ?_
 · exact JX.pnI (by unfold setP; rw [hbad]; rfl)
 intro z1 hz1
 have h1 : Lt z1.2 ts := Zw _ _ hz1
 refine vD ?_
 refine Ja rfl ?_
 refine vP [0, 1, 4] ?_
 refine Jm rfl (Jm rfl ?_)
 refine JO.callK (Lr := ⟨b3, ZD, .is (.agg #[.int .i64 5, .string nm, .string ⟨#[]⟩, .slice none 0 0, .slice none 0 0, .slice none 0 0, .slice none 0 0, .slice none 0 0, .slice none 0 0, .slice none 0 0, .slice none 0 0, .int .i64 (-1), sliceO st ps.length cap, .bool false])⟩ :: ownO st Z6 []) (Ze T hc b (z1.2) ((show z1.2 <:+ T.ts from (Zw _ _ hz1).1.trans hts)) s_eq) rfl (.refl _) qF qA ?_
 intro _ _
 refine vD ?_
 refine JO.callPK (Lr := _) (Zb (.pointer (some ⟨b, 0, none⟩)) (isT 5 s_eq z1.2)) rfl (Z1k _) Z19 qA (fun hbad => ?_) ?_
 · exact JX.pnI (by unfold setP; rw [hz1, Option.bind_some, wantN hbad]; rfl)
 intro _ heq
 refine vD ?_
 refine vS [0, 1, 4] ?_
 rw [ZU heq]
 have hlt := (Zz heq).2
 repeat apply yQ
 refine J.regMach (Bad := e z1.2.tail = none) (ch := flt) 11 (UpM.L T b z1.2.tail nm b3 ps st cap) (UpM.T b b3 ps st cap) (UpM.inv e z1.2.tail ps) (fun i => i == 3 || i == 6 || i == 8 || i == 10) ⟨none, none, false, false⟩ rfl ?_ (fun hbad => ?_) hmx qK rfl qK ?_ ?_ ?_
 · exact ⟨rfl, (fun z h => by cases h), rfl, (fun z h => by cases h), rfl, rfl, (fun h => by cases h), (fun h => by cases h), (fun h => by cases h), (fun h => by cases h)⟩
 · exact JX.pnI (by unfold setP; rw [hz1, Option.bind_some, wantY heq, Option.bind_some, hbad]; rfl)
 · intro s D i o hs hinv hA hbg hd hr
   match i, hA, hbg, hd, hr with
   | 0, hA, _, hd, hr =>
     obtain rfl := Option.some.inj hA
     exact ⟨hinv.quiet qM qD (fun h => by cases h), rfl, (Z0 Z36 rfl)⟩
   | 1, hA, _, hd, hr =>
     obtain rfl := Option.some.inj hA
     have h6 : D.getD 6 false = false := Z7N (fun h => hinv.c6 h 1 qD) hd
     have h10 : s.e10 = false := by rw [← hinv.e10]; exact Z7N hinv.c10 h6
     refine ⟨hinv.quiet qM qD (fun h => by cases h), rfl, ?_⟩
     have hL : upB nm b3 (sliceO st ps.length cap) ∈ s.L T b z1.2.tail nm b3 ps st cap := by
       refine List.mem_cons_of_mem _ (List.mem_cons.2 (.inl ?_))
       unfold UpM.fld; rw [h10]; rfl
     haveI : HasOwn (s.L T b z1.2.tail nm b3 ps st cap) b3 ZD (upB nm b3 (sliceO st ps.length cap)).T := ⟨hL⟩
     exact Z1 (V := .agg #[.int .i64 5, .string nm, .string ⟨#[]⟩, .slice none 0 0, .slice none 0 0, .slice none 0 0, .slice none 0 0, .slice none 0 0, .slice none 0 0, .slice none 0 0, .slice none 0 0, .int .i64 (-1), sliceO st ps.length cap, .bool false]) Zh rfl rfl
   | 2, hA, _, hd, hr =>
     obtain rfl := Option.some.inj hA
     exact ⟨hinv.quiet qM qD (fun h => by cases h), rfl, (Z2 rfl)⟩
   | 3, _, hbg, _, _ => exact absurd hbg qD
   | 4, hA, _, hd, hr =>
     obtain rfl := Option.some.inj hA
     exact ⟨hinv.quiet qM qD (fun h => by cases h), rfl, (ZdC hG Zl rfl)⟩
   | 5, hA, _, hd, hr =>
     obtain rfl := Option.some.inj hA
     exact ⟨hinv.quiet qM qD (fun h => by cases h), rfl, ((show Ob _ _ _ _ _ (.newSl (.cells p0E.cs.toArray 42 (0, 0)) 1 1) from ZF (cs := p0E.cs) ZT qM qM (.cons rfl .nil) rfl rfl rfl))⟩
   | 6, _, hbg, _, _ => exact absurd hbg qD
   | 7, hA, _, hd, hr =>
     obtain rfl := Option.some.inj hA
     have h6 := hr _ rfl ⟨6, .data⟩ (by simp) rfl
     refine ⟨hinv.quiet qM qD (fun _ => h6), rfl, ?_⟩
     obtain ⟨zo, ap, e8, e10⟩ := s
     have ha := hinv.a
     rw [h6] at ha
     cases ap with
     | none => cases ha
     | some a => exact Z7 Z1X rfl rfl rfl qM qM
   | 8, _, hbg, _, _ => exact absurd hbg qD
   | 9, hA, _, hd, hr =>
     obtain rfl := Option.some.inj hA
     exact ⟨hinv.quiet qM qD (fun h => by cases h), rfl, (Z0 Z36 rfl)⟩
   | 10, _, hbg, _, _ => exact absurd hbg qD
   | i + 11, hA, _, hd, hr => simp at hA
 · intro s D i o hs hinv hA hbg hd hr
   match i, hA, hbg, hd, hr with
   | 0, _, hbg, _, _ => exact absurd hbg qD
   | 1, _, hbg, _, _ => exact absurd hbg qD
   | 2, _, hbg, _, _ => exact absurd hbg qD
   | 3, hA, _, hd, hr =>
     obtain rfl := Option.some.inj hA
     obtain ⟨zo, ap, e8, e10⟩ := s
     have h6 : D.getD 6 false = false := Z7N (fun h => hinv.c6 h 3 qD) hd
     have h7 := Z7N hinv.c7 h6
     have h8 := Z7N hinv.c8 h6
     have hap : ap = none := by
       have ha := hinv.a
       rw [h6] at ha
       cases ap with
       | none => rfl
       | some a => cases ha
     subst hap
     have hzo : zo = none := by
       have := hinv.z
       rw [hd] at this
       cases zo with
       | none => rfl
       | some r => cases this
     subst hzo
     refine ⟨rfl, .inr (BigObP.to (G := { q : { z : Ex × List T3 // e z1.2.tail = some z } × Cel exE // q.2.x = q.1.1.1 }) (Tg := fun q => TC q.1.2) (Lg := fun q => [PB T b q.1.1.1.2] ++ (upB nm b3 (UpM.fld ps st cap ⟨none, none, e8, e10⟩) :: ownO st Z6 [])) ?_ (fun q => ⟨⟨some (q.1.1.1, q.1.2), none, e8, e10⟩, hinv.call qM q.1.1.2 q.2, fun j hj => UpM.T_same (s := ⟨none, none, e8, e10⟩) (s' := ⟨some (q.1.1.1, q.1.2), none, e8, e10⟩) (fun h => absurd h (by rw [hd]; decide)) (fun h => rfl) hj⟩) (fun _ => rfl) (fun _ => .refl _))⟩
     exact pickEx (f := fun g : { z : Ex × List T3 // e z1.2.tail = some z } => g.1.1) (Z6r rfl (hex z1.2.tail (Zm (show z1.2 <:+ T.ts from (Zw _ _ hz1).1.trans hts)) (by have := h1.2; have := (Zz heq).2; omega)) (.refl _) qF qA)
   | 4, _, hbg, _, _ => exact absurd hbg qD
   | 5, _, hbg, _, _ => exact absurd hbg qD
   | 6, hA, _, hd, hr =>
     obtain rfl := Option.some.inj hA
     have hall : ∀ j, j < 6 → D.getD j false = true := fun j hj => by
       match j, hj with
       | 0, _ => exact hr _ rfl ⟨0, .phase⟩ (by simp) rfl
       | 1, _ => exact hr _ rfl ⟨1, .data⟩ (by simp) rfl
       | 2, _ => exact hr _ rfl ⟨2, .phase⟩ (by simp) rfl
       | 3, _ => exact hr _ rfl ⟨3, .chain⟩ (by simp) rfl
       | 4, _ => exact hr _ rfl ⟨4, .phase⟩ (by simp) rfl
       | 5, _ => exact hr _ rfl ⟨5, .data⟩ (by simp) rfl
     obtain ⟨zo, ap, e8, e10⟩ := s
     have h7 := Z7N hinv.c7 hd
     have h8 := Z7N hinv.c8 hd
     have h10 := Z7N hinv.c10 hd
     have hap : ap = none := by
       have ha := hinv.a
       rw [hd] at ha
       cases ap with
       | none => rfl
       | some a => cases ha
     subst hap
     obtain rfl : e8 = false := by have := hinv.e8; rw [h8] at this; exact this.symm
     obtain rfl : e10 = false := by have := hinv.e10; rw [h10] at this; exact this.symm
     have hXX : ∀ (q : GrG Cel.cs 8 (ps ++ [p0E])), ∃ b17 cs17, q.1.1 = some (b17, cs17) := fun q => Z4K q.2 (by simp)
     refine ⟨rfl, .inl (BigOb.to (G := GrG Cel.cs 8 (ps ++ [p0E])) (Tg := fun g => .is (sliceO g.1.1 (ps ++ [p0E]).length g.1.2)) (Lg := fun g => PB T b (usO z1.2.tail zo) :: upB nm b3 (sliceO st ps.length cap) :: ownO g.1.1 Z6 []) ?_ (fun q => ⟨⟨zo, some ((q.1.1.getD (0, [])).1, (q.1.1.getD (0, [])).2, q.1.2), false, false⟩, hinv.app qM hall ?_, fun j hj => UpM.T_same (s := ⟨zo, none, false, false⟩) (s' := ⟨zo, some ((q.1.1.getD (0, [])).1, (q.1.1.getD (0, [])).2, q.1.2), false, false⟩) (fun _ => rfl) (fun h => absurd h (by rw [hd, h7]; decide)) hj⟩) (fun q => ?_) (fun q => ?_))⟩
     · have hLq : UpM.L T b z1.2.tail nm b3 ps st cap ⟨zo, none, false, false⟩ = PB T b (usO z1.2.tail zo) :: upB nm b3 (sliceO st ps.length cap) :: ownO st Z6 [] := rfl
       rw [hLq]
       exact Zl1 [p0E] Z1l (.there (.there .here)) hG rfl rfl (srcE p0E Zl) (by simp) (by show (ps.length + 1) * 104 ≤ 140737488355328; omega) (by show ps.length + 1 ≤ 9223372036854775807; omega)
     · obtain ⟨⟨go, gc⟩, hq⟩ := q
       obtain ⟨b17, cs17, rfl⟩ := Z4K hq (by simp)
       exact hq
     · obtain ⟨⟨go, gc⟩, hq⟩ := q
       obtain ⟨b17, cs17, rfl⟩ := Z4K hq (by simp)
       show Ty.is (Value.slice (some ⟨b17, 0, none⟩) (ps.length + 1) gc) = Ty.is (sliceO (some (b17, cs17)) (ps ++ [p0E]).length gc)
       rw [List.length_append]; rfl
     · obtain ⟨⟨go, gc⟩, hq⟩ := q
       obtain ⟨b17, cs17, rfl⟩ := Z4K hq (by simp)
       exact .refl _
   | 7, _, hbg, _, _ => exact absurd hbg qD
   | 8, hA, _, hd, hr =>
     obtain rfl := Option.some.inj hA
     have h3 := hr _ rfl ⟨3, .data⟩ (by simp) rfl
     have h6 := hr _ rfl ⟨6, .chain⟩ (by simp) rfl
     have h7 := hr _ rfl ⟨7, .data⟩ (by simp) rfl
     obtain ⟨zo, ap, e8, e10⟩ := s
     have ha := hinv.a
     rw [h6] at ha
     cases ap with
     | none => cases ha
     | some a =>
     obtain rfl : e8 = false := by have := hinv.e8; rw [hd] at this; exact this.symm
     have hG6 := hinv.g a rfl
     refine ⟨rfl, .inl ((BigOb.ofM (ZkR (T := TC (UpM.p ⟨zo, some a, false, e10⟩)) rfl (by simp [Op.operands]) TC.is (Zen Cel.hlen (fun x => List.all_eq_true.2 x.o) Zq (.inl rfl) (.inr ⟨rfl, rfl⟩) hG6 (i := ps.length) (v := UpM.p ⟨zo, some a, false, e10⟩) (by simp) (by show 0 + ((ps.length : Nat) : Int).toNat * 8 = ps.length * 8; omega) (.there (.there .here)))) rfl).to (fun _ => ⟨⟨zo, some a, true, e10⟩, hinv.st8 qM h6, fun j hj => UpM.T_same (fun _ => rfl) (fun _ => rfl) hj⟩) (fun _ => rfl) (fun _ => .refl _))⟩
   | 9, _, hbg, _, _ => exact absurd hbg qD
   | 10, hA, _, hd, hr =>
     obtain rfl := Option.some.inj hA
     have h6 := hr _ rfl ⟨6, .data⟩ (by simp) rfl
     obtain ⟨zo, ap, e8, e10⟩ := s
     have ha := hinv.a
     rw [h6] at ha
     cases ap with
     | none => cases ha
     | some a =>
     obtain rfl : e10 = false := by have := hinv.e10; rw [hd] at this; exact this.symm
     refine ⟨rfl, .inl (BigOb.to (G := Unit) (Tg := fun _ => .any) (Lg := fun _ => PB T b (usO z1.2.tail zo) :: upB nm b3 (apV ps (some a)) :: ownO (UpM.cur ps st ⟨zo, some a, e8, false⟩) Z6 []) ?_ (fun _ => ⟨⟨zo, some a, e8, true⟩, hinv.st10 qM h6, fun j hj => UpM.T_same (s := ⟨zo, some a, e8, false⟩) (s' := ⟨zo, some a, e8, true⟩) (fun _ => rfl) (fun _ => rfl) hj⟩) (fun _ => rfl) (fun _ => .refl _))⟩
     have hLq : UpM.L T b z1.2.tail nm b3 ps st cap ⟨zo, some a, e8, false⟩ = PB T b (usO z1.2.tail zo) :: upB nm b3 (sliceO st ps.length cap) :: ownO (UpM.cur ps st ⟨zo, some a, e8, false⟩) Z6 [] := rfl
     rw [hLq]
     exact BigOb.ofM (Zj (V := apV ps (some a)) rfl rfl (.there .here) rfl rfl rfl rfl Z3M) rfl
   | i + 11, hA, _, hd, hr => simp at hA
 intro s D hs hall hinv
 obtain ⟨zo, ap, e8, e10⟩ := s
 obtain rfl : e8 = true := by have := hinv.e8; rw [hall 8 qD] at this; exact this.symm
 obtain rfl : e10 = true := by have := hinv.e10; rw [hall 10 qD] at this; exact this.symm
 have ha := hinv.a
 rw [hall 6 qD] at ha
 have hz3 := hinv.z
 rw [hall 3 qD] at hz3
 obtain ⟨⟨b17, cs17, cap2⟩, rfl⟩ := Option.isSome_iff_exists.1 ha.symm
 obtain ⟨⟨z, p1⟩, rfl⟩ := Option.isSome_iff_exists.1 hz3.symm
 obtain ⟨hz, hp1⟩ := hinv.r _ rfl
 dsimp only at hz hp1
 have hG3 := ZgS Cel.hlen (hinv.g _ rfl) (i := ps.length) (by simp) p1
 rw [ZhR] at hG3
 refine JO.subL (L' := PB T b z.2 :: upX nm b3 (ps ++ [p1], some (b17, splice cs17 (ps.length * 8) p1.cs), cap2)) (.of_eq (by simp only [UpM.L, UpM.fld, UpM.cur, upX, if_true, List.length_append]; rfl)) ?_
 refine JO.open_ (s := 14) (R := fun v w => v = exE.v p1.cs ∧ CelR p1 w) rfl ?_
 rintro _ ⟨_, rfl, _⟩
 refine JO.fact (CelR p1) (fun X w hf _ => fun w' hk => (hf _ List.mem_cons_self w' hk).2) ?_
 refine vP [4] ?_
 refine Jm rfl (Ja rfl ?_)
 refine vS [3] ?_
 refine vR ?_
 refine JX.toP ?_
 exact JX.retL1 (Lr := []) (L1 := fun z : (ByteArray × Cel exE) × List T3 × UpS => PB T b z.2.1 :: upX nm b3 z.2.2) (R := fun z => .rep (pcE.T z.1)) rfl ((z1.1, p1), z.2, (ps ++ [p1], some (b17, splice cs17 (ps.length * 8) p1.cs), cap2)) ⟨by unfold setP; rw [hz1, Option.bind_some, wantY heq, Option.bind_some, hz]; simp only [Option.map_some, pcX, hp1], by rw [List.map_append, ← hps]; rfl, hG3⟩ (.of_eq (List.append_nil _).symm) rfl rfl hb0 rfl (Sub.pcT qI)
end Go.Proofs.YtbedigkncjbggaaGreatDoor
