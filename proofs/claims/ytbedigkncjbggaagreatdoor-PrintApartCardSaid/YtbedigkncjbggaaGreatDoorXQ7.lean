/- The parser: NOT, comparisons, IS. No condition. -/
import Derived.Test.YtbedigkncjbggaaGreatDoorXQ6
import Derived.Test.YtbedigkncjbggaaGreatDoorXG7
import Derived.Test.YtbedigkncjbggaaGreatDoorXQ1
set_option maxRecDepth 20000
namespace Go.Proofs.YtbedigkncjbggaaGreatDoor
open Go Go.Vc
open Go.Pz
theorem Zg9 {e : Ps Ex} {ts : List T3} (h : isT 1 ZY ts = true) : notP e ts = (notP e ts.tail).map fun z => (nd 4 [z.1], z.2) := by
 obtain ⟨t, r, rfl, _⟩ := Z56 h
 rw [notP, if_pos h]; rfl
theorem Z5J {e : Ps Ex} {ts : List T3} (h : isT 1 ZY ts = false) : notP e ts = (sumP e ts).bind fun z => cmpP e z.1 z.2 := by
 cases ts with
 | nil => rw [notP]
 | cons t r => rw [notP, if_neg (by rw [h]; decide)]
abbrev cmpV : List Value := [.string s_eq, .string s_ne, .string s_lt, .string s_le, .string s_gt, .string s_ge]
theorem ZkE {i : Nat} (h : i < 6) : cmpV[0 + ((i : Nat) : Int).toNat * 1]? = some (.string (cmpO.getD i (em, 0)).1) := by
 match i, h with
 | 0, _ => rfl
 | 1, _ => rfl
 | 2, _ => rfl
 | 3, _ => rfl
 | 4, _ => rfl
 | 5, _ => rfl
theorem ZlD {i : Nat} (h : i < 6) : IntKind.i64.wrap (10 + ((i : Nat) : Int)) = (cmpO.getD i (em, 0)).2 := by
 match i, h with
 | 0, _ => rfl
 | 1, _ => rfl
 | 2, _ => rfl
 | 3, _ => rfl
 | 4, _ => rfl
 | 5, _ => rfl
theorem asc {s : ByteArray} (h : s.data.toList.all (fun b => decide (b.toNat < 128)) = true) (j : Nat) (b : UInt8) (hb : s.data.toList[j]? = some b) : b.toNat < 128 := of_decide_eq_true (List.all_eq_true.1 h b (List.mem_of_getElem? hb))
theorem Z6M (T : Tk) (hc : T.ts.length ≤ T.cap) (b : Nat) (ts : List T3) (hts : ts <:+ T.ts) (e : Ps Ex) (he : Dn0 e) (hsum : ∀ us, us <:+ T.ts → us.length ≤ ts.length → CallP Tryz.prog Z32 [PB T b (us)] [T.G, AF] [.is (.pointer (some ⟨b, 0, none⟩))] (sumP e (us) = none) flt (fun z : Ex × List T3 => sumP e (us) = some z) (fun z => [PB T b z.2]) (fun z => .rep (ExR z.1))) (ih : ∀ us, us <:+ T.ts → us.length < ts.length → CallP Tryz.prog Z1V [PB T b (us)] [T.G, AF] [.is (.pointer (some ⟨b, 0, none⟩))] (notP e (us) = none) flt (fun z : Ex × List T3 => notP e (us) = some z) (fun z => [PB T b z.2]) (fun z => .rep (ExR z.1))) : CallP Tryz.prog Z1V [PB T b ts] [T.G, AF] [.is (.pointer (some ⟨b, 0, none⟩))] (notP e ts = none) flt (fun z : Ex × List T3 => notP e ts = some z) (fun z => [PB T b z.2]) (fun z => .rep (ExR z.1)) :=
CallP.of (fn := Tryz.f165) Tryz.func165 (n := 48) rfl rfl rfl (fun _ _ => by kernel_rfl) fun E W hb0 => by
 refine vQ ?_
 refine JO.alloc Z13 rfl fun b2 => ?_
 refine vP [0, 2] ?_
 refine Jm rfl ?_
 refine JO.callK (Lr := [_]) (Zi T hc b ts hts ZY) rfl (.swap _ _ _) qF qA ?_
 intro _ _
 refine vD ?_
 refine vS [0, 2, 7] ?_
 refine yC rfl (fun ht7 => ?_) (fun ht7 => ?_)
 have hnn : isT 1 ZY ts = true := ht7
 rw [ZU hnn]
 refine vQ ?_
 refine Jm rfl ?_
 refine JO.callPK (Lr := [_]) (ih ts.tail (Zm hts) (Zz hnn).2) rfl (.refl _) qF qA (fun hbad => ?_) ?_
 · exact JX.pnI (by rw [Zg9 hnn, hbad]; rfl)
 intro z hz
 refine vD ?_
 refine Jq (Z48 ZT rfl) ?_
 refine Jq (ZL rfl (Z2J 4 [z.1]) qA) ?_
 refine JO.m (Z3 rfl rfl qU qC qO Zq) (by rfl) ?_
 refine vS [2] ?_
 refine vR ?_
 refine JX.toP ?_
 exact JX.retLCs (Lr := [_]) (L1 := fun z : Ex × List T3 => [PB T b z.2]) (R := fun z => .rep (ExR z.1)) rfl (nd 4 [z.1], z.2) (by rw [Zg9 hnn, hz]; rfl) (.refl _) rfl rfl hb0 rfl Za HasOwn.mem Z1J (Sub.refl _)
 apply yK
 repeat first|apply yX|apply yB
 have hnn : isT 1 ZY ts = false := ht7
 rw [ZZ hnn]
 refine vQ ?_
 refine Jm rfl ?_
 refine JO.callPK (Lr := [_]) (hsum ts hts (Nat.le_refl _)) rfl (.refl _) qF qA (fun hbad => ?_) ?_
 · exact JX.pnI (by rw [Z5J hnn, hbad]; rfl)
 intro z1 hz1
 refine vD ?_
 refine JO.alloc Z13 rfl fun b3 => ?_
 refine JO.m (Z3 rfl rfl qU qC qO Zq) (by rfl) ?_
 refine vP [0, 2, 3] ?_
 refine Jq (ZF (cs := [_, _, _, _, _, _]) Z1c qM qM (.cons rfl (.cons rfl (.cons rfl (.cons rfl (.cons rfl (.cons rfl .nil)))))) rfl rfl rfl) ?_
 refine JO.openNew (s := 14) rfl (fun r14 => ?_)
 refine Jq (Zo ZX rfl) ?_
 refine Jm rfl ?_
 refine vS [0, 2, 3, 14, 15, 16] ?_
 apply yk
 repeat apply yQ
 refine J.loopG (α := Nat) (fun i => [(0, .is (.pointer (some ⟨b, 0, none⟩))), (2, .is (.pointer (some ⟨b2, 0, none⟩))), (3, .is (.pointer (some ⟨b3, 0, none⟩))), (14, .is (.slice (some ⟨r14, 0, none⟩) 6 6)), (15, .is (.int .i64 6)), (16, .is (.int .i64 (i : Int)))]) (fun i => [⟨b3, Z6, .rep (ExR z1.1)⟩, PB T b z1.2, ⟨b2, Z6, .is (.agg #[.int .i64 0, .int .i64 0, .int .i64 0, .string ⟨#[]⟩, .string ⟨#[]⟩, .string ⟨#[]⟩, .int .i64 0, .slice none 0 0])⟩]) (fun i => fun _ => True) (fun i => i ≤ 6 ∧ opOf 5 (cmpO.drop i) z1.2 = opOf 5 cmpO z1.2) (fun i => 6 - i) 0 [0, 2, 3, 14, 15, 16] (.cons rfl (.cons rfl (.cons rfl (.cons rfl (.cons rfl (.cons rfl .nil)))))) rfl (fun _ => trivial) ⟨by omega, rfl⟩ fun i ⟨hi, hO⟩ => ?_
 refine vQ ?_
 refine Jq (ZW rfl rfl) ?_
 refine vS [0, 2, 3, 14, 15, 16, 17] ?_
 refine yC rfl (fun ht17 => ?_) (fun ht17 => ?_)
 try simp only [yd, yf] at ht17
 apply yK
 refine vN ?_
 apply yk
 refine vQ ?_
 refine Jm rfl (Jq (Z7 Z1B rfl rfl rfl qM qM) ?_)
 refine Jq (Z8l (cs := cmpV) (u := .string (cmpO.getD i (em, 0)).1) Z9 rfl qI (ZkE qM)) ?_
 refine Ja rfl (Ja rfl ?_)
 refine vP [0, 2, 3, 4, 5, 14, 15, 16] ?_
 refine Jm rfl (Jm rfl ?_)
 refine JO.callK (Lr := [_, _]) (Ze T hc b z1.2 ((Z2z he _ _ hz1).1.trans hts) (cmpO.getD i (em, 0)).1) rfl (.swap _ _ _) qF qA ?_
 intro _ _
 refine vD ?_
 refine vS [0, 2, 3, 4, 14, 15, 16, 23] ?_
 refine yC rfl (fun ht23 => ?_) (fun ht23 => ?_)
 have hit : isT 5 (cmpO.getD i (em, 0)).1 z1.2 = true := ht23
 have hop : opOf 5 cmpO z1.2 = some (cmpO.getD i (em, 0)).2 := by rw [← hO, Z5v (ops := cmpO) (by show i < 6; omega), if_pos hit]
 rw [ZU hit]
 repeat apply yQ
 refine J.regBgPm (Bad := sumP e z1.2.tail = none) (ch := flt) (G := { z : Ex × List T3 // sumP e z1.2.tail = some z }) 4 6 (fun hbad => ?_) (fun g => .rep (ExR g.1.1)) (fun g => [PB T b g.1.2] ++ [⟨b3, Z6, .rep (ExR z1.1)⟩, ⟨b2, Z6, .is (.agg #[.int .i64 0, .int .i64 0, .int .i64 0, .string ⟨#[]⟩, .string ⟨#[]⟩, .string ⟨#[]⟩, .int .i64 0, .slice none 0 0])⟩]) ([⟨b3, Z6, .rep (ExR z1.1)⟩, ⟨b2, Z6, .is (.agg #[.int .i64 0, .int .i64 0, .int .i64 0, .string ⟨#[]⟩, .string ⟨#[]⟩, .string ⟨#[]⟩, .int .i64 0, .slice none 0 0])⟩]) rfl rfl rfl rfl hmx qK rfl qK (fun _ h => List.mem_cons_of_mem _ h) (fun g o ho => List.mem_cons_of_mem _ ho) qK ?_
 · exact JX.pnI (by rw [Z5J hnn, hz1]; show cmpP e z1.1 z1.2 = none; unfold cmpP; rw [hop]; dsimp only; rw [hbad]; rfl)
 refine yz (Z2 rfl) ?_
 refine yz (Zkb (cc := (cmpO.getD i (em, 0)).2) rfl rfl (ZlD qM)) ?_
 refine yz (Z2S Za rfl) ?_
 refine yz (Z2 rfl) ?_
 refine RT.biggP (Lq := [⟨b3, Z6, .rep (ExR z1.1)⟩, ⟨b2, Z6, .is (.agg #[.int .i64 0, .int .i64 0, .int .i64 0, .string ⟨#[]⟩, .string ⟨#[]⟩, .string ⟨#[]⟩, .int .i64 0, .slice none 0 0])⟩]) (Z6r rfl (hsum z1.2.tail (Zm ((Z2z he _ _ hz1).1.trans hts)) (by have := (Zz hit).2; have := (Z2z he _ _ hz1).2; omega)) (.refl _) qF qA) (fun g => ?_)
 refine yz (ZaD ZT rfl rfl) ?_
 apply yn
 obtain ⟨z, hg2⟩ := g
 try dsimp only
 refine Jq (ZL rfl (Z2J (cmpO.getD i (em, 0)).2 [z1.1, z.1]) qA) ?_
 refine JO.m (Z3 rfl rfl qU qC qO Zq) (by rfl) ?_
 refine vS [2] ?_
 refine vR ?_
 refine JX.toP ?_
 exact JX.retLCs (Lr := [_, _]) (L1 := fun z : Ex × List T3 => [PB T b z.2]) (R := fun z => .rep (ExR z.1)) rfl (nd (cmpO.getD i (em, 0)).2 [z1.1, z.1], z.2) (by rw [Z5J hnn, hz1]; show cmpP e z1.1 z1.2 = _; unfold cmpP; rw [hop]; dsimp only; rw [hg2]; rfl) (.refl _) rfl rfl hb0 rfl Za HasOwn.mem Z1J (Sub.refl _)
 apply yK
 repeat first|apply yX|apply yB
 rw [ZZ ht23]
 refine vQ ?_
 refine Jq (ZE (cc := ((i + 1 : Nat) : Int)) rfl rfl qM qM qM) ?_
 refine Jm rfl ?_
 apply yI
 repeat refine JX.normal_block ?_
 refine JX.roundG (x := i) (i + 1) ?_ ?_ [0, 2, 3, 14, 15, 16] ?_ ?_ ?_ ?_
 · exact ⟨by omega, by rw [← hO, Z5v (ops := cmpO) (i := i) (by show i < 6; omega), if_neg (by rw [ht23]; decide)]⟩
 · exact qM
 · exact qS
 · exact qH
 · exact qG
 · exact fun _ _ _ => fun _ _ => trivial
 try simp only [yd, yf] at ht17
 repeat apply yQ
 refine J.exit ?_
 repeat first|refine yH ?_|refine yM rfl ?_|refine yE ?_
 repeat first|apply yX|apply yB
 have hno : opOf 5 cmpO z1.2 = none := by rw [← hO, List.drop_eq_nil_of_le (by show 6 ≤ i; omega)]; rfl
 refine vQ ?_
 refine Jm rfl ?_
 refine JO.callK (Lr := [_, _]) (Zi T hc b z1.2 ((Z2z he _ _ hz1).1.trans hts) w_IS) rfl (.swap _ _ _) qF qA ?_
 intro _ _
 refine vD ?_
 refine Jq (Z6p rfl) ?_
 refine vS [0, 2, 3, 34] ?_
 refine yC rfl (fun ht34 => ?_) (fun ht34 => ?_)
 have his : isT 1 w_IS z1.2 = false := by simpa using ht34
 rw [ZZ his]
 refine vQ ?_
 refine Jq (Z2S Za rfl) ?_
 refine JO.m (Z3 rfl rfl qU qC qO Zq) (by rfl) ?_
 refine vS [2] ?_
 refine vR ?_
 refine JX.toP ?_
 exact JX.retLCs (Lr := [_, _]) (L1 := fun z : Ex × List T3 => [PB T b z.2]) (R := fun z => .rep (ExR z.1)) rfl (z1.1, z1.2) (by rw [Z5J hnn, hz1]; show cmpP e z1.1 z1.2 = _; unfold cmpP; rw [hno]; dsimp only; rw [if_neg (by rw [his]; decide)]) (.refl _) rfl rfl hb0 rfl Za HasOwn.mem Z1J (Sub.refl _)
 apply yK
 repeat first|apply yX|apply yB
 have his : isT 1 w_IS z1.2 = true := by simpa using ht34
 rw [ZU his]
 refine vQ ?_
 refine Jm rfl ?_
 refine JO.callK (Lr := [_, _]) (Zi T hc b z1.2.tail (Zm ((Z2z he _ _ hz1).1.trans hts)) ZY) rfl (.refl _) qF qA ?_
 intro _ _
 refine vD ?_
 refine vS [0, 2, 3, 37] ?_
 refine yC rfl (fun ht37 => ?_) (fun ht37 => ?_)
 have hi2 : isT 1 ZY z1.2.tail = true := ht37
 rw [ZU hi2]
 refine vQ ?_
 refine Jm rfl ?_
 refine JO.callPK (Lr := [_, _]) (Zr T hc b (z1.2.tail.tail) (Zm (Zm ((Z2z he _ _ hz1).1.trans hts))) Z1D (by decide +kernel) (by decide +kernel) (asc (by decide +kernel))) rfl (.refl _) qF qA (fun hbad => ?_) ?_
 · exact JX.pnI (by rw [Z5J hnn, hz1]; show cmpP e z1.1 z1.2 = none; unfold cmpP; rw [hno]; dsimp only; rw [if_pos his, if_pos hi2, hbad]; rfl)
 intro z2 hz2
 refine vD ?_
 refine vP [2, 3] ?_
 refine Jq (Z2S Za rfl) ?_
 refine Jq (Z48 ZT rfl) ?_
 refine Jq (ZL rfl (Z2J 19 [z1.1]) qA) ?_
 refine JO.m (Z3 rfl rfl qU qC qO Zq) (by rfl) ?_
 refine vS [2] ?_
 refine vR ?_
 refine JX.toP ?_
 exact JX.retLCs (Lr := [_, _]) (L1 := fun z : Ex × List T3 => [PB T b z.2]) (R := fun z => .rep (ExR z.1)) rfl (nd 19 [z1.1], z2.2) (by rw [Z5J hnn, hz1]; show cmpP e z1.1 z1.2 = _; unfold cmpP; rw [hno]; dsimp only; rw [if_pos his, if_pos hi2, hz2]; rfl) (.refl _) rfl rfl hb0 rfl Za HasOwn.mem Z1J (Sub.refl _)
 apply yK
 repeat first|apply yX|apply yB
 have hi2 : isT 1 ZY z1.2.tail = false := ht37
 rw [ZZ hi2]
 refine vQ ?_
 refine Jm rfl ?_
 refine JO.callPK (Lr := [_, _]) (Zr T hc b (z1.2.tail) (Zm ((Z2z he _ _ hz1).1.trans hts)) Z1D (by decide +kernel) (by decide +kernel) (asc (by decide +kernel))) rfl (.refl _) qF qA (fun hbad => ?_) ?_
 · exact JX.pnI (by rw [Z5J hnn, hz1]; show cmpP e z1.1 z1.2 = none; unfold cmpP; rw [hno]; dsimp only; rw [if_pos his, if_neg (by rw [hi2]; decide), hbad]; rfl)
 intro z2 hz2
 refine vD ?_
 refine vP [2, 3] ?_
 refine Jq (Z2S Za rfl) ?_
 refine Jq (Z48 ZT rfl) ?_
 refine Jq (ZL rfl (Z2J 18 [z1.1]) qA) ?_
 refine JO.m (Z3 rfl rfl qU qC qO Zq) (by rfl) ?_
 refine vS [2] ?_
 refine vR ?_
 refine JX.toP ?_
 exact JX.retLCs (Lr := [_, _]) (L1 := fun z : Ex × List T3 => [PB T b z.2]) (R := fun z => .rep (ExR z.1)) rfl (nd 18 [z1.1], z2.2) (by rw [Z5J hnn, hz1]; show cmpP e z1.1 z1.2 = _; unfold cmpP; rw [hno]; dsimp only; rw [if_pos his, if_neg (by rw [hi2]; decide), hz2]; rfl) (.refl _) rfl rfl hb0 rfl Za HasOwn.mem Z1J (Sub.refl _)
theorem Z5A (T : Tk) (hc : T.ts.length ≤ T.cap) (b : Nat) (e : Ps Ex) (he : Dn0 e) (N : Nat) (hsum : ∀ ts, ts <:+ T.ts → ts.length ≤ N → CallP Tryz.prog Z32 [PB T b (ts)] [T.G, AF] [.is (.pointer (some ⟨b, 0, none⟩))] (sumP e (ts) = none) flt (fun z : Ex × List T3 => sumP e (ts) = some z) (fun z => [PB T b z.2]) (fun z => .rep (ExR z.1))) : ∀ n ts, ts <:+ T.ts → ts.length ≤ N → ts.length ≤ n → CallP Tryz.prog Z1V [PB T b (ts)] [T.G, AF] [.is (.pointer (some ⟨b, 0, none⟩))] (notP e (ts) = none) flt (fun z : Ex × List T3 => notP e (ts) = some z) (fun z => [PB T b z.2]) (fun z => .rep (ExR z.1))
 | n, ts, hts, hN, hn => Z6M T hc b ts hts e he (fun us hus hl => hsum us hus qM) fun us hus hl => by
  cases n with
  | zero => omega
  | succ n => exact Z5A T hc b e he N hsum n us hus qM qM
theorem wantN {k : Int} {s : ByteArray} {ts : List T3} (h : isT k s ts = false) : wantP k s ts = none := by unfold wantP; rw [if_neg (by rw [h]; decide)]
theorem wantY {k : Int} {s : ByteArray} {ts : List T3} (h : isT k s ts = true) : wantP k s ts = some ((), ts.tail) := by unfold wantP; rw [if_pos h]
abbrev kvL : List (ByteArray × Value) := [(Z3L, .int .i64 20), (Za7, .int .i64 21), (Zan, .int .i64 22), (Zad, .int .i64 23)]
theorem ZbA {a b : ByteArray} (h : sq a b = true) : a = b := by
 cases a; cases b
 simpa [sq] using h
theorem Zfp {w : ByteArray} {q : Int} (h : aggK w = some q) : ∃ j, j < 4 ∧ kvL[j]? = some (w, .int .i64 q) := by
 unfold aggK at h
 split at h
 · rename_i e; injection h with h; subst h; have e := ZbA e; subst e; exact ⟨0, by decide, rfl⟩
 split at h
 · rename_i e; injection h with h; subst h; have e := ZbA e; subst e; exact ⟨1, by decide, rfl⟩
 split at h
 · rename_i e; injection h with h; subst h; have e := ZbA e; subst e; exact ⟨2, by decide, rfl⟩
 split at h
 · rename_i e; injection h with h; subst h; have e := ZbA e; subst e; exact ⟨3, by decide, rfl⟩
 · cases h
theorem Z6i : (kvL.map (·.1)).Nodup := by decide
theorem Z6L {a b : ByteArray} (h : seq a b = false) : ¬ sq a b = true := by rw [← Z2L, h]; decide
theorem Z3G {a b : ByteArray} (h : seq a b = true) : sq a b = true := by rw [← Z2L]; exact h
structure KwS where
 m : MapS
 z : Option (Ex × List T3)
abbrev KwS.x (s : KwS) : Ex := (s.z.getD (ex0, [])).1
def KwS.L (T : Tk) (b : Nat) (us : List T3) (Lr : List Own) (s : KwS) : List Own := PB T b (match s.z with | none => us | some z => z.2) :: (mOwn s.m ++ Lr)
def KwS.T (b : Nat) (w : ByteArray) (q : Int) (s : KwS) : Nat → Ty
 | 0 => .is (.map s.m.mp)
 | 5 => .is (.map s.m.mp)
 | 6 => .is (.string w)
 | 7 => .is (.int .i64 q)
 | 8 => .is (.pointer (some ⟨b, 0, none⟩))
 | 9 => .rep (ExR s.x)
 | 10 => .rep (ExsR [s.x])
 | _ => .any
structure KwS.inv (e : Ps Ex) (us : List T3) (s : KwS) (D : Array Bool) : Prop where
 m : MInv kvL s.m fun j => D.getD j false
 f : D.getD 5 false = true → ∀ j, j < 5 → D.getD j false = true
 z : D.getD 9 false = s.z.isSome
 r : ∀ z, s.z = some z → e us = some z
 g : D.getD 10 false = true → D.getD 9 false = true
theorem ZcW {D : Array Bool} {i : Nat} (hi : i < D.size) (j : Nat) : ((fun j => (D.setIfInBounds i true).getD j false) j = true) ↔ j = i ∨ ((fun j => D.getD j false) j = true) := Z1g hi
theorem ZN {D : Array Bool} {i j : Nat} (hi : i < D.size) (h : j ≠ i) : (D.setIfInBounds i true).getD j false = D.getD j false := by
 cases hq : D.getD j false with
 | true => exact (Z1g hi).2 (.inr hq)
 | false =>
   cases hq' : (D.setIfInBounds i true).getD j false with
   | false => rfl
   | true => rcases (Z1g hi).1 hq' with e | e
             · exact absurd e h
             · rw [hq] at e; cases e
theorem KwS.inv.other {e : Ps Ex} {us : List T3} {s : KwS} {D : Array Bool} (h : s.inv e us D) {i : Nat} (hs : i < D.size) (h4 : 4 < i) (h9 : i ≠ 9) (h5 : i = 5 → ∀ j, j < 5 → D.getD j false = true) (h10 : i = 10 → D.getD 9 false = true) : s.inv e us (D.setIfInBounds i true) := by
 refine ⟨h.m.other h4 (ZcW hs), fun h1 j hj => ?_, by rw [ZN hs (Ne.symm h9)]; exact h.z, h.r, fun h1 => by
  rw [ZN hs (Ne.symm h9)]
  by_cases hi : i = 10
  · exact h10 hi
  · exact h.g (by rw [← ZN hs (Ne.symm hi)]; exact h1)⟩
 rw [ZN hs qM]
 by_cases hi : i = 5
 · exact h5 hi j hj
 · exact h.f (by rw [← ZN hs (Ne.symm hi)]; exact h1) j hj
theorem KwS.inv.make {e : Ps Ex} {us : List T3} {s : KwS} {D : Array Bool} (h : s.inv e us D) (hs : 0 < D.size) (h0 : D.getD 0 false = false) (r : Nat) : KwS.inv e us ⟨⟨some r, [], 0⟩, s.z⟩ (D.setIfInBounds 0 true) := by
 refine ⟨h.m.make h0 (ZcW hs) r, fun h1 j hj => ?_, by rw [ZN hs qD]; exact h.z, h.r, fun h1 => by rw [ZN hs qD] at h1 ⊢; exact h.g h1⟩
 rw [ZN hs qD] at h1
 have := h.f h1 0 qD
 rw [h0] at this; cases this
theorem KwS.inv.ins {e : Ps Ex} {us : List T3} {s : KwS} {D : Array Bool} (h : s.inv e us D) {j : Nat} {kv : ByteArray × Value} (hs : j + 1 < D.size) (hj : kvL[j]? = some kv) (hj4 : j < 4) (h1 : D.getD (j + 1) false = false) (h0 : D.getD 0 false = true) : KwS.inv e us ⟨⟨s.m.mp, s.m.es ++ [(kv.1, kv.2, s.m.n)], s.m.n + 1⟩, s.z⟩ (D.setIfInBounds (j + 1) true) := by
 refine ⟨h.m.ins hj h0 (ZcW hs), fun h2 k hk => ?_, by rw [ZN hs qM]; exact h.z, h.r, fun h3 => by rw [ZN hs qM] at h3 ⊢; exact h.g h3⟩
 rw [ZN hs qM] at h2
 have := h.f h2 (j + 1) qM
 rw [h1] at this; cases this
theorem KwS.inv.call {e : Ps Ex} {us : List T3} {s : KwS} {D : Array Bool} (h : s.inv e us D) (hs : 9 < D.size) {z : Ex × List T3} (hz : e us = some z) : KwS.inv e us ⟨s.m, some z⟩ (D.setIfInBounds 9 true) :=
 ⟨h.m.other qD (ZcW hs), fun h1 j hj => by rw [ZN hs qM]; exact h.f (by rw [← ZN hs qD]; exact h1) j hj, by rw [(Z1g hs).2 (.inl rfl)]; rfl, fun y hy => by injection hy with hy; subst hy; exact hz, fun _ => (Z1g hs).2 (.inl rfl)⟩
theorem aggY {w : ByteArray} (h : (seq w Z3L ||(seq w Za7 ||(seq w Zan || seq w Zad))) = true) : ∃ q, aggK w = some q := by
 simp only [Z2L] at h
 unfold aggK
 repeat' split
 all_goals first|exact ⟨_, rfl⟩ | simp_all
theorem aggN {w : ByteArray} (h : (seq w Z3L ||(seq w Za7 ||(seq w Zan || seq w Zad))) = false) : aggK w = none := by
 simp only [Z2L] at h
 unfold aggK
 simp_all
theorem kwT0 {b : Nat} {w : ByteArray} {q : Int} {m m' : MapS} {zo : Option (Ex × List T3)} {D : Array Bool} (h5 : D.getD 5 false = false) (hd : D.getD 0 false = false) {j : Nat} (hj : D.getD j false = true) : KwS.T b w q ⟨m', zo⟩ j = KwS.T b w q ⟨m, zo⟩ j := by
 match j, hj with
 | 0, hj => rw [hd] at hj; cases hj
 | 5, hj => rw [h5] at hj; cases hj
 | 1, _ => rfl
 | 2, _ => rfl
 | 3, _ => rfl
 | 4, _ => rfl
 | 6, _ => rfl
 | 7, _ => rfl
 | 8, _ => rfl
 | 9, _ => rfl
 | 10, _ => rfl
 | j + 11, _ => rfl
theorem kwT9 {b : Nat} {w : ByteArray} {q : Int} {m : MapS} {zo zo' : Option (Ex × List T3)} {D : Array Bool} (h10 : D.getD 10 false = false) (hd : D.getD 9 false = false) {j : Nat} (hj : D.getD j false = true) : KwS.T b w q ⟨m, zo'⟩ j = KwS.T b w q ⟨m, zo⟩ j := by
 match j, hj with
 | 9, hj => rw [hd] at hj; cases hj
 | 10, hj => rw [h10] at hj; cases hj
 | 0, _ => rfl
 | 1, _ => rfl
 | 2, _ => rfl
 | 3, _ => rfl
 | 4, _ => rfl
 | 5, _ => rfl
 | 6, _ => rfl
 | 7, _ => rfl
 | 8, _ => rfl
 | j + 11, _ => rfl
theorem Z7c (T : Tk) (hc : T.ts.length ≤ T.cap) (b : Nat) (ts : List T3) (hts : ts <:+ T.ts) (e : Ps Ex) (exprDn : ∀ {us : List T3} {z : Ex × List T3}, e us = some z → z.2 <:+ us) (hex : ∀ us, us <:+ T.ts → us.length < ts.length → CallP Tryz.prog ZH [PB T b (us)] [T.G, AF] [.is (.pointer (some ⟨b, 0, none⟩))] (e (us) = none) flt (fun z : Ex × List T3 => e (us) = some z) (fun z => [PB T b z.2]) (fun z => .rep (ExR z.1))) : CallP Tryz.prog Z75 [PB T b ts] [T.G, AF] [.is (.pointer (some ⟨b, 0, none⟩))] (kwP e ts = none) flt (fun z : Ex × List T3 => kwP e ts = some z) (fun z => [PB T b z.2]) (fun z => .rep (ExR z.1)) :=
CallP.of (fn := Tryz.f194) Tryz.func194 (n := 53) rfl rfl rfl (fun _ _ => by kernel_rfl) fun E W hb0 => by
 refine vQ ?_
 refine JO.alloc Z13 rfl fun b2 => ?_
 refine vP [0, 2] ?_
 refine Jm rfl ?_
 refine JO.callPK (Lr := [_]) (Z1x T hc b ts hts 1) rfl (.swap _ _ _) qF qA (fun hbad => ?_) ?_
 · exact JX.pnI (by unfold kwP; rw [hbad]; rfl)
 rintro ⟨⟨k1, w, n1⟩, r1⟩ hz1
 refine vD ?_
 refine Jq (Z4y (off := 1) qK rfl rfl) ?_
 refine Ja rfl ?_
 refine vP [0, 2, 3] ?_
 refine Jm rfl ?_
 refine vS [0, 2, 3, 8] ?_
 apply yk
 refine vQ ?_
 refine Jq (Z38 rfl rfl) ?_
 refine Ja rfl ?_
 refine vS [0, 2, 3, 8, 9] ?_
 refine yC rfl (fun ht9 => ?_) (fun ht9 => ?_)
 try simp only [yd, yf] at ht9
 refine vQ ?_
 refine Jq (ZB (cs := [_, _, _]) Z4q (.cons rfl (.cons rfl .nil)) rfl rfl) ?_
 refine Jq (ZL rfl (Z3u 2 1 em) qA) ?_
 refine JO.m (Z3 rfl rfl qU qC qO Zq) (by rfl) ?_
 refine vS [2] ?_
 refine vR ?_
 refine JX.toP ?_
 exact JX.retLCs (Lr := [_]) (L1 := fun z : Ex × List T3 => [PB T b z.2]) (R := fun z => .rep (ExR z.1)) rfl (lit 2 1 em, r1) (by unfold kwP; rw [hz1]; simp only [Option.bind_some]; rw [if_pos (Z3G ht9)]) (.refl _) rfl rfl hb0 rfl Za HasOwn.mem Z1J (Sub.refl _)
 try simp only [yd, yf] at ht9
 have hT := Z6L ht9
 refine vQ ?_
 refine Jq (Z38 rfl rfl) ?_
 refine Ja rfl ?_
 refine vS [0, 2, 3, 8, 13] ?_
 refine yC rfl (fun ht13 => ?_) (fun ht13 => ?_)
 try simp only [yd, yf] at ht13
 refine vQ ?_
 refine Jq (ZB (cs := [_, _, _]) Z4q (.cons rfl .nil) rfl rfl) ?_
 refine Jq (ZL rfl (Z3u 2 0 em) qA) ?_
 refine JO.m (Z3 rfl rfl qU qC qO Zq) (by rfl) ?_
 refine vS [2] ?_
 refine vR ?_
 refine JX.toP ?_
 exact JX.retLCs (Lr := [_]) (L1 := fun z : Ex × List T3 => [PB T b z.2]) (R := fun z => .rep (ExR z.1)) rfl (lit 2 0 em, r1) (by unfold kwP; rw [hz1]; simp only [Option.bind_some]; rw [if_neg hT, if_pos (Z3G ht13)]) (.refl _) rfl rfl hb0 rfl Za HasOwn.mem Z1J (Sub.refl _)
 try simp only [yd, yf] at ht13
 have hF := Z6L ht13
 refine vQ ?_
 refine Jq (Z38 rfl rfl) ?_
 refine Ja rfl ?_
 refine vS [0, 2, 3, 8, 17] ?_
 refine yC rfl (fun ht17 => ?_) (fun ht17 => ?_)
 try simp only [yd, yf] at ht17
 refine vQ ?_
 refine Jq (ZB (cs := [_, _, _]) Z4q .nil rfl rfl) ?_
 refine Jq (ZL rfl (Z3u 0 0 em) qA) ?_
 refine JO.m (Z3 rfl rfl qU qC qO Zq) (by rfl) ?_
 refine vS [2] ?_
 refine vR ?_
 refine JX.toP ?_
 exact JX.retLCs (Lr := [_]) (L1 := fun z : Ex × List T3 => [PB T b z.2]) (R := fun z => .rep (ExR z.1)) rfl (lit 0 0 em, r1) (by unfold kwP; rw [hz1]; simp only [Option.bind_some]; rw [if_neg hT, if_neg hF, if_pos (Z3G ht17)]) (.refl _) rfl rfl hb0 rfl Za HasOwn.mem Z1J (Sub.refl _)
 try simp only [yd, yf] at ht17
 have hN := Z6L ht17
 refine vQ ?_
 refine Jq (Z38 rfl rfl) ?_
 refine Ja rfl ?_
 refine vS [0, 2, 3, 8, 21] ?_
 first|apply J.or [0, 2, 3] rfl (.cons rfl (.cons rfl (.cons rfl .nil)))|apply J.orN [0, 2, 3] rfl qS
 · intro ht21
   refine vQ ?_
   refine Jq (Z38 rfl rfl) ?_
   refine Ja rfl ?_
   apply yI
   refine JX.next ?_
   apply J.orT [0, 2, 3] rfl qS
   · intro ht21
     refine vQ ?_
     refine Jq (Z38 rfl rfl) ?_
     refine Ja rfl ?_
     apply yI
     refine JX.next ?_
     apply J.orT [0, 2, 3] rfl qS
     · intro ht21
       refine vQ ?_
       refine Jq (Z38 rfl rfl) ?_
       refine Ja rfl ?_
       apply yI
       exact JX.mids [21, 0, 2, 3] qS
 repeat apply yQ
 refine yC rfl (fun ht21 => ?_) (fun ht21 => ?_)
 try simp only [yd, yf] at ht21
 obtain ⟨q, hq⟩ := aggY ht21
 refine vQ ?_
 refine Jm rfl (Jm rfl ?_)
 refine JO.callK (Lr := [_]) (Ze T hc b r1 ((ZP 1 _ _ hz1).1.trans hts) s_lp) rfl (.refl _) qF qA ?_
 intro _ _
 refine vD ?_
 refine JO.callPK (Lr := _) (Zb (.pointer (some ⟨b, 0, none⟩)) (isT 5 s_lp r1)) rfl (Z1k _) Z19 qA (fun hbad => ?_) ?_
 · exact JX.pnI (by unfold kwP; rw [hz1]; simp only [Option.bind_some]; rw [if_neg hT, if_neg hF, if_neg hN, hq]; dsimp only; rw [wantN hbad]; rfl)
 intro _ hlp
 refine vD ?_
 refine vS [0, 2, 3] ?_
 rw [ZU hlp]
 refine vQ ?_
 refine Jq (Ob.im (ZB (cs := [_, _, _, _, _, _, _, _]) Z6l (.cons rfl .nil) rfl rfl) (Sub.leaf (k := 20) (vk := 0) (vn := 0) (vs := em) (tb := em) (nm := em) (sl := 0))) ?_
 refine JO.alloc Z13 rfl fun b4 => ?_
 refine JO.m (Z3 rfl rfl qU qC qO Zq) (by rfl) ?_
 refine vS [0, 2, 3, 4] ?_
 rcases Bool.eq_false_or_eq_true (seq w Z3L) with hcnt | hcnt
 refine vQ ?_
 refine Jm rfl (Jq (Zdy (cc := false) rfl rfl (by rw [hcnt]; rfl)) ?_)
 refine Jm rfl ?_
 refine JO.gd rfl rfl rfl ?_
 refine Jm rfl ?_
 refine JO.gd rfl rfl rfl ?_
 refine JO.callK (Lr := [_, _]) (Ze T hc b r1.tail (Zm ((ZP 1 _ _ hz1).1.trans hts)) Z14) rfl (.swap _ _ _) qF qA ?_
 intro _ _
 refine vD ?_
 refine JO.gd rfl rfl rfl ?_
 refine Jq (Z6p rfl) ?_
 refine Jq (ZdO rfl rfl) ?_
 refine vS [0, 2, 3, 4, 37] ?_
 refine yC rfl (fun ht37 => ?_) (fun ht37 => ?_)
 try have hst : isT 5 Z14 r1.tail = false := by simpa using ht37
 try rw [ZZ hst]
 refine J.has (L' := [PB T b r1.tail, ⟨b4, Z6, .rep (ExR (nd 20 []))⟩, ⟨b2, Z6, .is (.agg #[.int .i64 0, .int .i64 0, .int .i64 0, .string ⟨#[]⟩, .string ⟨#[]⟩, .string ⟨#[]⟩, .int .i64 0, .slice none 0 0])⟩]) (by repeat (first|exact .all|exact .nil|refine Has.cons (by repeat (first|exact .here|apply Pk.past|apply Pk.there)) ?_)) ?_
 repeat apply yQ
 refine J.regMach (Bad := e r1.tail = none) (ch := flt) 11 (KwS.L T b (r1.tail) [⟨b4, Z6, .rep (ExR (nd 20 []))⟩, ⟨b2, Z6, .is (.agg #[.int .i64 0, .int .i64 0, .int .i64 0, .string ⟨#[]⟩, .string ⟨#[]⟩, .string ⟨#[]⟩, .int .i64 0, .slice none 0 0])⟩]) (KwS.T b w q) (KwS.inv e (r1.tail)) (fun i => decide (i < 5) || i == 9) ⟨⟨none, [], 0⟩, none⟩ rfl ?_ (fun hbad => ?_) hmx qK rfl qK ?_ ?_ ?_
 · exact ⟨.start (fun j => by rw [Array.getD_eq_getD_getElem?, Array.getElem?_replicate]; split <;> rfl), (fun h => by cases h), rfl, (fun z h => by cases h), (fun h => by cases h)⟩
 · exact JX.pnI (by first|(unfold kwP; rw [hz1]; simp only [Option.bind_some]; rw [if_neg hT, if_neg hF, if_neg hN, hq]; dsimp only; rw [wantY hlp]; simp only [Option.bind_some]; rw [Z3G hcnt, hst]; simp only [Bool.true_and, Bool.false_eq_true, if_false]; rw [hbad]; rfl)|(unfold kwP; rw [hz1]; simp only [Option.bind_some]; rw [if_neg hT, if_neg hF, if_neg hN, hq]; dsimp only; rw [wantY hlp]; simp only [Option.bind_some]; rw [if_neg (by rw [Bool.and_eq_true]; exact fun h => Z6L hcnt h.1)]; rw [hbad]; rfl))
 · intro s D i o hs hinv hA hbg hd hr
   match i, hA, hbg, hd, hr with
   | 0, _, hbg, _, _ => exact absurd hbg qD
   | 1, _, hbg, _, _ => exact absurd hbg qD
   | 2, _, hbg, _, _ => exact absurd hbg qD
   | 3, _, hbg, _, _ => exact absurd hbg qD
   | 4, _, hbg, _, _ => exact absurd hbg qD
   | 5, hA, _, hd, hr =>
     obtain rfl := Option.some.inj hA
     have h9 := hinv.other (i := 5) qM qD qD (fun _ j hj => by
       match j, hj with
       | 0, _ => exact hr _ rfl ⟨0, .data⟩ (by simp) rfl
       | 1, _ => exact hr _ rfl ⟨1, .data⟩ (by simp) rfl
       | 2, _ => exact hr _ rfl ⟨2, .data⟩ (by simp) rfl
       | 3, _ => exact hr _ rfl ⟨3, .data⟩ (by simp) rfl
       | 4, _ => exact hr _ rfl ⟨4, .data⟩ (by simp) rfl) (fun h => by cases h)
     exact ⟨h9, rfl, (Z2 rfl)⟩
   | 6, hA, _, hd, hr =>
     obtain rfl := Option.some.inj hA
     exact ⟨hinv.other qM qD qD (fun h => by cases h) (fun h => by cases h), rfl, (Z2 rfl)⟩
   | 7, hA, _, hd, hr =>
     obtain rfl := Option.some.inj hA
     have hall := hinv.f (hr _ rfl ⟨5, .data⟩ (by simp) rfl)
     refine ⟨hinv.other qM qD qD (fun h => by cases h) (fun h => by cases h), rfl, ?_⟩
     obtain ⟨j, hj4, hj⟩ := Zfp hq
     have hget := hinv.m.get Z6i hj (hall (j + 1) qM)
     obtain ⟨r, hr0⟩ := hinv.m.some_ (hall 0 qD)
     obtain ⟨⟨mp, es, n⟩, zo⟩ := s
     dsimp only at hr0; subst hr0
     exact Zfl Z1n Zv Zhu rfl rfl (List.mem_cons_of_mem _ List.mem_cons_self) (by dsimp only at hget; rw [hget]; rfl)
   | 8, hA, _, hd, hr =>
     obtain rfl := Option.some.inj hA
     exact ⟨hinv.other qM qD qD (fun h => by cases h) (fun h => by cases h), rfl, (Z2 rfl)⟩
   | 9, _, hbg, _, _ => exact absurd hbg qD
   | 10, hA, _, hd, hr =>
     obtain rfl := Option.some.inj hA
     exact ⟨hinv.other qM qD qD (fun h => by cases h) (fun _ => hr _ rfl ⟨9, .data⟩ (by simp) rfl), rfl, (Z48 ZT rfl)⟩
   | i + 11, hA, _, hd, hr => simp at hA
 · intro s D i o hs hinv hA hbg hd hr
   match i, hA, hbg, hd, hr with
   | 0, hA, _, hd, hr =>
     obtain rfl := Option.some.inj hA
     obtain ⟨⟨mp, es, n⟩, zo⟩ := s
     have hmp : mp = none := by
       have := hinv.m.a
       dsimp only at this
       rw [hd] at this
       cases mp with
       | none => rfl
       | some r => cases this
     subst hmp
     have h5 : D.getD 5 false = false := by
       cases h : D.getD 5 false with
       | false => rfl
       | true => have := hinv.f h 0 qD; rw [hd] at this; cases this
     exact ⟨rfl, .inl (Zcs.to (fun r => ⟨⟨⟨some r, [], 0⟩, zo⟩, hinv.make qM hd r, fun j hj => kwT0 h5 hd hj⟩) (fun _ => rfl) (fun _ => .swap _ _ _))⟩
   | 1, hA, _, hd, hr =>
     obtain rfl := Option.some.inj hA
     obtain ⟨⟨mp, es, n⟩, zo⟩ := s
     obtain ⟨r, hr0⟩ := hinv.m.some_ (hr _ rfl ⟨0, .data⟩ (by simp) rfl)
     dsimp only at hr0; subst hr0
     have hg := hinv.m.fresh Z6i (j := 0) rfl hd
     have hi := hinv.ins (j := 0) qM rfl qD hd (hr _ rfl ⟨0, .data⟩ (by simp) rfl)
     exact ⟨rfl, .inl ((BigOb.ofM (Z21 Z1n Zv rfl rfl rfl hg (.there .here)) rfl).to (fun _ => ⟨_, hi, fun j hj => rfl⟩) (fun _ => rfl) (fun _ => .refl _))⟩
   | 2, hA, _, hd, hr =>
     obtain rfl := Option.some.inj hA
     obtain ⟨⟨mp, es, n⟩, zo⟩ := s
     obtain ⟨r, hr0⟩ := hinv.m.some_ (hr _ rfl ⟨0, .data⟩ (by simp) rfl)
     dsimp only at hr0; subst hr0
     have hg := hinv.m.fresh Z6i (j := 1) rfl hd
     have hi := hinv.ins (j := 1) qM rfl qD hd (hr _ rfl ⟨0, .data⟩ (by simp) rfl)
     exact ⟨rfl, .inl ((BigOb.ofM (Z21 Z1n Zv rfl rfl rfl hg (.there .here)) rfl).to (fun _ => ⟨_, hi, fun j hj => rfl⟩) (fun _ => rfl) (fun _ => .refl _))⟩
   | 3, hA, _, hd, hr =>
     obtain rfl := Option.some.inj hA
     obtain ⟨⟨mp, es, n⟩, zo⟩ := s
     obtain ⟨r, hr0⟩ := hinv.m.some_ (hr _ rfl ⟨0, .data⟩ (by simp) rfl)
     dsimp only at hr0; subst hr0
     have hg := hinv.m.fresh Z6i (j := 2) rfl hd
     have hi := hinv.ins (j := 2) qM rfl qD hd (hr _ rfl ⟨0, .data⟩ (by simp) rfl)
     exact ⟨rfl, .inl ((BigOb.ofM (Z21 Z1n Zv rfl rfl rfl hg (.there .here)) rfl).to (fun _ => ⟨_, hi, fun j hj => rfl⟩) (fun _ => rfl) (fun _ => .refl _))⟩
   | 4, hA, _, hd, hr =>
     obtain rfl := Option.some.inj hA
     obtain ⟨⟨mp, es, n⟩, zo⟩ := s
     obtain ⟨r, hr0⟩ := hinv.m.some_ (hr _ rfl ⟨0, .data⟩ (by simp) rfl)
     dsimp only at hr0; subst hr0
     have hg := hinv.m.fresh Z6i (j := 3) rfl hd
     have hi := hinv.ins (j := 3) qM rfl qD hd (hr _ rfl ⟨0, .data⟩ (by simp) rfl)
     exact ⟨rfl, .inl ((BigOb.ofM (Z21 Z1n Zv rfl rfl rfl hg (.there .here)) rfl).to (fun _ => ⟨_, hi, fun j hj => rfl⟩) (fun _ => rfl) (fun _ => .refl _))⟩
   | 5, _, hbg, _, _ => exact absurd hbg qD
   | 6, _, hbg, _, _ => exact absurd hbg qD
   | 7, _, hbg, _, _ => exact absurd hbg qD
   | 8, _, hbg, _, _ => exact absurd hbg qD
   | 9, hA, _, hd, hr =>
     obtain rfl := Option.some.inj hA
     obtain ⟨m, zo⟩ := s
     have hzo : zo = none := by
       have := hinv.z
       dsimp only at this
       rw [hd] at this
       cases zo with
       | none => rfl
       | some r => cases this
     subst hzo
     have h10 : D.getD 10 false = false := by
       cases h : D.getD 10 false with
       | false => rfl
       | true => have := hinv.g h; rw [hd] at this; cases this
     exact ⟨rfl, .inr ((Z6r rfl (hex r1.tail (Zm ((ZP 1 _ _ hz1).1.trans hts)) (by have := (Zz hlp).2; have h1 : r1.length < ts.length := (ZP 1 _ _ hz1).2; omega)) (.refl _) qF qA).to (fun z => ⟨⟨m, some z.1⟩, hinv.call qM z.2, fun j hj => kwT9 h10 hd hj⟩) (fun _ => rfl) (fun _ => .refl _))⟩
   | 10, _, hbg, _, _ => exact absurd hbg qD
   | i + 11, hA, _, hd, hr => simp at hA
 intro s D hs hall hinv
 obtain ⟨⟨mp, es, n⟩, zo⟩ := s
 obtain ⟨r, hr0⟩ := hinv.m.some_ (hall 0 qD)
 dsimp only at hr0; subst hr0
 have hzz := hinv.z
 rw [hall 9 qD] at hzz
 obtain ⟨z, hzo⟩ := Option.isSome_iff_exists.1 hzz.symm
 dsimp only at hzo; subst hzo
 have hzr : e (r1.tail) = some z := hinv.r z rfl
 refine JO.subL (L' := [PB T b z.2] ++ (⟨r, 0, .ob (sObj es n)⟩ :: [⟨b4, Z6, .rep (ExR (nd 20 []))⟩, ⟨b2, Z6, .is (.agg #[.int .i64 0, .int .i64 0, .int .i64 0, .string ⟨#[]⟩, .string ⟨#[]⟩, .string ⟨#[]⟩, .int .i64 0, .slice none 0 0])⟩])) (.refl _) ?_
 refine vD ?_
 refine Jq (ZL rfl (Z2J q [z.1]) qA) ?_
 refine JO.m (Z3 rfl rfl qU qC qO Zq) (by rfl) ?_
 refine vS [0, 2, 4] ?_
 first|(refine J.has (L' := [PB T b z.2, ⟨b4, Z6, .rep (ExR (nd q [z.1]))⟩, ⟨b2, Z6, .is (.agg #[.int .i64 0, .int .i64 0, .int .i64 0, .string ⟨#[]⟩, .string ⟨#[]⟩, .string ⟨#[]⟩, .int .i64 0, .slice none 0 0])⟩]) (by repeat (first|exact .all|exact .nil|refine Has.cons (by repeat (first|exact .here|apply Pk.past|apply Pk.there)) ?_)) ?_; have husx := (exprDn hzr).trans (Zm ((ZP 1 _ _ hz1).1.trans hts)))|(have hst : isT 5 Z14 r1.tail = true := (by simpa using ht37); rw [ZU hst]; have husx := Zm (Zm ((ZP 1 _ _ hz1).1.trans hts)))
 refine vQ ?_
 refine Jm rfl (Jm rfl ?_)
 refine JO.callK (Lr := [_, _]) (Ze T hc b _ husx s_rp) rfl (.refl _) qF qA ?_
 intro _ _
 refine vD ?_
 refine JO.callPK (Lr := _) (Zb (.pointer (some ⟨b, 0, none⟩)) (isT 5 s_rp _)) rfl (Z1k _) Z19 qA (fun hbad => ?_) ?_
 · exact JX.pnI (by first|(unfold kwP; rw [hz1]; simp only [Option.bind_some]; rw [if_neg hT, if_neg hF, if_neg hN, hq]; dsimp only; rw [wantY hlp]; simp only [Option.bind_some]; rw [Z3G hcnt, hst]; simp only [Bool.true_and, if_true]; rw [wantN hbad]; rfl)|(first|(unfold kwP; rw [hz1]; simp only [Option.bind_some]; rw [if_neg hT, if_neg hF, if_neg hN, hq]; dsimp only; rw [wantY hlp]; simp only [Option.bind_some]; rw [Z3G hcnt, hst]; simp only [Bool.true_and, Bool.false_eq_true, if_false]; rw [hzr]; simp only [Option.bind_some]; rw [wantN hbad]; rfl)|(unfold kwP; rw [hz1]; simp only [Option.bind_some]; rw [if_neg hT, if_neg hF, if_neg hN, hq]; dsimp only; rw [wantY hlp]; simp only [Option.bind_some]; rw [if_neg (by rw [Bool.and_eq_true]; exact fun h => Z6L hcnt h.1)]; rw [hzr]; simp only [Option.bind_some]; rw [wantN hbad]; rfl)))
 intro _ hrp
 refine vD ?_
 refine vS [2, 4] ?_
 rw [ZU hrp]
 refine vQ ?_
 refine Jq (Z2S Za rfl) ?_
 refine JO.m (Z3 rfl rfl qU qC qO Zq) (by rfl) ?_
 refine vS [2] ?_
 refine vR ?_
 refine JX.toP ?_
 exact JX.retLCs (Lr := [_, _]) (L1 := fun z : Ex × List T3 => [PB T b z.2]) (R := fun z => .rep (ExR z.1)) rfl (nd q [z.1], z.2.tail) (by unfold kwP; rw [hz1]; simp only [Option.bind_some]; rw [if_neg hT, if_neg hF, if_neg hN, hq]; dsimp only; rw [wantY hlp]; simp only [Option.bind_some]; rw [Z3G hcnt, hst]; simp only [Bool.true_and, Bool.false_eq_true, if_false]; rw [hzr]; simp only [Option.bind_some]; rw [wantY hrp]; rfl) (.refl _) rfl rfl hb0 rfl Za HasOwn.mem Z1J (Sub.refl _)
 apply yK
 repeat first|apply yX|apply yB
 first|(refine J.has (L' := [PB T b z.2, ⟨b4, Z6, .rep (ExR (nd q [z.1]))⟩, ⟨b2, Z6, .is (.agg #[.int .i64 0, .int .i64 0, .int .i64 0, .string ⟨#[]⟩, .string ⟨#[]⟩, .string ⟨#[]⟩, .int .i64 0, .slice none 0 0])⟩]) (by repeat (first|exact .all|exact .nil|refine Has.cons (by repeat (first|exact .here|apply Pk.past|apply Pk.there)) ?_)) ?_; have husx := (exprDn hzr).trans (Zm ((ZP 1 _ _ hz1).1.trans hts)))|(have hst : isT 5 Z14 r1.tail = true := (by simpa using ht37); rw [ZU hst]; have husx := Zm (Zm ((ZP 1 _ _ hz1).1.trans hts)))
 refine vQ ?_
 refine Jm rfl (Jm rfl ?_)
 refine JO.callK (Lr := [_, _]) (Ze T hc b _ husx s_rp) rfl (.refl _) qF qA ?_
 intro _ _
 refine vD ?_
 refine JO.callPK (Lr := _) (Zb (.pointer (some ⟨b, 0, none⟩)) (isT 5 s_rp _)) rfl (Z1k _) Z19 qA (fun hbad => ?_) ?_
 · exact JX.pnI (by first|(unfold kwP; rw [hz1]; simp only [Option.bind_some]; rw [if_neg hT, if_neg hF, if_neg hN, hq]; dsimp only; rw [wantY hlp]; simp only [Option.bind_some]; rw [Z3G hcnt, hst]; simp only [Bool.true_and, if_true]; rw [wantN hbad]; rfl)|(first|(unfold kwP; rw [hz1]; simp only [Option.bind_some]; rw [if_neg hT, if_neg hF, if_neg hN, hq]; dsimp only; rw [wantY hlp]; simp only [Option.bind_some]; rw [Z3G hcnt, hst]; simp only [Bool.true_and, Bool.false_eq_true, if_false]; rw [hzr]; simp only [Option.bind_some]; rw [wantN hbad]; rfl)|(unfold kwP; rw [hz1]; simp only [Option.bind_some]; rw [if_neg hT, if_neg hF, if_neg hN, hq]; dsimp only; rw [wantY hlp]; simp only [Option.bind_some]; rw [if_neg (by rw [Bool.and_eq_true]; exact fun h => Z6L hcnt h.1)]; rw [hzr]; simp only [Option.bind_some]; rw [wantN hbad]; rfl)))
 intro _ hrp
 refine vD ?_
 refine vS [2, 4] ?_
 rw [ZU hrp]
 refine vQ ?_
 refine Jq (Z2S Za rfl) ?_
 refine JO.m (Z3 rfl rfl qU qC qO Zq) (by rfl) ?_
 refine vS [2] ?_
 refine vR ?_
 refine JX.toP ?_
 exact JX.retLCs (Lr := [_, _]) (L1 := fun z : Ex × List T3 => [PB T b z.2]) (R := fun z => .rep (ExR z.1)) rfl (nd 20 [], r1.tail.tail.tail) (by unfold kwP; rw [hz1]; simp only [Option.bind_some]; rw [if_neg hT, if_neg hF, if_neg hN, hq]; dsimp only; rw [wantY hlp]; simp only [Option.bind_some]; rw [Z3G hcnt, hst]; simp only [Bool.true_and, if_true]; rw [wantY hrp]; rfl) (.refl _) rfl rfl hb0 rfl Za HasOwn.mem Z1J (Sub.refl _)
 refine vQ ?_
 refine Jm rfl (Jq (Zdy (cc := true) rfl rfl (by rw [hcnt]; rfl)) ?_)
 refine Jm rfl ?_
 refine JO.gn rfl rfl rfl rfl rfl ?_
 refine JO.gn rfl rfl rfl rfl rfl ?_
 refine JO.gn rfl rfl rfl rfl rfl ?_
 refine Jq (Ze7 rfl rfl) ?_
 refine vS [0, 2, 3, 4, 37] ?_
 refine yC rfl (fun ht37 => ?_) (fun ht37 => ?_)
 try simp only [yd, yf] at ht37
 try have hst : isT 5 Z14 r1.tail = false := by simpa using ht37
 refine J.has (L' := [PB T b r1.tail, ⟨b4, Z6, .rep (ExR (nd 20 []))⟩, ⟨b2, Z6, .is (.agg #[.int .i64 0, .int .i64 0, .int .i64 0, .string ⟨#[]⟩, .string ⟨#[]⟩, .string ⟨#[]⟩, .int .i64 0, .slice none 0 0])⟩]) (by repeat (first|exact .all|exact .nil|refine Has.cons (by repeat (first|exact .here|apply Pk.past|apply Pk.there)) ?_)) ?_
 repeat apply yQ
 refine J.regMach (Bad := e r1.tail = none) (ch := flt) 11 (KwS.L T b (r1.tail) [⟨b4, Z6, .rep (ExR (nd 20 []))⟩, ⟨b2, Z6, .is (.agg #[.int .i64 0, .int .i64 0, .int .i64 0, .string ⟨#[]⟩, .string ⟨#[]⟩, .string ⟨#[]⟩, .int .i64 0, .slice none 0 0])⟩]) (KwS.T b w q) (KwS.inv e (r1.tail)) (fun i => decide (i < 5) || i == 9) ⟨⟨none, [], 0⟩, none⟩ rfl ?_ (fun hbad => ?_) hmx qK rfl qK ?_ ?_ ?_
 · exact ⟨.start (fun j => by rw [Array.getD_eq_getD_getElem?, Array.getElem?_replicate]; split <;> rfl), (fun h => by cases h), rfl, (fun z h => by cases h), (fun h => by cases h)⟩
 · exact JX.pnI (by first|(unfold kwP; rw [hz1]; simp only [Option.bind_some]; rw [if_neg hT, if_neg hF, if_neg hN, hq]; dsimp only; rw [wantY hlp]; simp only [Option.bind_some]; rw [Z3G hcnt, hst]; simp only [Bool.true_and, Bool.false_eq_true, if_false]; rw [hbad]; rfl)|(unfold kwP; rw [hz1]; simp only [Option.bind_some]; rw [if_neg hT, if_neg hF, if_neg hN, hq]; dsimp only; rw [wantY hlp]; simp only [Option.bind_some]; rw [if_neg (by rw [Bool.and_eq_true]; exact fun h => Z6L hcnt h.1)]; rw [hbad]; rfl))
 · intro s D i o hs hinv hA hbg hd hr
   match i, hA, hbg, hd, hr with
   | 0, _, hbg, _, _ => exact absurd hbg qD
   | 1, _, hbg, _, _ => exact absurd hbg qD
   | 2, _, hbg, _, _ => exact absurd hbg qD
   | 3, _, hbg, _, _ => exact absurd hbg qD
   | 4, _, hbg, _, _ => exact absurd hbg qD
   | 5, hA, _, hd, hr =>
     obtain rfl := Option.some.inj hA
     have h9 := hinv.other (i := 5) qM qD qD (fun _ j hj => by
       match j, hj with
       | 0, _ => exact hr _ rfl ⟨0, .data⟩ (by simp) rfl
       | 1, _ => exact hr _ rfl ⟨1, .data⟩ (by simp) rfl
       | 2, _ => exact hr _ rfl ⟨2, .data⟩ (by simp) rfl
       | 3, _ => exact hr _ rfl ⟨3, .data⟩ (by simp) rfl
       | 4, _ => exact hr _ rfl ⟨4, .data⟩ (by simp) rfl) (fun h => by cases h)
     exact ⟨h9, rfl, (Z2 rfl)⟩
   | 6, hA, _, hd, hr =>
     obtain rfl := Option.some.inj hA
     exact ⟨hinv.other qM qD qD (fun h => by cases h) (fun h => by cases h), rfl, (Z2 rfl)⟩
   | 7, hA, _, hd, hr =>
     obtain rfl := Option.some.inj hA
     have hall := hinv.f (hr _ rfl ⟨5, .data⟩ (by simp) rfl)
     refine ⟨hinv.other qM qD qD (fun h => by cases h) (fun h => by cases h), rfl, ?_⟩
     obtain ⟨j, hj4, hj⟩ := Zfp hq
     have hget := hinv.m.get Z6i hj (hall (j + 1) qM)
     obtain ⟨r, hr0⟩ := hinv.m.some_ (hall 0 qD)
     obtain ⟨⟨mp, es, n⟩, zo⟩ := s
     dsimp only at hr0; subst hr0
     exact Zfl Z1n Zv Zhu rfl rfl (List.mem_cons_of_mem _ List.mem_cons_self) (by dsimp only at hget; rw [hget]; rfl)
   | 8, hA, _, hd, hr =>
     obtain rfl := Option.some.inj hA
     exact ⟨hinv.other qM qD qD (fun h => by cases h) (fun h => by cases h), rfl, (Z2 rfl)⟩
   | 9, _, hbg, _, _ => exact absurd hbg qD
   | 10, hA, _, hd, hr =>
     obtain rfl := Option.some.inj hA
     exact ⟨hinv.other qM qD qD (fun h => by cases h) (fun _ => hr _ rfl ⟨9, .data⟩ (by simp) rfl), rfl, (Z48 ZT rfl)⟩
   | i + 11, hA, _, hd, hr => simp at hA
 · intro s D i o hs hinv hA hbg hd hr
   match i, hA, hbg, hd, hr with
   | 0, hA, _, hd, hr =>
     obtain rfl := Option.some.inj hA
     obtain ⟨⟨mp, es, n⟩, zo⟩ := s
     have hmp : mp = none := by
       have := hinv.m.a
       dsimp only at this
       rw [hd] at this
       cases mp with
       | none => rfl
       | some r => cases this
     subst hmp
     have h5 : D.getD 5 false = false := by
       cases h : D.getD 5 false with
       | false => rfl
       | true => have := hinv.f h 0 qD; rw [hd] at this; cases this
     exact ⟨rfl, .inl (Zcs.to (fun r => ⟨⟨⟨some r, [], 0⟩, zo⟩, hinv.make qM hd r, fun j hj => kwT0 h5 hd hj⟩) (fun _ => rfl) (fun _ => .swap _ _ _))⟩
   | 1, hA, _, hd, hr =>
     obtain rfl := Option.some.inj hA
     obtain ⟨⟨mp, es, n⟩, zo⟩ := s
     obtain ⟨r, hr0⟩ := hinv.m.some_ (hr _ rfl ⟨0, .data⟩ (by simp) rfl)
     dsimp only at hr0; subst hr0
     have hg := hinv.m.fresh Z6i (j := 0) rfl hd
     have hi := hinv.ins (j := 0) qM rfl qD hd (hr _ rfl ⟨0, .data⟩ (by simp) rfl)
     exact ⟨rfl, .inl ((BigOb.ofM (Z21 Z1n Zv rfl rfl rfl hg (.there .here)) rfl).to (fun _ => ⟨_, hi, fun j hj => rfl⟩) (fun _ => rfl) (fun _ => .refl _))⟩
   | 2, hA, _, hd, hr =>
     obtain rfl := Option.some.inj hA
     obtain ⟨⟨mp, es, n⟩, zo⟩ := s
     obtain ⟨r, hr0⟩ := hinv.m.some_ (hr _ rfl ⟨0, .data⟩ (by simp) rfl)
     dsimp only at hr0; subst hr0
     have hg := hinv.m.fresh Z6i (j := 1) rfl hd
     have hi := hinv.ins (j := 1) qM rfl qD hd (hr _ rfl ⟨0, .data⟩ (by simp) rfl)
     exact ⟨rfl, .inl ((BigOb.ofM (Z21 Z1n Zv rfl rfl rfl hg (.there .here)) rfl).to (fun _ => ⟨_, hi, fun j hj => rfl⟩) (fun _ => rfl) (fun _ => .refl _))⟩
   | 3, hA, _, hd, hr =>
     obtain rfl := Option.some.inj hA
     obtain ⟨⟨mp, es, n⟩, zo⟩ := s
     obtain ⟨r, hr0⟩ := hinv.m.some_ (hr _ rfl ⟨0, .data⟩ (by simp) rfl)
     dsimp only at hr0; subst hr0
     have hg := hinv.m.fresh Z6i (j := 2) rfl hd
     have hi := hinv.ins (j := 2) qM rfl qD hd (hr _ rfl ⟨0, .data⟩ (by simp) rfl)
     exact ⟨rfl, .inl ((BigOb.ofM (Z21 Z1n Zv rfl rfl rfl hg (.there .here)) rfl).to (fun _ => ⟨_, hi, fun j hj => rfl⟩) (fun _ => rfl) (fun _ => .refl _))⟩
   | 4, hA, _, hd, hr =>
     obtain rfl := Option.some.inj hA
     obtain ⟨⟨mp, es, n⟩, zo⟩ := s
     obtain ⟨r, hr0⟩ := hinv.m.some_ (hr _ rfl ⟨0, .data⟩ (by simp) rfl)
     dsimp only at hr0; subst hr0
     have hg := hinv.m.fresh Z6i (j := 3) rfl hd
     have hi := hinv.ins (j := 3) qM rfl qD hd (hr _ rfl ⟨0, .data⟩ (by simp) rfl)
     exact ⟨rfl, .inl ((BigOb.ofM (Z21 Z1n Zv rfl rfl rfl hg (.there .here)) rfl).to (fun _ => ⟨_, hi, fun j hj => rfl⟩) (fun _ => rfl) (fun _ => .refl _))⟩
   | 5, _, hbg, _, _ => exact absurd hbg qD
   | 6, _, hbg, _, _ => exact absurd hbg qD
   | 7, _, hbg, _, _ => exact absurd hbg qD
   | 8, _, hbg, _, _ => exact absurd hbg qD
   | 9, hA, _, hd, hr =>
     obtain rfl := Option.some.inj hA
     obtain ⟨m, zo⟩ := s
     have hzo : zo = none := by
       have := hinv.z
       dsimp only at this
       rw [hd] at this
       cases zo with
       | none => rfl
       | some r => cases this
     subst hzo
     have h10 : D.getD 10 false = false := by
       cases h : D.getD 10 false with
       | false => rfl
       | true => have := hinv.g h; rw [hd] at this; cases this
     exact ⟨rfl, .inr ((Z6r rfl (hex r1.tail (Zm ((ZP 1 _ _ hz1).1.trans hts)) (by have := (Zz hlp).2; have h1 : r1.length < ts.length := (ZP 1 _ _ hz1).2; omega)) (.refl _) qF qA).to (fun z => ⟨⟨m, some z.1⟩, hinv.call qM z.2, fun j hj => kwT9 h10 hd hj⟩) (fun _ => rfl) (fun _ => .refl _))⟩
   | 10, _, hbg, _, _ => exact absurd hbg qD
   | i + 11, hA, _, hd, hr => simp at hA
 intro s D hs hall hinv
 obtain ⟨⟨mp, es, n⟩, zo⟩ := s
 obtain ⟨r, hr0⟩ := hinv.m.some_ (hall 0 qD)
 dsimp only at hr0; subst hr0
 have hzz := hinv.z
 rw [hall 9 qD] at hzz
 obtain ⟨z, hzo⟩ := Option.isSome_iff_exists.1 hzz.symm
 dsimp only at hzo; subst hzo
 have hzr : e (r1.tail) = some z := hinv.r z rfl
 refine JO.subL (L' := [PB T b z.2] ++ (⟨r, 0, .ob (sObj es n)⟩ :: [⟨b4, Z6, .rep (ExR (nd 20 []))⟩, ⟨b2, Z6, .is (.agg #[.int .i64 0, .int .i64 0, .int .i64 0, .string ⟨#[]⟩, .string ⟨#[]⟩, .string ⟨#[]⟩, .int .i64 0, .slice none 0 0])⟩])) (.refl _) ?_
 refine vD ?_
 refine Jq (ZL rfl (Z2J q [z.1]) qA) ?_
 refine JO.m (Z3 rfl rfl qU qC qO Zq) (by rfl) ?_
 refine vS [0, 2, 4] ?_
 first|(refine J.has (L' := [PB T b z.2, ⟨b4, Z6, .rep (ExR (nd q [z.1]))⟩, ⟨b2, Z6, .is (.agg #[.int .i64 0, .int .i64 0, .int .i64 0, .string ⟨#[]⟩, .string ⟨#[]⟩, .string ⟨#[]⟩, .int .i64 0, .slice none 0 0])⟩]) (by repeat (first|exact .all|exact .nil|refine Has.cons (by repeat (first|exact .here|apply Pk.past|apply Pk.there)) ?_)) ?_; have husx := (exprDn hzr).trans (Zm ((ZP 1 _ _ hz1).1.trans hts)))|(have hst : isT 5 Z14 r1.tail = true := (by simpa using ht37); rw [ZU hst]; have husx := Zm (Zm ((ZP 1 _ _ hz1).1.trans hts)))
 refine vQ ?_
 refine Jm rfl (Jm rfl ?_)
 refine JO.callK (Lr := [_, _]) (Ze T hc b _ husx s_rp) rfl (.refl _) qF qA ?_
 intro _ _
 refine vD ?_
 refine JO.callPK (Lr := _) (Zb (.pointer (some ⟨b, 0, none⟩)) (isT 5 s_rp _)) rfl (Z1k _) Z19 qA (fun hbad => ?_) ?_
 · exact JX.pnI (by first|(unfold kwP; rw [hz1]; simp only [Option.bind_some]; rw [if_neg hT, if_neg hF, if_neg hN, hq]; dsimp only; rw [wantY hlp]; simp only [Option.bind_some]; rw [Z3G hcnt, hst]; simp only [Bool.true_and, if_true]; rw [wantN hbad]; rfl)|(first|(unfold kwP; rw [hz1]; simp only [Option.bind_some]; rw [if_neg hT, if_neg hF, if_neg hN, hq]; dsimp only; rw [wantY hlp]; simp only [Option.bind_some]; rw [Z3G hcnt, hst]; simp only [Bool.true_and, Bool.false_eq_true, if_false]; rw [hzr]; simp only [Option.bind_some]; rw [wantN hbad]; rfl)|(unfold kwP; rw [hz1]; simp only [Option.bind_some]; rw [if_neg hT, if_neg hF, if_neg hN, hq]; dsimp only; rw [wantY hlp]; simp only [Option.bind_some]; rw [if_neg (by rw [Bool.and_eq_true]; exact fun h => Z6L hcnt h.1)]; rw [hzr]; simp only [Option.bind_some]; rw [wantN hbad]; rfl)))
 intro _ hrp
 refine vD ?_
 refine vS [2, 4] ?_
 rw [ZU hrp]
 refine vQ ?_
 refine Jq (Z2S Za rfl) ?_
 refine JO.m (Z3 rfl rfl qU qC qO Zq) (by rfl) ?_
 refine vS [2] ?_
 refine vR ?_
 refine JX.toP ?_
 exact JX.retLCs (Lr := [_, _]) (L1 := fun z : Ex × List T3 => [PB T b z.2]) (R := fun z => .rep (ExR z.1)) rfl (nd q [z.1], z.2.tail) (by unfold kwP; rw [hz1]; simp only [Option.bind_some]; rw [if_neg hT, if_neg hF, if_neg hN, hq]; dsimp only; rw [wantY hlp]; simp only [Option.bind_some]; rw [if_neg (by rw [Bool.and_eq_true]; exact fun h => Z6L hcnt h.1)]; rw [hzr]; simp only [Option.bind_some]; rw [wantY hrp]; rfl) (.refl _) rfl rfl hb0 rfl Za HasOwn.mem Z1J (Sub.refl _)
 exfalso
 cases ht37
 try simp only [yd, yf] at ht21
 apply yK
 refine vN ?_
 apply yN
 refine Jq (ZB (cs := []) Z8z .nil rfl rfl) ?_
 refine Jq (ZdH (d := .struct #[]) qK rfl rfl) ?_
 refine JO.pan rfl ?_
 exact JX.pnI (by unfold kwP; rw [hz1]; simp only [Option.bind_some]; rw [if_neg hT, if_neg hF, if_neg hN, aggN ht21])
theorem Z3Q {e : Ps Ex} {ts : List T3} (h : ts ≠ []) : atomP e ts = if ((ts.headD t3D).k == 3) = true then some (lit 1 (ts.headD t3D).n em, ts.tail) else if ((ts.headD t3D).k == 4) = true then some (lit 3 0 (ts.headD t3D).t, ts.tail) else if ((ts.headD t3D).k == 2) = true then (if isT 5 Z2T ts.tail = true then (nameP ts.tail.tail).map fun z => (.mk 2 0 0 em (ts.headD t3D).t z.1 0 [], z.2) else some (.mk 2 0 0 em em (ts.headD t3D).t 0 [], ts.tail)) else if ((ts.headD t3D).k == 1) = true then kwP e ts else (wantP 5 s_lp ts).bind fun y => (e y.2).bind fun x => (wantP 5 s_rp x.2).map fun v => (x.1, v.2) := by
 cases ts with
 | nil => exact absurd rfl h
 | cons t r => rw [atomP]; rfl
theorem ZeG {ts : List T3} (h : ts ≠ []) (hk : ((ts.headD t3D).k == 2) = true) : nameP ts = some ((ts.headD t3D).t, ts.tail) := by
 cases ts with
 | nil => exact absurd rfl h
 | cons t r => unfold nameP; rw [takeP, if_pos (show (t.k == 2) = true from hk)]; rfl
theorem Z8x (T : Tk) (hc : T.ts.length ≤ T.cap) (b : Nat) (ts : List T3) (hts : ts <:+ T.ts) (e : Ps Ex) (exprDn : ∀ {us : List T3} {z : Ex × List T3}, e us = some z → z.2 <:+ us) (hex : ∀ us, us <:+ T.ts → us.length < ts.length → CallP Tryz.prog ZH [PB T b (us)] [T.G, AF] [.is (.pointer (some ⟨b, 0, none⟩))] (e (us) = none) flt (fun z : Ex × List T3 => e (us) = some z) (fun z => [PB T b z.2]) (fun z => .rep (ExR z.1))) : CallP Tryz.prog Z2O [PB T b ts] [T.G, AF] [.is (.pointer (some ⟨b, 0, none⟩))] (atomP e ts = none) flt (fun z : Ex × List T3 => atomP e ts = some z) (fun z => [PB T b z.2]) (fun z => .rep (ExR z.1)) :=
CallP.of (fn := Tryz.f192) Tryz.func192 (n := 79) rfl rfl rfl (fun _ _ => by kernel_rfl) fun E W hb0 => by
 refine vQ ?_
 refine JO.alloc Z13 rfl fun b2 => ?_
 refine vP [0, 2] ?_
 refine Jm rfl (Jm rfl (Jq (Z5 rfl) ?_))
 refine Jq (Z0 Zk rfl) ?_
 refine Jq (Z1 ZA rfl rfl) ?_
 refine Jq (Zo Z16 rfl) ?_
 refine Jq (Z2i rfl rfl) ?_
 refine JO.callPK (Lr := _) (Zb (.pointer (some ⟨b, 0, none⟩)) _) rfl (Z1k _) Z19 qA (fun hbad => ?_) ?_
 · exact JX.pnI (by cases ts with | nil => rfl | cons t r => simp at hbad)
 intro z hz
 have hne : ts ≠ [] := Z33 hz
 refine vD ?_
 refine vP [0, 2] ?_
 refine Jm rfl (Jq (Z5 rfl) ?_)
 refine Jq (Z0 Zk rfl) ?_
 refine Jq (Z1 ZA rfl rfl) ?_
 refine Jq (Z7 Z17 rfl rfl rfl qM (Z2Q hne)) ?_
 refine Jq (Z2W (enc := T3.cells) (sz := 3) (i := T.k ts) (y := ts.headD t3D) (cs := T3.cells (ts.headD t3D)) Z15 rfl qI rfl (Tk.head hts hne) (by rw [Tk.j_eq hc hts hne]; rfl) rfl) ?_
 refine JO.alloc Z2F rfl fun b3 => ?_
 refine JO.m (Z3 rfl rfl qU qC qO Z1h) (by rfl) ?_
 refine vP [0, 2, 3] ?_
 refine Jq (Z0 Z35 rfl) ?_
 refine Jq (Z1 Zt rfl rfl) ?_
 refine vS [0, 2, 3, 21] ?_
 apply yk
 refine vQ ?_
 refine Jq (ZM rfl rfl) ?_
 refine Ja rfl ?_
 refine vS [0, 2, 3, 21, 22] ?_
 refine yC rfl (fun ht22 => ?_) (fun ht22 => ?_)
 have k3 : ((ts.headD t3D).k == 3) = true := ht22
 refine vQ ?_
 refine Jm rfl (Jm rfl (Jq (Z5 rfl) ?_))
 refine Jq (Z0 Zk rfl) ?_
 refine Jq (Z1 ZA rfl rfl) ?_
 refine Jq (Z6P Z16 Z17 rfl rfl qM (by have := Z2Q hne; omega)) ?_
 refine Jq (Z5 rfl) ?_
 refine Jq (Z0 Zk rfl) ?_
 refine JO.m (Zj (cs' := [_]) rfl rfl qU rfl rfl rfl rfl Z4g) (by rfl) ?_
 refine vP [2, 3] ?_
 refine Jq (Z0 Zc8 rfl) ?_
 refine Jq (Z1 Z5Z rfl rfl) ?_
 refine Jq (ZB (cs := [_, _, _]) Z4q (.cons rfl (.cons rfl .nil)) rfl rfl) ?_
 refine Jq (ZL rfl (Z3u 1 (ts.headD t3D).n em) qA) ?_
 refine JO.m (Z3 rfl rfl qU qC qO Zq) (by rfl) ?_
 refine vS [2] ?_
 refine vR ?_
 refine JX.toP ?_
 exact JX.retLCs (Lr := [_, _]) (L1 := fun z : Ex × List T3 => [PB T b z.2]) (R := fun z => .rep (ExR z.1)) rfl (lit 1 (ts.headD t3D).n em, ts.tail) (by rw [Z3Q hne]; rw [if_pos k3]) (List.Perm.trans (List.perm_append_comm (l₁ := [_, _]) (l₂ := [_])) (.of_eq (congrArg (fun v => Own.mk b Z2M (.is (.agg #[v])) :: [_, _]) (Tk.tail hc hts hne)))) rfl rfl hb0 rfl Za HasOwn.mem Z1J (Sub.refl _)
 have n3 : ¬ ((ts.headD t3D).k == 3) = true := by rw [ht22]; decide
 refine vQ ?_
 refine Jq (ZM rfl rfl) ?_
 refine Ja rfl ?_
 refine vS [0, 2, 3, 21, 36] ?_
 refine yC rfl (fun ht36 => ?_) (fun ht36 => ?_)
 have k4 : ((ts.headD t3D).k == 4) = true := ht36
 refine vQ ?_
 refine Jm rfl (Jm rfl (Jq (Z5 rfl) ?_))
 refine Jq (Z0 Zk rfl) ?_
 refine Jq (Z1 ZA rfl rfl) ?_
 refine Jq (Z6P Z16 Z17 rfl rfl qM (by have := Z2Q hne; omega)) ?_
 refine Jq (Z5 rfl) ?_
 refine Jq (Z0 Zk rfl) ?_
 refine JO.m (Zj (cs' := [_]) rfl rfl qU rfl rfl rfl rfl Z4g) (by rfl) ?_
 refine vP [2, 3] ?_
 refine Jq (Z0 Z5X rfl) ?_
 refine Jq (Z1 Z9 rfl rfl) ?_
 refine Jq (ZB (cs := [_, _, _]) Z4q (.cons rfl (.cons rfl .nil)) rfl rfl) ?_
 refine Jq (ZL rfl (Z3u 3 0 (ts.headD t3D).t) qA) ?_
 refine JO.m (Z3 rfl rfl qU qC qO Zq) (by rfl) ?_
 refine vS [2] ?_
 refine vR ?_
 refine JX.toP ?_
 exact JX.retLCs (Lr := [_, _]) (L1 := fun z : Ex × List T3 => [PB T b z.2]) (R := fun z => .rep (ExR z.1)) rfl (lit 3 0 (ts.headD t3D).t, ts.tail) (by rw [Z3Q hne]; rw [if_neg n3, if_pos k4]) (List.Perm.trans (List.perm_append_comm (l₁ := [_, _]) (l₂ := [_])) (.of_eq (congrArg (fun v => Own.mk b Z2M (.is (.agg #[v])) :: [_, _]) (Tk.tail hc hts hne)))) rfl rfl hb0 rfl Za HasOwn.mem Z1J (Sub.refl _)
 have n4 : ¬ ((ts.headD t3D).k == 4) = true := by rw [ht36]; decide
 refine vQ ?_
 refine Jq (ZM rfl rfl) ?_
 refine Ja rfl ?_
 refine vS [0, 2, 21, 50] ?_
 refine yC rfl (fun ht50 => ?_) (fun ht50 => ?_)
 have k2 : ((ts.headD t3D).k == 2) = true := ht50
 refine vQ ?_
 refine Jm rfl ?_
 refine JO.callPK (Lr := [_, _]) (ZK T hc b ts hts) rfl (List.perm_append_comm (l₁ := [_, _]) (l₂ := [_])) qF qA (fun hbad => ?_) ?_
 · exact JX.pnI (by exact absurd hbad (by rw [ZeG hne k2]; simp))
 intro z1 hz1
 obtain rfl : z1 = ((ts.headD t3D).t, ts.tail) := by rw [ZeG hne k2] at hz1; exact (Option.some.inj hz1).symm
 refine vD ?_
 refine Jq (ZB (cs := [_, _, _, _, _, _, _, _]) Z6l (.cons rfl (.cons rfl .nil)) rfl rfl) ?_
 refine JO.alloc Z13 rfl fun b4 => ?_
 refine JO.m (Z3 rfl rfl qU qC qO Zq) (by rfl) ?_
 refine vP [0, 2, 4] ?_
 refine Jm rfl ?_
 refine JO.callK (Lr := [_, _, _]) (Ze T hc b ts.tail (Zm hts) Z2T) rfl (.swap _ _ _) qF qA ?_
 intro _ _
 refine vD ?_
 refine vS [0, 2, 4, 56] ?_
 refine yC rfl (fun ht56 => ?_) (fun ht56 => ?_)
 have hdt : isT 5 Z2T ts.tail = true := ht56
 rw [ZU hdt]
 repeat apply yQ
 refine J.regBPm (Bad := nameP ts.tail.tail = none) (ch := flt) (G := { z : ByteArray × List T3 // nameP ts.tail.tail = some z }) 3 5 (fun hbad => ?_) (Tg := fun g => .is (.string g.1.1)) (Lg := fun g => [PB T b g.1.2] ++ [⟨b4, Z6, .is (.agg #[.int .i64 2, .int .i64 0, .int .i64 0, .string ⟨#[]⟩, .string ⟨#[]⟩, .string (ts.headD t3D).t, .int .i64 0, .slice none 0 0])⟩, ⟨b3, Z2p, .is (.agg #[.int .i64 (ts.headD t3D).k, .string (ts.headD t3D).t, .int .i64 (ts.headD t3D).n])⟩, ⟨b2, Z6, .is (.agg #[.int .i64 0, .int .i64 0, .int .i64 0, .string ⟨#[]⟩, .string ⟨#[]⟩, .string ⟨#[]⟩, .int .i64 0, .slice none 0 0])⟩]) ([⟨b4, Z6, .is (.agg #[.int .i64 2, .int .i64 0, .int .i64 0, .string ⟨#[]⟩, .string ⟨#[]⟩, .string (ts.headD t3D).t, .int .i64 0, .slice none 0 0])⟩, ⟨b3, Z2p, .is (.agg #[.int .i64 (ts.headD t3D).k, .string (ts.headD t3D).t, .int .i64 (ts.headD t3D).n])⟩, ⟨b2, Z6, .is (.agg #[.int .i64 0, .int .i64 0, .int .i64 0, .string ⟨#[]⟩, .string ⟨#[]⟩, .string ⟨#[]⟩, .int .i64 0, .slice none 0 0])⟩]) rfl rfl rfl rfl hmx qK rfl qK (fun _ h => List.mem_cons_of_mem _ h) (fun g o ho => List.mem_cons_of_mem _ ho) ?_
 · exact JX.pnI (by rw [Z3Q hne]; rw [if_neg n3, if_neg n4, if_pos k2]; rw [if_pos hdt, hbad]; rfl)
 refine yz (Z0 Z3l rfl) ?_
 refine yz (Z1 Z9 rfl rfl) ?_
 refine yz (Z2 rfl) ?_
 refine RT.bigP (Lq := [⟨b4, Z6, .is (.agg #[.int .i64 2, .int .i64 0, .int .i64 0, .string ⟨#[]⟩, .string ⟨#[]⟩, .string (ts.headD t3D).t, .int .i64 0, .slice none 0 0])⟩, ⟨b3, Z2p, .is (.agg #[.int .i64 (ts.headD t3D).k, .string (ts.headD t3D).t, .int .i64 (ts.headD t3D).n])⟩, ⟨b2, Z6, .is (.agg #[.int .i64 0, .int .i64 0, .int .i64 0, .string ⟨#[]⟩, .string ⟨#[]⟩, .string ⟨#[]⟩, .int .i64 0, .slice none 0 0])⟩]) (Z6r rfl (ZK T hc b ts.tail.tail (Zm (Zm hts))) (.refl _) qF qA) ?_
 refine yz (Z0 Z43 rfl) ?_
 apply yn
 intro g
 obtain ⟨z, hg2⟩ := g
 refine vD ?_
 refine JO.m (Zj (cs' := [_, _, _, _, _, _, _, _]) rfl rfl qU rfl rfl rfl rfl Z5w) (by rfl) ?_
 refine Jq (Z0 Z3l rfl) ?_
 refine JO.m (Zj (cs' := [_, _, _, _, _, _, _, _]) rfl rfl qU rfl rfl rfl rfl Z5w) (by rfl) ?_
 refine vS [2, 4] ?_
 first|(have hdt : isT 5 Z2T ts.tail = false := ht56; rw [ZZ hdt]) | skip
 refine vQ ?_
 refine Jq (Ob.im (ZI (cs := [_, _, _, _, _, _, _, _]) Za rfl rfl rfl) (Sub.leaf (k := 2) (vk := 0) (vn := 0) (vs := em) (sl := 0))) ?_
 refine JO.m (Z3 rfl rfl qU qC qO Zq) (by rfl) ?_
 refine vS [2] ?_
 refine vR ?_
 refine JX.toP ?_
 exact JX.retLCs (Lr := [_, _, _]) (L1 := fun z : Ex × List T3 => [PB T b z.2]) (R := fun z => .rep (ExR z.1)) rfl (.mk 2 0 0 em (ts.headD t3D).t z.1 0 [], z.2) (by rw [Z3Q hne]; rw [if_neg n3, if_neg n4, if_pos k2]; rw [if_pos hdt, hg2]; rfl) (.refl _) rfl rfl hb0 rfl Za HasOwn.mem Z1J (Sub.refl _)
 apply yK
 repeat first|apply yX|apply yB
 first|(have hdt : isT 5 Z2T ts.tail = false := ht56; rw [ZZ hdt]) | skip
 refine vQ ?_
 refine Jq (Ob.im (ZI (cs := [_, _, _, _, _, _, _, _]) Za rfl rfl rfl) (Sub.leaf (k := 2) (vk := 0) (vn := 0) (vs := em) (sl := 0))) ?_
 refine JO.m (Z3 rfl rfl qU qC qO Zq) (by rfl) ?_
 refine vS [2] ?_
 refine vR ?_
 refine JX.toP ?_
 exact JX.retLCs (Lr := [_, _, _]) (L1 := fun z : Ex × List T3 => [PB T b z.2]) (R := fun z => .rep (ExR z.1)) rfl (.mk 2 0 0 em em (ts.headD t3D).t 0 [], ts.tail) (by rw [Z3Q hne]; rw [if_neg n3, if_neg n4, if_pos k2]; rw [if_neg (by rw [hdt]; decide)]) (.refl _) rfl rfl hb0 rfl Za HasOwn.mem Z1J (Sub.refl _)
 have n2 : ¬ ((ts.headD t3D).k == 2) = true := by rw [ht50]; decide
 refine vQ ?_
 refine Jq (ZM rfl rfl) ?_
 refine Ja rfl ?_
 refine vS [0, 2, 64] ?_
 refine yC rfl (fun ht64 => ?_) (fun ht64 => ?_)
 have k1 : ((ts.headD t3D).k == 1) = true := ht64
 refine vQ ?_
 refine Jm rfl ?_
 refine JO.callPK (Lr := [_, _]) (Z7c T hc b ts hts e exprDn hex) rfl (List.perm_append_comm (l₁ := [_, _]) (l₂ := [_])) qF qA (fun hbad => ?_) ?_
 · exact JX.pnI (by rw [Z3Q hne]; rw [if_neg n3, if_neg n4, if_neg n2, if_pos k1]; exact hbad)
 intro z hz
 refine vD ?_
 refine JO.m (Z3 rfl rfl qU qC qO Zq) (by rfl) ?_
 refine vS [2] ?_
 refine vR ?_
 refine JX.toP ?_
 exact JX.retLCs (Lr := [_, _]) (L1 := fun z : Ex × List T3 => [PB T b z.2]) (R := fun z => .rep (ExR z.1)) rfl z (by rw [Z3Q hne]; rw [if_neg n3, if_neg n4, if_neg n2, if_pos k1]; exact hz) (.refl _) rfl rfl hb0 rfl Za HasOwn.mem Z1J (Sub.refl _)
 apply yK
 repeat first|apply yX|apply yB
 have n1 : ¬ ((ts.headD t3D).k == 1) = true := by rw [ht64]; decide
 refine vQ ?_
 refine Jm rfl (Jm rfl ?_)
 refine JO.callK (Lr := [_, _]) (Ze T hc b ts hts s_lp) rfl (List.perm_append_comm (l₁ := [_, _]) (l₂ := [_])) qF qA ?_
 intro _ _
 refine vD ?_
 refine JO.callPK (Lr := _) (Zb (.pointer (some ⟨b, 0, none⟩)) (isT 5 s_lp ts)) rfl (Z1k _) Z19 qA (fun hbad => ?_) ?_
 · exact JX.pnI (by rw [Z3Q hne]; rw [if_neg n3, if_neg n4, if_neg n2, if_neg n1]; rw [wantN hbad]; rfl)
 intro _ hlp
 refine vD ?_
 refine vS [0, 2] ?_
 rw [ZU hlp]
 refine vQ ?_
 refine Jm rfl ?_
 refine JO.callPK (Lr := [_, _]) (hex ts.tail (Zm hts) (Zz hlp).2) rfl (.refl _) qF qA (fun hbad => ?_) ?_
 · exact JX.pnI (by rw [Z3Q hne]; rw [if_neg n3, if_neg n4, if_neg n2, if_neg n1]; rw [wantY hlp]; simp only [Option.bind_some]; rw [hbad]; rfl)
 intro z hz
 refine vD ?_
 refine JO.alloc Z13 rfl fun b5 => ?_
 refine JO.m (Z3 rfl rfl qU qC qO Zq) (by rfl) ?_
 refine vP [0, 2, 5] ?_
 refine Jm rfl (Jm rfl ?_)
 refine JO.callK (Lr := [_, _, _]) (Ze T hc b z.2 ((exprDn hz).trans (Zm hts)) s_rp) rfl (.swap _ _ _) qF qA ?_
 intro _ _
 refine vD ?_
 refine JO.callPK (Lr := _) (Zb (.pointer (some ⟨b, 0, none⟩)) (isT 5 s_rp z.2)) rfl (Z1k _) Z19 qA (fun hbad => ?_) ?_
 · exact JX.pnI (by rw [Z3Q hne]; rw [if_neg n3, if_neg n4, if_neg n2, if_neg n1]; rw [wantY hlp]; simp only [Option.bind_some]; rw [hz]; simp only [Option.bind_some]; rw [wantN hbad]; rfl)
 intro _ hrp
 refine vD ?_
 refine vS [2, 5] ?_
 rw [ZU hrp]
 refine vQ ?_
 refine Jq (Z2S Za rfl) ?_
 refine JO.m (Z3 rfl rfl qU qC qO Zq) (by rfl) ?_
 refine vS [2] ?_
 refine vR ?_
 refine JX.toP ?_
 exact JX.retLCs (Lr := [_, _, _]) (L1 := fun z : Ex × List T3 => [PB T b z.2]) (R := fun z => .rep (ExR z.1)) rfl (z.1, z.2.tail) (by rw [Z3Q hne]; rw [if_neg n3, if_neg n4, if_neg n2, if_neg n1]; rw [wantY hlp]; simp only [Option.bind_some]; rw [hz]; simp only [Option.bind_some]; rw [wantY hrp]; rfl) (.refl _) rfl rfl hb0 rfl Za HasOwn.mem Z1J (Sub.refl _)
theorem exprDn' (N : Nat) {us : List T3} {z : Ex × List T3} (h : exprP N us = some z) : z.2 <:+ us := (Z2l N _ _ h).1
theorem Z9C (T : Tk) (hc : T.ts.length ≤ T.cap) (b : Nat) : ∀ (N : Nat) (ts : List T3), ts <:+ T.ts → ts.length < N → CallP Tryz.prog ZH [PB T b (ts)] [T.G, AF] [.is (.pointer (some ⟨b, 0, none⟩))] (exprP N (ts) = none) flt (fun z : Ex × List T3 => exprP N (ts) = some z) (fun z => [PB T b z.2]) (fun z => .rep (ExR z.1))
 | 0, ts, hts, hl => absurd hl qM
 | N + 1, ts, hts, hl => by
   have he := (Z2l N).le
   have hat : ∀ us, us <:+ T.ts → us.length ≤ N → CallP Tryz.prog Z2O [PB T b (us)] [T.G, AF] [.is (.pointer (some ⟨b, 0, none⟩))] (atomP (exprP N) (us) = none) flt (fun z : Ex × List T3 => atomP (exprP N) (us) = some z) (fun z => [PB T b z.2]) (fun z => .rep (ExR z.1)) := fun us hus hu => Z8x T hc b us hus (exprP N) (exprDn' N) fun vs hvs hv => Z9C T hc b N vs hvs qM
   have hfa : ∀ us, us <:+ T.ts → us.length ≤ N → CallP Tryz.prog Z1H [PB T b (us)] [T.G, AF] [.is (.pointer (some ⟨b, 0, none⟩))] (factorP (exprP N) (us) = none) flt (fun z : Ex × List T3 => factorP (exprP N) (us) = some z) (fun z => [PB T b z.2]) (fun z => .rep (ExR z.1)) := fun us hus hu => Z4P T hc b (exprP N) N hat us.length us hus hu (Nat.le_refl _)
   have hpr : ∀ us, us <:+ T.ts → us.length ≤ N → CallP Tryz.prog Z2k [PB T b (us)] [T.G, AF] [.is (.pointer (some ⟨b, 0, none⟩))] (prodP (exprP N) (us) = none) flt (fun z : Ex × List T3 => prodP (exprP N) (us) = some z) (fun z => [PB T b z.2]) (fun z => .rep (ExR z.1)) := fun us hus hu => Z71 T hc b us hus (exprP N) he fun vs hvs hv => hfa vs hvs qM
   have hsu : ∀ us, us <:+ T.ts → us.length ≤ N → CallP Tryz.prog Z32 [PB T b (us)] [T.G, AF] [.is (.pointer (some ⟨b, 0, none⟩))] (sumP (exprP N) (us) = none) flt (fun z : Ex × List T3 => sumP (exprP N) (us) = some z) (fun z => [PB T b z.2]) (fun z => .rep (ExR z.1)) := fun us hus hu => Z90 T hc b us hus (exprP N) he fun vs hvs hv => hpr vs hvs qM
   have hno : ∀ us, us <:+ T.ts → us.length ≤ N → CallP Tryz.prog Z1V [PB T b (us)] [T.G, AF] [.is (.pointer (some ⟨b, 0, none⟩))] (notP (exprP N) (us) = none) flt (fun z : Ex × List T3 => notP (exprP N) (us) = some z) (fun z => [PB T b z.2]) (fun z => .rep (ExR z.1)) := fun us hus hu => Z5A T hc b (exprP N) he N hsu us.length us hus hu (Nat.le_refl _)
   have han : ∀ us, us <:+ T.ts → us.length ≤ N → CallP Tryz.prog Z30 [PB T b (us)] [T.G, AF] [.is (.pointer (some ⟨b, 0, none⟩))] (andP (exprP N) (us) = none) flt (fun z : Ex × List T3 => andP (exprP N) (us) = some z) (fun z => [PB T b z.2]) (fun z => .rep (ExR z.1)) := fun us hus hu => Z9a T hc b us hus (exprP N) he fun vs hvs hv => hno vs hvs qM
   exact Z8a T hc b ts hts (exprP N) he fun vs hvs hv => han vs hvs qM
end Go.Proofs.YtbedigkncjbggaaGreatDoor
namespace Go.Pz
open Go Go.Vc
theorem Z8L {α : Type} {part : Ps α} (hp : Dn0 part) : ∀ (n m : Nat) (ts : List T3), ts.length ≤ n → ts.length ≤ m → listG part n ts = listG part m ts
 | 0, m, ts, h, _ => by
   have : ts = [] := List.length_eq_zero_iff.1 qM
   subst this
   cases m with
   | zero => rfl
   | succ m => rw [listG, listG, if_neg (by exact Bool.false_ne_true)]
 | n + 1, 0, ts, _, h => by
   have : ts = [] := List.length_eq_zero_iff.1 qM
   subst this
   rw [listG, listG, if_neg (by exact Bool.false_ne_true)]
 | n + 1, m + 1, ts, h, h' => by
   rw [listG, listG]
   split
   · rename_i hi
     have h1 := (Zz hi).2
     exact Zn fun y hy => by
       have h2 := (hp _ _ hy).length_le
       rw [Z8L hp n m y.2 qM qM]
   · rfl
def listC {α : Type} (part : Ps α) : Ps (List α) := fun ts => listG part ts.length ts
theorem Zi5 {α : Type} {part : Ps α} {ts : List T3} (h : isT 5 ZC ts = false) : listC part ts = some ([], ts) := by
 unfold listC
 cases ts.length with
 | zero => rfl
 | succ n => rw [listG, if_neg (by rw [h]; decide)]
theorem Zgt {α : Type} {part : Ps α} (hp : Dn0 part) {ts : List T3} (h : isT 5 ZC ts = true) : listC part ts = (part ts.tail).bind fun z => (listC part z.2).map fun y => (z.1 :: y.1, y.2) := by
 have h1 := (Zz h).2
 unfold listC
 rw [Z8L hp _ (ts.length + 1) ts qM qM, listG, if_pos h]
 exact Zn fun y hy => by
   have h2 := (hp _ _ hy).length_le
   rw [Z8L hp _ y.2.length y.2 qM qM]
def listI {α : Type} (most : Nat) (part : Ps α) (xs : List α) : Ps (List α) := fun us => (listC part us).bind fun y => if xs.length + y.1.length ≤ most then some (xs ++ y.1, y.2) else none
theorem Z1U {α : Type} (most : Nat) (part : Ps α) (ts : List T3) : listP most part ts = (part ts).bind fun z => listI most part [z.1] z.2 := by
 unfold listP listI
 refine Zn fun z _ => Zn fun y _ => ?_
 simp only [List.length_singleton, List.singleton_append]
 rw [Nat.add_comm]
theorem Z5h {α : Type} {most : Nat} {part : Ps α} {xs : List α} {us : List T3} (h : isT 5 ZC us = false) : listI most part xs us = if xs.length ≤ most then some (xs, us) else none := by
 unfold listI
 rw [Zi5 h]
 simp
theorem Z2v {α : Type} {most : Nat} {part : Ps α} (hp : Dn0 part) {xs : List α} {us : List T3} (h : isT 5 ZC us = true) : listI most part xs us = (part us.tail).bind fun z => listI most part (xs ++ [z.1]) z.2 := by
 unfold listI
 rw [Zgt hp h, bas]
 refine Zn fun z _ => ?_
 cases listC part z.2 with
 | none => rfl
 | some y =>
   simp only [Option.map_some, Option.bind_some, List.length_cons, List.length_append, List.length_nil, List.append_assoc, List.singleton_append]
   congr 1
   simp only [eq_iff_iff]; omega
theorem Z4M {α : Type} {most : Nat} {part : Ps α} {xs : List α} {us : List T3} (h : isT 5 ZC us = false) (hm : ¬ xs.length ≤ most) : listI most part xs us = none := by rw [Z5h h, if_neg hm]
end Go.Pz
