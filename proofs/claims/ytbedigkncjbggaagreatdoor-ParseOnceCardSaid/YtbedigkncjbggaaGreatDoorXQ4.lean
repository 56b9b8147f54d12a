/- The parser: keywords. No condition. -/
import Derived.Test.YtbedigkncjbggaaGreatDoorXQ3
import Derived.Test.YtbedigkncjbggaaGreatDoorXG7
set_option maxRecDepth 20000
namespace Go.Proofs.YtbedigkncjbggaaGreatDoor
open Go Go.Vc
open Go.Pz
theorem wantN {k : Int} {s : ByteArray} {ts : List T3} (h : isT k s ts = false) : wantP k s ts = none := by unfold wantP; rw [if_neg (by rw [h]; decide)]
theorem wantY {k : Int} {s : ByteArray} {ts : List T3} (h : isT k s ts = true) : wantP k s ts = some ((), ts.tail) := by unfold wantP; rw [if_pos h]
abbrev kvL : List (ByteArray × Value) := [(Z5e, .int .i64 20), (ZaA, .int .i64 21), (ZaD, .int .i64 22), (ZaB, .int .i64 23)]
theorem Z9h {a b : ByteArray} (h : sq a b = true) : a = b := by
 cases a; cases b
 simpa [sq] using h
theorem ZcR {w : ByteArray} {q : Int} (h : aggK w = some q) : ∃ j, j < 4 ∧ kvL[j]? = some (w, .int .i64 q) := by
 unfold aggK at h
 split at h
 · rename_i e; injection h with h; subst h; have e := Z9h e; subst e; exact ⟨0, by decide, rfl⟩
 split at h
 · rename_i e; injection h with h; subst h; have e := Z9h e; subst e; exact ⟨1, by decide, rfl⟩
 split at h
 · rename_i e; injection h with h; subst h; have e := Z9h e; subst e; exact ⟨2, by decide, rfl⟩
 split at h
 · rename_i e; injection h with h; subst h; have e := Z9h e; subst e; exact ⟨3, by decide, rfl⟩
 · cases h
theorem Z4J : (kvL.map (·.1)).Nodup := by decide
theorem Z5d {a b : ByteArray} (h : seq a b = false) : ¬ sq a b = true := by rw [← Z5K, h]; decide
theorem Z2P {a b : ByteArray} (h : seq a b = true) : sq a b = true := by rw [← Z5K]; exact h
structure KwS where
  m : MapS
  z : Option (Ex × List T3)
abbrev KwS.x (s : KwS) : Ex := (s.z.getD (ex0, [])).1
def KwS.L (T : Tk) (b : Nat) (us : List T3) (Lr : List Own) (s : KwS) : List Own := PB T b (match s.z with | none => us | some z => z.2) :: (mOwn s.m ++ Lr)
def KwS.T (b : Nat) (w : ByteArray) (q : Int) (s : KwS) : Nat → Ty
 | 0 => .is (.map s.m.mp)
 | 5 => .is (.map s.m.mp)
 | 6 => .is (.string w)
 | 7 => .is (.int .i64 q)
 | 8 => .is (.pointer (some ⟨b, 0, none⟩))
 | 9 => .rep (ExR s.x)
 | 10 => .rep (ExsR [s.x])
 | _ => .any
structure KwS.inv (e : Ps Ex) (us : List T3) (s : KwS) (D : Array Bool) : Prop where
  m : MInv kvL s.m fun j => D.getD j false
  f : D.getD 5 false = true → ∀ j, j < 5 → D.getD j false = true
  z : D.getD 9 false = s.z.isSome
  r : ∀ z, s.z = some z → e us = some z
  g : D.getD 10 false = true → D.getD 9 false = true
theorem Zaz {D : Array Bool} {i : Nat} (hi : i < D.size) (j : Nat) : ((fun j => (D.setIfInBounds i true).getD j false) j = true) ↔ j = i ∨ ((fun j => D.getD j false) j = true) := ZX hi
theorem Zw {D : Array Bool} {i j : Nat} (hi : i < D.size) (h : j ≠ i) : (D.setIfInBounds i true).getD j false = D.getD j false := by
  cases hq : D.getD j false with
  | true => exact (ZX hi).2 (.inr hq)
  | false =>
    cases hq' : (D.setIfInBounds i true).getD j false with
    | false => rfl
    | true => rcases (ZX hi).1 hq' with e | e
              · exact absurd e h
              · rw [hq] at e; cases e
theorem KwS.inv.other {e : Ps Ex} {us : List T3} {s : KwS} {D : Array Bool} (h : s.inv e us D) {i : Nat} (hs : i < D.size) (h4 : 4 < i) (h9 : i ≠ 9) (h5 : i = 5 → ∀ j, j < 5 → D.getD j false = true) (h10 : i = 10 → D.getD 9 false = true) : s.inv e us (D.setIfInBounds i true) := by
 refine ⟨h.m.other h4 (Zaz hs), fun h1 j hj => ?_, by rw [Zw hs (Ne.symm h9)]; exact h.z, h.r, fun h1 => by
  rw [Zw hs (Ne.symm h9)]
  by_cases hi : i = 10
  · exact h10 hi
  · exact h.g (by rw [← Zw hs (Ne.symm hi)]; exact h1)⟩
 rw [Zw hs (by omega)]
 by_cases hi : i = 5
 · exact h5 hi j hj
 · exact h.f (by rw [← Zw hs (Ne.symm hi)]; exact h1) j hj
theorem KwS.inv.make {e : Ps Ex} {us : List T3} {s : KwS} {D : Array Bool} (h : s.inv e us D) (hs : 0 < D.size) (h0 : D.getD 0 false = false) (r : Nat) : KwS.inv e us ⟨⟨some r, [], 0⟩, s.z⟩ (D.setIfInBounds 0 true) := by
 refine ⟨h.m.make h0 (Zaz hs) r, fun h1 j hj => ?_, by rw [Zw hs (by decide)]; exact h.z, h.r, fun h1 => by rw [Zw hs (by decide)] at h1 ⊢; exact h.g h1⟩
 rw [Zw hs (by decide)] at h1
 have := h.f h1 0 (by decide)
 rw [h0] at this; cases this
theorem KwS.inv.ins {e : Ps Ex} {us : List T3} {s : KwS} {D : Array Bool} (h : s.inv e us D) {j : Nat} {kv : ByteArray × Value} (hs : j + 1 < D.size) (hj : kvL[j]? = some kv) (hj4 : j < 4) (h1 : D.getD (j + 1) false = false) (h0 : D.getD 0 false = true) : KwS.inv e us ⟨⟨s.m.mp, s.m.es ++ [(kv.1, kv.2, s.m.n)], s.m.n + 1⟩, s.z⟩ (D.setIfInBounds (j + 1) true) := by
 refine ⟨h.m.ins hj h0 (Zaz hs), fun h2 k hk => ?_, by rw [Zw hs (by omega)]; exact h.z, h.r, fun h3 => by rw [Zw hs (by omega)] at h3 ⊢; exact h.g h3⟩
 rw [Zw hs (by omega)] at h2
 have := h.f h2 (j + 1) (by omega)
 rw [h1] at this; cases this
theorem KwS.inv.call {e : Ps Ex} {us : List T3} {s : KwS} {D : Array Bool} (h : s.inv e us D) (hs : 9 < D.size) {z : Ex × List T3} (hz : e us = some z) : KwS.inv e us ⟨s.m, some z⟩ (D.setIfInBounds 9 true) :=
 ⟨h.m.other (by decide) (Zaz hs), fun h1 j hj => by rw [Zw hs (by omega)]; exact h.f (by rw [← Zw hs (by decide)]; exact h1) j hj, by rw [(ZX hs).2 (.inl rfl)]; rfl, fun y hy => by injection hy with hy; subst hy; exact hz, fun _ => (ZX hs).2 (.inl rfl)⟩
theorem aggY {w : ByteArray} (h : (seq w Z5e || (seq w ZaA || (seq w ZaD || seq w ZaB))) = true) : ∃ q, aggK w = some q := by
 simp only [Z5K] at h
 unfold aggK
 repeat' split
 all_goals first | exact ⟨_, rfl⟩ | simp_all
theorem aggN {w : ByteArray} (h : (seq w Z5e || (seq w ZaA || (seq w ZaD || seq w ZaB))) = false) : aggK w = none := by
 simp only [Z5K] at h
 unfold aggK
 simp_all
theorem kwT0 {b : Nat} {w : ByteArray} {q : Int} {m m' : MapS} {zo : Option (Ex × List T3)} {D : Array Bool} (h5 : D.getD 5 false = false) (hd : D.getD 0 false = false) {j : Nat} (hj : D.getD j false = true) : KwS.T b w q ⟨m', zo⟩ j = KwS.T b w q ⟨m, zo⟩ j := by
  match j, hj with
  | 0, hj => rw [hd] at hj; cases hj
  | 5, hj => rw [h5] at hj; cases hj
  | 1, _ => rfl
  | 2, _ => rfl
  | 3, _ => rfl
  | 4, _ => rfl
  | 6, _ => rfl
  | 7, _ => rfl
  | 8, _ => rfl
  | 9, _ => rfl
  | 10, _ => rfl
  | j + 11, _ => rfl
theorem kwT9 {b : Nat} {w : ByteArray} {q : Int} {m : MapS} {zo zo' : Option (Ex × List T3)} {D : Array Bool} (h10 : D.getD 10 false = false) (hd : D.getD 9 false = false) {j : Nat} (hj : D.getD j false = true) : KwS.T b w q ⟨m, zo'⟩ j = KwS.T b w q ⟨m, zo⟩ j := by
  match j, hj with
  | 9, hj => rw [hd] at hj; cases hj
  | 10, hj => rw [h10] at hj; cases hj
  | 0, _ => rfl
  | 1, _ => rfl
  | 2, _ => rfl
  | 3, _ => rfl
  | 4, _ => rfl
  | 5, _ => rfl
  | 6, _ => rfl
  | 7, _ => rfl
  | 8, _ => rfl
  | j + 11, _ => rfl
theorem Z5u (T : Tk) (hc : T.ts.length ≤ T.cap) (b : Nat) (ts : List T3) (hts : ts <:+ T.ts) (e : Ps Ex) (exprDn : ∀ {us : List T3} {z : Ex × List T3}, e us = some z → z.2 <:+ us) (hex : ∀ us, us <:+ T.ts → us.length < ts.length → CallP Tryz.prog Zt [PB T b (us)] [T.G, AF] [.is (.pointer (some ⟨b, 0, none⟩))] (e (us) = none) flt (fun z : Ex × List T3 => e (us) = some z) (fun z => [PB T b z.2]) (fun z => .rep (ExR z.1))) : CallP Tryz.prog Z5v [PB T b ts] [T.G, AF] [.is (.pointer (some ⟨b, 0, none⟩))] (kwP e ts = none) flt (fun z : Ex × List T3 => kwP e ts = some z) (fun z => [PB T b z.2]) (fun z => .rep (ExR z.1)) :=
CallP.of (fn := Tryz.f194) Tryz.func194 (n := 53) rfl rfl rfl (fun _ _ => by kernel_rfl) fun E W hb0 => by
  repeat apply Sq
  apply Pn
  refine JO.alloc ZZ rfl fun b2 => ?_
  apply Ni
  repeat first | apply Nx | apply Nb
  refine Sl [0, 2] (.cons rfl (.cons rfl .nil)) ?_
  repeat apply Sq
  apply Pn
  refine Jt (Z0 rfl) rfl ?_
  refine JO.callPK (Lr := [_]) (Z1e T hc b ts hts 1) rfl (.swap _ _ _) (fun F hF => by repeat (first | (rcases Mc.1 hF with rfl | hF; · (repeat first | exact Mh | apply Mt)) | (cases hF; done))) (.one rfl (.one rfl .nil)) (fun hbad => ?_) ?_
  · exact JX.pnI (by unfold kwP; rw [hbad]; rfl)
  rintro ⟨⟨k1, w, n1⟩, r1⟩ hz1
  try dsimp only [nA, cA]
  refine Jt (Z3k (off := 1) (by kernel_rfl) rfl rfl) rfl ?_
  refine Jt (Z2 rfl) rfl ?_
  apply Ni
  repeat first | apply Nx | apply Nb
  refine Sl [0, 2, 3] (.cons rfl (.cons rfl (.cons rfl .nil))) ?_
  repeat apply Sq
  apply Pn
  refine Jt (Z0 rfl) rfl ?_
  apply Ni
  repeat first | apply Nx | apply Nb
  refine Sl [0, 2, 3, 8] (.cons rfl (.cons rfl (.cons rfl (.cons rfl .nil)))) ?_
  repeat apply Sq
  apply Bk
  repeat apply Sq
  apply Pn
  refine Jt (Z3S rfl rfl) rfl ?_
  refine Jt (Z2 rfl) rfl ?_
  apply Ni
  repeat first | apply Nx | apply Nb
  refine Sl [0, 2, 3, 8, 9] (.cons rfl (.cons rfl (.cons rfl (.cons rfl (.cons rfl .nil))))) ?_
  repeat apply Sq
  refine Cd rfl (fun ht9 => ?_) (fun ht9 => ?_)
  ·
    try simp only [dT, dF] at ht9
    repeat apply Sq
    apply Pn
    refine Jt (Zs (cs := [_, _, _]) Z3e (.cons rfl (.cons rfl .nil)) rfl rfl) rfl ?_
    refine Jt (ZW rfl (Z2v 2 1 em) (.one rfl .nil)) rfl ?_
    refine JO.m (Z3 rfl rfl (by repeat first | exact .here | apply Ut) (by first | exact cI rfl rfl | exact cE) (by first | exact cI rfl rfl | exact cE | exact cO) Zn) (by rfl) ?_
    apply Ni
    repeat first | apply Nx | apply Nb
    refine Sl [2] (.cons rfl .nil) ?_
    repeat apply Sq
    apply Rt
    repeat first | apply Rp | apply Rb
    refine JX.toP ?_
    exact JX.retLCs (Lr := [_]) (L1 := fun z : Ex × List T3 => [PB T b z.2]) (R := fun z => .rep (ExR z.1)) rfl (lit 2 1 em, r1) (by unfold kwP; rw [hz1]; simp only [Option.bind_some]; rw [if_pos (Z2P ht9)]) (.refl _) rfl rfl hb0 rfl Za HasOwn.mem Z1l (Sub.refl _)
  ·
    try simp only [dT, dF] at ht9
    have hT := Z5d ht9
    repeat apply Sq
    apply Pn
    refine Jt (Z3S rfl rfl) rfl ?_
    refine Jt (Z2 rfl) rfl ?_
    apply Ni
    repeat first | apply Nx | apply Nb
    refine Sl [0, 2, 3, 8, 13] (.cons rfl (.cons rfl (.cons rfl (.cons rfl (.cons rfl .nil))))) ?_
    repeat apply Sq
    refine Cd rfl (fun ht13 => ?_) (fun ht13 => ?_)
    ·
      try simp only [dT, dF] at ht13
      repeat apply Sq
      apply Pn
      refine Jt (Zs (cs := [_, _, _]) Z3e (.cons rfl .nil) rfl rfl) rfl ?_
      refine Jt (ZW rfl (Z2v 2 0 em) (.one rfl .nil)) rfl ?_
      refine JO.m (Z3 rfl rfl (by repeat first | exact .here | apply Ut) (by first | exact cI rfl rfl | exact cE) (by first | exact cI rfl rfl | exact cE | exact cO) Zn) (by rfl) ?_
      apply Ni
      repeat first | apply Nx | apply Nb
      refine Sl [2] (.cons rfl .nil) ?_
      repeat apply Sq
      apply Rt
      repeat first | apply Rp | apply Rb
      refine JX.toP ?_
      exact JX.retLCs (Lr := [_]) (L1 := fun z : Ex × List T3 => [PB T b z.2]) (R := fun z => .rep (ExR z.1)) rfl (lit 2 0 em, r1) (by unfold kwP; rw [hz1]; simp only [Option.bind_some]; rw [if_neg hT, if_pos (Z2P ht13)]) (.refl _) rfl rfl hb0 rfl Za HasOwn.mem Z1l (Sub.refl _)
    ·
      try simp only [dT, dF] at ht13
      have hF := Z5d ht13
      repeat apply Sq
      apply Pn
      refine Jt (Z3S rfl rfl) rfl ?_
      refine Jt (Z2 rfl) rfl ?_
      apply Ni
      repeat first | apply Nx | apply Nb
      refine Sl [0, 2, 3, 8, 17] (.cons rfl (.cons rfl (.cons rfl (.cons rfl (.cons rfl .nil))))) ?_
      repeat apply Sq
      refine Cd rfl (fun ht17 => ?_) (fun ht17 => ?_)
      ·
        try simp only [dT, dF] at ht17
        repeat apply Sq
        apply Pn
        refine Jt (Zs (cs := [_, _, _]) Z3e .nil rfl rfl) rfl ?_
        refine Jt (ZW rfl (Z2v 0 0 em) (.one rfl .nil)) rfl ?_
        refine JO.m (Z3 rfl rfl (by repeat first | exact .here | apply Ut) (by first | exact cI rfl rfl | exact cE) (by first | exact cI rfl rfl | exact cE | exact cO) Zn) (by rfl) ?_
        apply Ni
        repeat first | apply Nx | apply Nb
        refine Sl [2] (.cons rfl .nil) ?_
        repeat apply Sq
        apply Rt
        repeat first | apply Rp | apply Rb
        refine JX.toP ?_
        exact JX.retLCs (Lr := [_]) (L1 := fun z : Ex × List T3 => [PB T b z.2]) (R := fun z => .rep (ExR z.1)) rfl (lit 0 0 em, r1) (by unfold kwP; rw [hz1]; simp only [Option.bind_some]; rw [if_neg hT, if_neg hF, if_pos (Z2P ht17)]) (.refl _) rfl rfl hb0 rfl Za HasOwn.mem Z1l (Sub.refl _)
      ·
        try simp only [dT, dF] at ht17
        have hN := Z5d ht17
        repeat apply Sq
        apply Pn
        refine Jt (Z3S rfl rfl) rfl ?_
        refine Jt (Z2 rfl) rfl ?_
        apply Ni
        repeat first | apply Nx | apply Nb
        refine Sl [0, 2, 3, 8, 21] (.cons rfl (.cons rfl (.cons rfl (.cons rfl (.cons rfl .nil))))) ?_
        first | apply J.or [0, 2, 3] rfl (.cons rfl (.cons rfl (.cons rfl .nil))) | apply J.orN [0, 2, 3] rfl (.cons rfl (.cons rfl (.cons rfl .nil)))
        · intro ht21
          repeat apply Sq
          apply Pn
          refine Jt (Z3S rfl rfl) rfl ?_
          refine Jt (Z2 rfl) rfl ?_
          apply Ni
          refine JX.next ?_
          apply J.orT [0, 2, 3] rfl (.cons rfl (.cons rfl (.cons rfl .nil)))
          · intro ht21
            repeat apply Sq
            apply Pn
            refine Jt (Z3S rfl rfl) rfl ?_
            refine Jt (Z2 rfl) rfl ?_
            apply Ni
            refine JX.next ?_
            apply J.orT [0, 2, 3] rfl (.cons rfl (.cons rfl (.cons rfl .nil)))
            · intro ht21
              repeat apply Sq
              apply Pn
              refine Jt (Z3S rfl rfl) rfl ?_
              refine Jt (Z2 rfl) rfl ?_
              apply Ni
              exact JX.mids [21, 0, 2, 3] (.cons rfl (.cons rfl (.cons rfl (.cons rfl .nil))))
        repeat apply Sq
        refine Cd rfl (fun ht21 => ?_) (fun ht21 => ?_)
        ·
          try simp only [dT, dF] at ht21
          obtain ⟨q, hq⟩ := aggY ht21
          repeat apply Sq
          apply Pn
          refine Jt (Z0 rfl) rfl ?_
          refine Jt (Z0 rfl) rfl ?_
          refine JO.callK (Lr := [_]) (Z9 T hc b r1 ((ZF 1 _ _ hz1).1.trans hts) s_lp) rfl (.refl _) (fun F hF => by repeat (first | (rcases Mc.1 hF with rfl | hF; · (repeat first | exact Mh | apply Mt)) | (cases hF; done))) (.one rfl (.one rfl .nil)) ?_
          intro _ _
          try dsimp only [nA, cA]
          refine JO.callPK (Lr := _) (Z8 (.pointer (some ⟨b, 0, none⟩)) (isT 5 s_lp r1)) rfl (Z15 _) ZP (.one rfl (.one rfl .nil)) (fun hbad => ?_) ?_
          · exact JX.pnI (by unfold kwP; rw [hz1]; simp only [Option.bind_some]; rw [if_neg hT, if_neg hF, if_neg hN, hq]; dsimp only; rw [wantN hbad]; rfl)
          intro _ hlp
          try dsimp only [nA, cA]
          apply Ni
          repeat first | apply Nx | apply Nb
          refine Sl [0, 2, 3] (.cons rfl (.cons rfl (.cons rfl .nil))) ?_
          rw [ZE hlp]
          repeat apply Sq
          apply Pn
          refine Jt (Ob.im (Zs (cs := [_, _, _, _, _, _, _, _]) Z4G (.cons rfl .nil) rfl rfl) (Sub.leaf (k := 20) (vk := 0) (vn := 0) (vs := em) (tb := em) (nm := em) (sl := 0))) rfl ?_
          refine JO.alloc ZZ rfl fun b4 => ?_
          refine JO.m (Z3 rfl rfl (by repeat first | exact .here | apply Ut) (by first | exact cI rfl rfl | exact cE) (by first | exact cI rfl rfl | exact cE | exact cO) Zn) (by rfl) ?_
          apply Ni
          repeat first | apply Nx | apply Nb
          refine Sl [0, 2, 3, 4] (.cons rfl (.cons rfl (.cons rfl (.cons rfl .nil)))) ?_
          rcases Bool.eq_false_or_eq_true (seq w Z5e) with hcnt | hcnt
          ·
            repeat apply Sq
            apply Pn
            refine Jt (Z0 rfl) rfl ?_
            refine Jt (Zbk (cc := false) rfl rfl (by rw [hcnt]; rfl)) rfl ?_
            refine Jt (Z0 rfl) rfl ?_
            refine JO.gd rfl rfl rfl ?_
            refine Jt (Z0 rfl) rfl ?_
            refine JO.gd rfl rfl rfl ?_
            refine JO.callK (Lr := [_, _]) (Z9 T hc b r1.tail (Zi ((ZF 1 _ _ hz1).1.trans hts)) Z1a) rfl (.swap _ _ _) (fun F hF => by repeat (first | (rcases Mc.1 hF with rfl | hF; · (repeat first | exact Mh | apply Mt)) | (cases hF; done))) (.one rfl (.one rfl .nil)) ?_
            intro _ _
            try dsimp only [nA, cA]
            refine JO.gd rfl rfl rfl ?_
            refine Jt (Z5B rfl) rfl ?_
            refine Jt (Zby rfl rfl) rfl ?_
            apply Ni
            repeat first | apply Nx | apply Nb
            refine Sl [0, 2, 3, 4, 37] (.cons rfl (.cons rfl (.cons rfl (.cons rfl (.cons rfl .nil))))) ?_
            repeat apply Sq
            refine Cd rfl (fun ht37 => ?_) (fun ht37 => ?_)
            ·
              try simp only [dT, dF] at ht37
              try have hst : isT 5 Z1a r1.tail = false := by simpa using ht37
              try rw [ZI hst]
              refine J.has (L' := [PB T b r1.tail, ⟨b4, Z6, .rep (ExR (nd 20 []))⟩, ⟨b2, Z6, .is (.agg #[.int .i64 0, .int .i64 0, .int .i64 0, .string ⟨#[]⟩, .string ⟨#[]⟩, .string ⟨#[]⟩, .int .i64 0, .slice none 0 0])⟩]) (by repeat (first | exact .all | exact .nil | refine Has.cons (by repeat (first | exact .here | apply Pk.past | apply Pk.there)) ?_)) ?_
              repeat apply Sq
              refine J.regMach (Bad := e r1.tail = none) (ch := flt) 11 (KwS.L T b (r1.tail) [⟨b4, Z6, .rep (ExR (nd 20 []))⟩, ⟨b2, Z6, .is (.agg #[.int .i64 0, .int .i64 0, .int .i64 0, .string ⟨#[]⟩, .string ⟨#[]⟩, .string ⟨#[]⟩, .int .i64 0, .slice none 0 0])⟩]) (KwS.T b w q) (KwS.inv e (r1.tail)) (fun i => decide (i < 5) || i == 9) ⟨⟨none, [], 0⟩, none⟩ rfl ?_ (fun hbad => ?_) hmx (by kernel_rfl) rfl (by kernel_rfl) ?_ ?_ ?_
              · exact ⟨.start (fun j => by rw [Array.getD_eq_getD_getElem?, Array.getElem?_replicate]; split <;> rfl), (fun h => by cases h), rfl, (fun z h => by cases h), (fun h => by cases h)⟩
              · exact JX.pnI (by first | (unfold kwP; rw [hz1]; simp only [Option.bind_some]; rw [if_neg hT, if_neg hF, if_neg hN, hq]; dsimp only; rw [wantY hlp]; simp only [Option.bind_some]; rw [Z2P hcnt, hst]; simp only [Bool.true_and, Bool.false_eq_true, if_false]; rw [hbad]; rfl) | (unfold kwP; rw [hz1]; simp only [Option.bind_some]; rw [if_neg hT, if_neg hF, if_neg hN, hq]; dsimp only; rw [wantY hlp]; simp only [Option.bind_some]; rw [if_neg (by rw [Bool.and_eq_true]; exact fun h => Z5d hcnt h.1)]; rw [hbad]; rfl))
              · intro s D i o hs hinv hA hbg hd hr
                match i, hA, hbg, hd, hr with
                | 0, _, hbg, _, _ => exact absurd hbg (by decide)
                | 1, _, hbg, _, _ => exact absurd hbg (by decide)
                | 2, _, hbg, _, _ => exact absurd hbg (by decide)
                | 3, _, hbg, _, _ => exact absurd hbg (by decide)
                | 4, _, hbg, _, _ => exact absurd hbg (by decide)
                | 5, hA, _, hd, hr =>
                  obtain rfl := Option.some.inj hA
                  have h9 := hinv.other (i := 5) (by omega) (by decide) (by decide) (fun _ j hj => by
                    match j, hj with
                    | 0, _ => exact hr _ rfl ⟨0, .data⟩ (by simp) rfl
                    | 1, _ => exact hr _ rfl ⟨1, .data⟩ (by simp) rfl
                    | 2, _ => exact hr _ rfl ⟨2, .data⟩ (by simp) rfl
                    | 3, _ => exact hr _ rfl ⟨3, .data⟩ (by simp) rfl
                    | 4, _ => exact hr _ rfl ⟨4, .data⟩ (by simp) rfl) (fun h => by cases h)
                  exact ⟨h9, rfl, (Z0 rfl)⟩
                | 6, hA, _, hd, hr =>
                  obtain rfl := Option.some.inj hA
                  exact ⟨hinv.other (by omega) (by decide) (by decide) (fun h => by cases h) (fun h => by cases h), rfl, (Z0 rfl)⟩
                | 7, hA, _, hd, hr =>
                  obtain rfl := Option.some.inj hA
                  have hall := hinv.f (hr _ rfl ⟨5, .data⟩ (by simp) rfl)
                  refine ⟨hinv.other (by omega) (by decide) (by decide) (fun h => by cases h) (fun h => by cases h), rfl, ?_⟩
                  obtain ⟨j, hj4, hj⟩ := ZcR hq
                  have hget := hinv.m.get Z4J hj (hall (j + 1) (by omega))
                  obtain ⟨r, hr0⟩ := hinv.m.some_ (hall 0 (by decide))
                  obtain ⟨⟨mp, es, n⟩, zo⟩ := s
                  dsimp only at hr0; subst hr0
                  exact ZcO Z19 Zo ZeP rfl rfl (List.mem_cons_of_mem _ List.mem_cons_self) (by dsimp only at hget; rw [hget]; rfl)
                | 8, hA, _, hd, hr =>
                  obtain rfl := Option.some.inj hA
                  exact ⟨hinv.other (by omega) (by decide) (by decide) (fun h => by cases h) (fun h => by cases h), rfl, (Z0 rfl)⟩
                | 9, _, hbg, _, _ => exact absurd hbg (by decide)
                | 10, hA, _, hd, hr =>
                  obtain rfl := Option.some.inj hA
                  exact ⟨hinv.other (by omega) (by decide) (by decide) (fun h => by cases h) (fun _ => hr _ rfl ⟨9, .data⟩ (by simp) rfl), rfl, (Z35 ZR rfl)⟩
                | i + 11, hA, _, hd, hr => simp at hA
              · intro s D i o hs hinv hA hbg hd hr
                match i, hA, hbg, hd, hr with
                | 0, hA, _, hd, hr =>
                  obtain rfl := Option.some.inj hA
                  obtain ⟨⟨mp, es, n⟩, zo⟩ := s
                  have hmp : mp = none := by
                    have := hinv.m.a
                    dsimp only at this
                    rw [hd] at this
                    cases mp with
                    | none => rfl
                    | some r => cases this
                  subst hmp
                  have h5 : D.getD 5 false = false := by
                    cases h : D.getD 5 false with
                    | false => rfl
                    | true => have := hinv.f h 0 (by decide); rw [hd] at this; cases this
                  exact ⟨rfl, .inl (Zab.to (fun r => ⟨⟨⟨some r, [], 0⟩, zo⟩, hinv.make (by omega) hd r, fun j hj => kwT0 h5 hd hj⟩) (fun _ => rfl) (fun _ => .swap _ _ _))⟩
                | 1, hA, _, hd, hr =>
                  obtain rfl := Option.some.inj hA
                  obtain ⟨⟨mp, es, n⟩, zo⟩ := s
                  obtain ⟨r, hr0⟩ := hinv.m.some_ (hr _ rfl ⟨0, .data⟩ (by simp) rfl)
                  dsimp only at hr0; subst hr0
                  have hg := hinv.m.fresh Z4J (j := 0) rfl hd
                  have hi := hinv.ins (j := 0) (by omega) rfl (by decide) hd (hr _ rfl ⟨0, .data⟩ (by simp) rfl)
                  exact ⟨rfl, .inl ((BigOb.ofM (Z1w Z19 Zo rfl rfl rfl hg (.there .here)) rfl).to (fun _ => ⟨_, hi, fun j hj => rfl⟩) (fun _ => rfl) (fun _ => .refl _))⟩
                | 2, hA, _, hd, hr =>
                  obtain rfl := Option.some.inj hA
                  obtain ⟨⟨mp, es, n⟩, zo⟩ := s
                  obtain ⟨r, hr0⟩ := hinv.m.some_ (hr _ rfl ⟨0, .data⟩ (by simp) rfl)
                  dsimp only at hr0; subst hr0
                  have hg := hinv.m.fresh Z4J (j := 1) rfl hd
                  have hi := hinv.ins (j := 1) (by omega) rfl (by decide) hd (hr _ rfl ⟨0, .data⟩ (by simp) rfl)
                  exact ⟨rfl, .inl ((BigOb.ofM (Z1w Z19 Zo rfl rfl rfl hg (.there .here)) rfl).to (fun _ => ⟨_, hi, fun j hj => rfl⟩) (fun _ => rfl) (fun _ => .refl _))⟩
                | 3, hA, _, hd, hr =>
                  obtain rfl := Option.some.inj hA
                  obtain ⟨⟨mp, es, n⟩, zo⟩ := s
                  obtain ⟨r, hr0⟩ := hinv.m.some_ (hr _ rfl ⟨0, .data⟩ (by simp) rfl)
                  dsimp only at hr0; subst hr0
                  have hg := hinv.m.fresh Z4J (j := 2) rfl hd
                  have hi := hinv.ins (j := 2) (by omega) rfl (by decide) hd (hr _ rfl ⟨0, .data⟩ (by simp) rfl)
                  exact ⟨rfl, .inl ((BigOb.ofM (Z1w Z19 Zo rfl rfl rfl hg (.there .here)) rfl).to (fun _ => ⟨_, hi, fun j hj => rfl⟩) (fun _ => rfl) (fun _ => .refl _))⟩
                | 4, hA, _, hd, hr =>
                  obtain rfl := Option.some.inj hA
                  obtain ⟨⟨mp, es, n⟩, zo⟩ := s
                  obtain ⟨r, hr0⟩ := hinv.m.some_ (hr _ rfl ⟨0, .data⟩ (by simp) rfl)
                  dsimp only at hr0; subst hr0
                  have hg := hinv.m.fresh Z4J (j := 3) rfl hd
                  have hi := hinv.ins (j := 3) (by omega) rfl (by decide) hd (hr _ rfl ⟨0, .data⟩ (by simp) rfl)
                  exact ⟨rfl, .inl ((BigOb.ofM (Z1w Z19 Zo rfl rfl rfl hg (.there .here)) rfl).to (fun _ => ⟨_, hi, fun j hj => rfl⟩) (fun _ => rfl) (fun _ => .refl _))⟩
                | 5, _, hbg, _, _ => exact absurd hbg (by decide)
                | 6, _, hbg, _, _ => exact absurd hbg (by decide)
                | 7, _, hbg, _, _ => exact absurd hbg (by decide)
                | 8, _, hbg, _, _ => exact absurd hbg (by decide)
                | 9, hA, _, hd, hr =>
                  obtain rfl := Option.some.inj hA
                  obtain ⟨m, zo⟩ := s
                  have hzo : zo = none := by
                    have := hinv.z
                    dsimp only at this
                    rw [hd] at this
                    cases zo with
                    | none => rfl
                    | some r => cases this
                  subst hzo
                  have h10 : D.getD 10 false = false := by
                    cases h : D.getD 10 false with
                    | false => rfl
                    | true => have := hinv.g h; rw [hd] at this; cases this
                  exact ⟨rfl, .inr ((Z4L rfl (hex r1.tail (Zi ((ZF 1 _ _ hz1).1.trans hts)) (by have := (Zr hlp).2; have h1 : r1.length < ts.length := (ZF 1 _ _ hz1).2; omega)) (.refl _) (fun F hF => by repeat (first | (rcases Mc.1 hF with rfl | hF; · (repeat first | exact Mh | apply Mt)) | (cases hF; done))) (.one rfl .nil)).to (fun z => ⟨⟨m, some z.1⟩, hinv.call (by omega) z.2, fun j hj => kwT9 h10 hd hj⟩) (fun _ => rfl) (fun _ => .refl _))⟩
                | 10, _, hbg, _, _ => exact absurd hbg (by decide)
                | i + 11, hA, _, hd, hr => simp at hA
              intro s D hs hall hinv
              obtain ⟨⟨mp, es, n⟩, zo⟩ := s
              obtain ⟨r, hr0⟩ := hinv.m.some_ (hall 0 (by decide))
              dsimp only at hr0; subst hr0
              have hzz := hinv.z
              rw [hall 9 (by decide)] at hzz
              obtain ⟨z, hzo⟩ := Option.isSome_iff_exists.1 hzz.symm
              dsimp only at hzo; subst hzo
              have hzr : e (r1.tail) = some z := hinv.r z rfl
              refine JO.subL (L' := [PB T b z.2] ++ (⟨r, 0, .ob (sObj es n)⟩ :: [⟨b4, Z6, .rep (ExR (nd 20 []))⟩, ⟨b2, Z6, .is (.agg #[.int .i64 0, .int .i64 0, .int .i64 0, .string ⟨#[]⟩, .string ⟨#[]⟩, .string ⟨#[]⟩, .int .i64 0, .slice none 0 0])⟩])) (.refl _) ?_
              try dsimp only [nA, cA]
              refine Jt (ZW rfl (Z1U q [z.1]) (.one rfl (.one rfl .nil))) rfl ?_
              refine JO.m (Z3 rfl rfl (by repeat first | exact .here | apply Ut) (by first | exact cI rfl rfl | exact cE) (by first | exact cI rfl rfl | exact cE | exact cO) Zn) (by rfl) ?_
              apply Ni
              repeat first | apply Nx | apply Nb
              refine Sl [0, 2, 4] (.cons rfl (.cons rfl (.cons rfl .nil))) ?_
              first | (refine J.has (L' := [PB T b z.2, ⟨b4, Z6, .rep (ExR (nd q [z.1]))⟩, ⟨b2, Z6, .is (.agg #[.int .i64 0, .int .i64 0, .int .i64 0, .string ⟨#[]⟩, .string ⟨#[]⟩, .string ⟨#[]⟩, .int .i64 0, .slice none 0 0])⟩]) (by repeat (first | exact .all | exact .nil | refine Has.cons (by repeat (first | exact .here | apply Pk.past | apply Pk.there)) ?_)) ?_; have husx := (exprDn hzr).trans (Zi ((ZF 1 _ _ hz1).1.trans hts))) | (have hst : isT 5 Z1a r1.tail = true := (by simpa using ht37); rw [ZE hst]; have husx := Zi (Zi ((ZF 1 _ _ hz1).1.trans hts)))
              repeat apply Sq
              apply Pn
              refine Jt (Z0 rfl) rfl ?_
              refine Jt (Z0 rfl) rfl ?_
              refine JO.callK (Lr := [_, _]) (Z9 T hc b _ husx s_rp) rfl (.refl _) (fun F hF => by repeat (first | (rcases Mc.1 hF with rfl | hF; · (repeat first | exact Mh | apply Mt)) | (cases hF; done))) (.one rfl (.one rfl .nil)) ?_
              intro _ _
              try dsimp only [nA, cA]
              refine JO.callPK (Lr := _) (Z8 (.pointer (some ⟨b, 0, none⟩)) (isT 5 s_rp _)) rfl (Z15 _) ZP (.one rfl (.one rfl .nil)) (fun hbad => ?_) ?_
              · exact JX.pnI (by first | (unfold kwP; rw [hz1]; simp only [Option.bind_some]; rw [if_neg hT, if_neg hF, if_neg hN, hq]; dsimp only; rw [wantY hlp]; simp only [Option.bind_some]; rw [Z2P hcnt, hst]; simp only [Bool.true_and, if_true]; rw [wantN hbad]; rfl) | (first | (unfold kwP; rw [hz1]; simp only [Option.bind_some]; rw [if_neg hT, if_neg hF, if_neg hN, hq]; dsimp only; rw [wantY hlp]; simp only [Option.bind_some]; rw [Z2P hcnt, hst]; simp only [Bool.true_and, Bool.false_eq_true, if_false]; rw [hzr]; simp only [Option.bind_some]; rw [wantN hbad]; rfl) | (unfold kwP; rw [hz1]; simp only [Option.bind_some]; rw [if_neg hT, if_neg hF, if_neg hN, hq]; dsimp only; rw [wantY hlp]; simp only [Option.bind_some]; rw [if_neg (by rw [Bool.and_eq_true]; exact fun h => Z5d hcnt h.1)]; rw [hzr]; simp only [Option.bind_some]; rw [wantN hbad]; rfl)))
              intro _ hrp
              try dsimp only [nA, cA]
              apply Ni
              repeat first | apply Nx | apply Nb
              refine Sl [2, 4] (.cons rfl (.cons rfl .nil)) ?_
              rw [ZE hrp]
              repeat apply Sq
              apply Pn
              refine Jt (Z2p Za rfl) rfl ?_
              refine JO.m (Z3 rfl rfl (by repeat first | exact .here | apply Ut) (by first | exact cI rfl rfl | exact cE) (by first | exact cI rfl rfl | exact cE | exact cO) Zn) (by rfl) ?_
              apply Ni
              repeat first | apply Nx | apply Nb
              refine Sl [2] (.cons rfl .nil) ?_
              repeat apply Sq
              apply Rt
              repeat first | apply Rp | apply Rb
              refine JX.toP ?_
              exact JX.retLCs (Lr := [_, _]) (L1 := fun z : Ex × List T3 => [PB T b z.2]) (R := fun z => .rep (ExR z.1)) rfl (nd q [z.1], z.2.tail) (by unfold kwP; rw [hz1]; simp only [Option.bind_some]; rw [if_neg hT, if_neg hF, if_neg hN, hq]; dsimp only; rw [wantY hlp]; simp only [Option.bind_some]; rw [Z2P hcnt, hst]; simp only [Bool.true_and, Bool.false_eq_true, if_false]; rw [hzr]; simp only [Option.bind_some]; rw [wantY hrp]; rfl) (.refl _) rfl rfl hb0 rfl Za HasOwn.mem Z1l (Sub.refl _)
            ·
              try simp only [dT, dF] at ht37
              apply Sk
              repeat first | apply Nx | apply Nb
              first | (refine J.has (L' := [PB T b z.2, ⟨b4, Z6, .rep (ExR (nd q [z.1]))⟩, ⟨b2, Z6, .is (.agg #[.int .i64 0, .int .i64 0, .int .i64 0, .string ⟨#[]⟩, .string ⟨#[]⟩, .string ⟨#[]⟩, .int .i64 0, .slice none 0 0])⟩]) (by repeat (first | exact .all | exact .nil | refine Has.cons (by repeat (first | exact .here | apply Pk.past | apply Pk.there)) ?_)) ?_; have husx := (exprDn hzr).trans (Zi ((ZF 1 _ _ hz1).1.trans hts))) | (have hst : isT 5 Z1a r1.tail = true := (by simpa using ht37); rw [ZE hst]; have husx := Zi (Zi ((ZF 1 _ _ hz1).1.trans hts)))
              repeat apply Sq
              apply Pn
              refine Jt (Z0 rfl) rfl ?_
              refine Jt (Z0 rfl) rfl ?_
              refine JO.callK (Lr := [_, _]) (Z9 T hc b _ husx s_rp) rfl (.refl _) (fun F hF => by repeat (first | (rcases Mc.1 hF with rfl | hF; · (repeat first | exact Mh | apply Mt)) | (cases hF; done))) (.one rfl (.one rfl .nil)) ?_
              intro _ _
              try dsimp only [nA, cA]
              refine JO.callPK (Lr := _) (Z8 (.pointer (some ⟨b, 0, none⟩)) (isT 5 s_rp _)) rfl (Z15 _) ZP (.one rfl (.one rfl .nil)) (fun hbad => ?_) ?_
              · exact JX.pnI (by first | (unfold kwP; rw [hz1]; simp only [Option.bind_some]; rw [if_neg hT, if_neg hF, if_neg hN, hq]; dsimp only; rw [wantY hlp]; simp only [Option.bind_some]; rw [Z2P hcnt, hst]; simp only [Bool.true_and, if_true]; rw [wantN hbad]; rfl) | (first | (unfold kwP; rw [hz1]; simp only [Option.bind_some]; rw [if_neg hT, if_neg hF, if_neg hN, hq]; dsimp only; rw [wantY hlp]; simp only [Option.bind_some]; rw [Z2P hcnt, hst]; simp only [Bool.true_and, Bool.false_eq_true, if_false]; rw [hzr]; simp only [Option.bind_some]; rw [wantN hbad]; rfl) | (unfold kwP; rw [hz1]; simp only [Option.bind_some]; rw [if_neg hT, if_neg hF, if_neg hN, hq]; dsimp only; rw [wantY hlp]; simp only [Option.bind_some]; rw [if_neg (by rw [Bool.and_eq_true]; exact fun h => Z5d hcnt h.1)]; rw [hzr]; simp only [Option.bind_some]; rw [wantN hbad]; rfl)))
              intro _ hrp
              try dsimp only [nA, cA]
              apply Ni
              repeat first | apply Nx | apply Nb
              refine Sl [2, 4] (.cons rfl (.cons rfl .nil)) ?_
              rw [ZE hrp]
              repeat apply Sq
              apply Pn
              refine Jt (Z2p Za rfl) rfl ?_
              refine JO.m (Z3 rfl rfl (by repeat first | exact .here | apply Ut) (by first | exact cI rfl rfl | exact cE) (by first | exact cI rfl rfl | exact cE | exact cO) Zn) (by rfl) ?_
              apply Ni
              repeat first | apply Nx | apply Nb
              refine Sl [2] (.cons rfl .nil) ?_
              repeat apply Sq
              apply Rt
              repeat first | apply Rp | apply Rb
              refine JX.toP ?_
              exact JX.retLCs (Lr := [_, _]) (L1 := fun z : Ex × List T3 => [PB T b z.2]) (R := fun z => .rep (ExR z.1)) rfl (nd 20 [], r1.tail.tail.tail) (by unfold kwP; rw [hz1]; simp only [Option.bind_some]; rw [if_neg hT, if_neg hF, if_neg hN, hq]; dsimp only; rw [wantY hlp]; simp only [Option.bind_some]; rw [Z2P hcnt, hst]; simp only [Bool.true_and, if_true]; rw [wantY hrp]; rfl) (.refl _) rfl rfl hb0 rfl Za HasOwn.mem Z1l (Sub.refl _)
          ·
            repeat apply Sq
            apply Pn
            refine Jt (Z0 rfl) rfl ?_
            refine Jt (Zbk (cc := true) rfl rfl (by rw [hcnt]; rfl)) rfl ?_
            refine Jt (Z0 rfl) rfl ?_
            refine JO.gn rfl rfl rfl rfl rfl ?_
            refine JO.gn rfl rfl rfl rfl rfl ?_
            refine JO.gn rfl rfl rfl rfl rfl ?_
            refine Jt (Zbw rfl rfl) rfl ?_
            apply Ni
            repeat first | apply Nx | apply Nb
            refine Sl [0, 2, 3, 4, 37] (.cons rfl (.cons rfl (.cons rfl (.cons rfl (.cons rfl .nil))))) ?_
            repeat apply Sq
            refine Cd rfl (fun ht37 => ?_) (fun ht37 => ?_)
            ·
              try simp only [dT, dF] at ht37
              try have hst : isT 5 Z1a r1.tail = false := by simpa using ht37
              try rw [ZI hst]
              refine J.has (L' := [PB T b r1.tail, ⟨b4, Z6, .rep (ExR (nd 20 []))⟩, ⟨b2, Z6, .is (.agg #[.int .i64 0, .int .i64 0, .int .i64 0, .string ⟨#[]⟩, .string ⟨#[]⟩, .string ⟨#[]⟩, .int .i64 0, .slice none 0 0])⟩]) (by repeat (first | exact .all | exact .nil | refine Has.cons (by repeat (first | exact .here | apply Pk.past | apply Pk.there)) ?_)) ?_
              repeat apply Sq
              refine J.regMach (Bad := e r1.tail = none) (ch := flt) 11 (KwS.L T b (r1.tail) [⟨b4, Z6, .rep (ExR (nd 20 []))⟩, ⟨b2, Z6, .is (.agg #[.int .i64 0, .int .i64 0, .int .i64 0, .string ⟨#[]⟩, .string ⟨#[]⟩, .string ⟨#[]⟩, .int .i64 0, .slice none 0 0])⟩]) (KwS.T b w q) (KwS.inv e (r1.tail)) (fun i => decide (i < 5) || i == 9) ⟨⟨none, [], 0⟩, none⟩ rfl ?_ (fun hbad => ?_) hmx (by kernel_rfl) rfl (by kernel_rfl) ?_ ?_ ?_
              · exact ⟨.start (fun j => by rw [Array.getD_eq_getD_getElem?, Array.getElem?_replicate]; split <;> rfl), (fun h => by cases h), rfl, (fun z h => by cases h), (fun h => by cases h)⟩
              · exact JX.pnI (by first | (unfold kwP; rw [hz1]; simp only [Option.bind_some]; rw [if_neg hT, if_neg hF, if_neg hN, hq]; dsimp only; rw [wantY hlp]; simp only [Option.bind_some]; rw [Z2P hcnt, hst]; simp only [Bool.true_and, Bool.false_eq_true, if_false]; rw [hbad]; rfl) | (unfold kwP; rw [hz1]; simp only [Option.bind_some]; rw [if_neg hT, if_neg hF, if_neg hN, hq]; dsimp only; rw [wantY hlp]; simp only [Option.bind_some]; rw [if_neg (by rw [Bool.and_eq_true]; exact fun h => Z5d hcnt h.1)]; rw [hbad]; rfl))
              · intro s D i o hs hinv hA hbg hd hr
                match i, hA, hbg, hd, hr with
                | 0, _, hbg, _, _ => exact absurd hbg (by decide)
                | 1, _, hbg, _, _ => exact absurd hbg (by decide)
                | 2, _, hbg, _, _ => exact absurd hbg (by decide)
                | 3, _, hbg, _, _ => exact absurd hbg (by decide)
                | 4, _, hbg, _, _ => exact absurd hbg (by decide)
                | 5, hA, _, hd, hr =>
                  obtain rfl := Option.some.inj hA
                  have h9 := hinv.other (i := 5) (by omega) (by decide) (by decide) (fun _ j hj => by
                    match j, hj with
                    | 0, _ => exact hr _ rfl ⟨0, .data⟩ (by simp) rfl
                    | 1, _ => exact hr _ rfl ⟨1, .data⟩ (by simp) rfl
                    | 2, _ => exact hr _ rfl ⟨2, .data⟩ (by simp) rfl
                    | 3, _ => exact hr _ rfl ⟨3, .data⟩ (by simp) rfl
                    | 4, _ => exact hr _ rfl ⟨4, .data⟩ (by simp) rfl) (fun h => by cases h)
                  exact ⟨h9, rfl, (Z0 rfl)⟩
                | 6, hA, _, hd, hr =>
                  obtain rfl := Option.some.inj hA
                  exact ⟨hinv.other (by omega) (by decide) (by decide) (fun h => by cases h) (fun h => by cases h), rfl, (Z0 rfl)⟩
                | 7, hA, _, hd, hr =>
                  obtain rfl := Option.some.inj hA
                  have hall := hinv.f (hr _ rfl ⟨5, .data⟩ (by simp) rfl)
                  refine ⟨hinv.other (by omega) (by decide) (by decide) (fun h => by cases h) (fun h => by cases h), rfl, ?_⟩
                  obtain ⟨j, hj4, hj⟩ := ZcR hq
                  have hget := hinv.m.get Z4J hj (hall (j + 1) (by omega))
                  obtain ⟨r, hr0⟩ := hinv.m.some_ (hall 0 (by decide))
                  obtain ⟨⟨mp, es, n⟩, zo⟩ := s
                  dsimp only at hr0; subst hr0
                  exact ZcO Z19 Zo ZeP rfl rfl (List.mem_cons_of_mem _ List.mem_cons_self) (by dsimp only at hget; rw [hget]; rfl)
                | 8, hA, _, hd, hr =>
                  obtain rfl := Option.some.inj hA
                  exact ⟨hinv.other (by omega) (by decide) (by decide) (fun h => by cases h) (fun h => by cases h), rfl, (Z0 rfl)⟩
                | 9, _, hbg, _, _ => exact absurd hbg (by decide)
                | 10, hA, _, hd, hr =>
                  obtain rfl := Option.some.inj hA
                  exact ⟨hinv.other (by omega) (by decide) (by decide) (fun h => by cases h) (fun _ => hr _ rfl ⟨9, .data⟩ (by simp) rfl), rfl, (Z35 ZR rfl)⟩
                | i + 11, hA, _, hd, hr => simp at hA
              · intro s D i o hs hinv hA hbg hd hr
                match i, hA, hbg, hd, hr with
                | 0, hA, _, hd, hr =>
                  obtain rfl := Option.some.inj hA
                  obtain ⟨⟨mp, es, n⟩, zo⟩ := s
                  have hmp : mp = none := by
                    have := hinv.m.a
                    dsimp only at this
                    rw [hd] at this
                    cases mp with
                    | none => rfl
                    | some r => cases this
                  subst hmp
                  have h5 : D.getD 5 false = false := by
                    cases h : D.getD 5 false with
                    | false => rfl
                    | true => have := hinv.f h 0 (by decide); rw [hd] at this; cases this
                  exact ⟨rfl, .inl (Zab.to (fun r => ⟨⟨⟨some r, [], 0⟩, zo⟩, hinv.make (by omega) hd r, fun j hj => kwT0 h5 hd hj⟩) (fun _ => rfl) (fun _ => .swap _ _ _))⟩
                | 1, hA, _, hd, hr =>
                  obtain rfl := Option.some.inj hA
                  obtain ⟨⟨mp, es, n⟩, zo⟩ := s
                  obtain ⟨r, hr0⟩ := hinv.m.some_ (hr _ rfl ⟨0, .data⟩ (by simp) rfl)
                  dsimp only at hr0; subst hr0
                  have hg := hinv.m.fresh Z4J (j := 0) rfl hd
                  have hi := hinv.ins (j := 0) (by omega) rfl (by decide) hd (hr _ rfl ⟨0, .data⟩ (by simp) rfl)
                  exact ⟨rfl, .inl ((BigOb.ofM (Z1w Z19 Zo rfl rfl rfl hg (.there .here)) rfl).to (fun _ => ⟨_, hi, fun j hj => rfl⟩) (fun _ => rfl) (fun _ => .refl _))⟩
                | 2, hA, _, hd, hr =>
                  obtain rfl := Option.some.inj hA
                  obtain ⟨⟨mp, es, n⟩, zo⟩ := s
                  obtain ⟨r, hr0⟩ := hinv.m.some_ (hr _ rfl ⟨0, .data⟩ (by simp) rfl)
                  dsimp only at hr0; subst hr0
                  have hg := hinv.m.fresh Z4J (j := 1) rfl hd
                  have hi := hinv.ins (j := 1) (by omega) rfl (by decide) hd (hr _ rfl ⟨0, .data⟩ (by simp) rfl)
                  exact ⟨rfl, .inl ((BigOb.ofM (Z1w Z19 Zo rfl rfl rfl hg (.there .here)) rfl).to (fun _ => ⟨_, hi, fun j hj => rfl⟩) (fun _ => rfl) (fun _ => .refl _))⟩
                | 3, hA, _, hd, hr =>
                  obtain rfl := Option.some.inj hA
                  obtain ⟨⟨mp, es, n⟩, zo⟩ := s
                  obtain ⟨r, hr0⟩ := hinv.m.some_ (hr _ rfl ⟨0, .data⟩ (by simp) rfl)
                  dsimp only at hr0; subst hr0
                  have hg := hinv.m.fresh Z4J (j := 2) rfl hd
                  have hi := hinv.ins (j := 2) (by omega) rfl (by decide) hd (hr _ rfl ⟨0, .data⟩ (by simp) rfl)
                  exact ⟨rfl, .inl ((BigOb.ofM (Z1w Z19 Zo rfl rfl rfl hg (.there .here)) rfl).to (fun _ => ⟨_, hi, fun j hj => rfl⟩) (fun _ => rfl) (fun _ => .refl _))⟩
                | 4, hA, _, hd, hr =>
                  obtain rfl := Option.some.inj hA
                  obtain ⟨⟨mp, es, n⟩, zo⟩ := s
                  obtain ⟨r, hr0⟩ := hinv.m.some_ (hr _ rfl ⟨0, .data⟩ (by simp) rfl)
                  dsimp only at hr0; subst hr0
                  have hg := hinv.m.fresh Z4J (j := 3) rfl hd
                  have hi := hinv.ins (j := 3) (by omega) rfl (by decide) hd (hr _ rfl ⟨0, .data⟩ (by simp) rfl)
                  exact ⟨rfl, .inl ((BigOb.ofM (Z1w Z19 Zo rfl rfl rfl hg (.there .here)) rfl).to (fun _ => ⟨_, hi, fun j hj => rfl⟩) (fun _ => rfl) (fun _ => .refl _))⟩
                | 5, _, hbg, _, _ => exact absurd hbg (by decide)
                | 6, _, hbg, _, _ => exact absurd hbg (by decide)
                | 7, _, hbg, _, _ => exact absurd hbg (by decide)
                | 8, _, hbg, _, _ => exact absurd hbg (by decide)
                | 9, hA, _, hd, hr =>
                  obtain rfl := Option.some.inj hA
                  obtain ⟨m, zo⟩ := s
                  have hzo : zo = none := by
                    have := hinv.z
                    dsimp only at this
                    rw [hd] at this
                    cases zo with
                    | none => rfl
                    | some r => cases this
                  subst hzo
                  have h10 : D.getD 10 false = false := by
                    cases h : D.getD 10 false with
                    | false => rfl
                    | true => have := hinv.g h; rw [hd] at this; cases this
                  exact ⟨rfl, .inr ((Z4L rfl (hex r1.tail (Zi ((ZF 1 _ _ hz1).1.trans hts)) (by have := (Zr hlp).2; have h1 : r1.length < ts.length := (ZF 1 _ _ hz1).2; omega)) (.refl _) (fun F hF => by repeat (first | (rcases Mc.1 hF with rfl | hF; · (repeat first | exact Mh | apply Mt)) | (cases hF; done))) (.one rfl .nil)).to (fun z => ⟨⟨m, some z.1⟩, hinv.call (by omega) z.2, fun j hj => kwT9 h10 hd hj⟩) (fun _ => rfl) (fun _ => .refl _))⟩
                | 10, _, hbg, _, _ => exact absurd hbg (by decide)
                | i + 11, hA, _, hd, hr => simp at hA
              intro s D hs hall hinv
              obtain ⟨⟨mp, es, n⟩, zo⟩ := s
              obtain ⟨r, hr0⟩ := hinv.m.some_ (hall 0 (by decide))
              dsimp only at hr0; subst hr0
              have hzz := hinv.z
              rw [hall 9 (by decide)] at hzz
              obtain ⟨z, hzo⟩ := Option.isSome_iff_exists.1 hzz.symm
              dsimp only at hzo; subst hzo
              have hzr : e (r1.tail) = some z := hinv.r z rfl
              refine JO.subL (L' := [PB T b z.2] ++ (⟨r, 0, .ob (sObj es n)⟩ :: [⟨b4, Z6, .rep (ExR (nd 20 []))⟩, ⟨b2, Z6, .is (.agg #[.int .i64 0, .int .i64 0, .int .i64 0, .string ⟨#[]⟩, .string ⟨#[]⟩, .string ⟨#[]⟩, .int .i64 0, .slice none 0 0])⟩])) (.refl _) ?_
              try dsimp only [nA, cA]
              refine Jt (ZW rfl (Z1U q [z.1]) (.one rfl (.one rfl .nil))) rfl ?_
              refine JO.m (Z3 rfl rfl (by repeat first | exact .here | apply Ut) (by first | exact cI rfl rfl | exact cE) (by first | exact cI rfl rfl | exact cE | exact cO) Zn) (by rfl) ?_
              apply Ni
              repeat first | apply Nx | apply Nb
              refine Sl [0, 2, 4] (.cons rfl (.cons rfl (.cons rfl .nil))) ?_
              first | (refine J.has (L' := [PB T b z.2, ⟨b4, Z6, .rep (ExR (nd q [z.1]))⟩, ⟨b2, Z6, .is (.agg #[.int .i64 0, .int .i64 0, .int .i64 0, .string ⟨#[]⟩, .string ⟨#[]⟩, .string ⟨#[]⟩, .int .i64 0, .slice none 0 0])⟩]) (by repeat (first | exact .all | exact .nil | refine Has.cons (by repeat (first | exact .here | apply Pk.past | apply Pk.there)) ?_)) ?_; have husx := (exprDn hzr).trans (Zi ((ZF 1 _ _ hz1).1.trans hts))) | (have hst : isT 5 Z1a r1.tail = true := (by simpa using ht37); rw [ZE hst]; have husx := Zi (Zi ((ZF 1 _ _ hz1).1.trans hts)))
              repeat apply Sq
              apply Pn
              refine Jt (Z0 rfl) rfl ?_
              refine Jt (Z0 rfl) rfl ?_
              refine JO.callK (Lr := [_, _]) (Z9 T hc b _ husx s_rp) rfl (.refl _) (fun F hF => by repeat (first | (rcases Mc.1 hF with rfl | hF; · (repeat first | exact Mh | apply Mt)) | (cases hF; done))) (.one rfl (.one rfl .nil)) ?_
              intro _ _
              try dsimp only [nA, cA]
              refine JO.callPK (Lr := _) (Z8 (.pointer (some ⟨b, 0, none⟩)) (isT 5 s_rp _)) rfl (Z15 _) ZP (.one rfl (.one rfl .nil)) (fun hbad => ?_) ?_
              · exact JX.pnI (by first | (unfold kwP; rw [hz1]; simp only [Option.bind_some]; rw [if_neg hT, if_neg hF, if_neg hN, hq]; dsimp only; rw [wantY hlp]; simp only [Option.bind_some]; rw [Z2P hcnt, hst]; simp only [Bool.true_and, if_true]; rw [wantN hbad]; rfl) | (first | (unfold kwP; rw [hz1]; simp only [Option.bind_some]; rw [if_neg hT, if_neg hF, if_neg hN, hq]; dsimp only; rw [wantY hlp]; simp only [Option.bind_some]; rw [Z2P hcnt, hst]; simp only [Bool.true_and, Bool.false_eq_true, if_false]; rw [hzr]; simp only [Option.bind_some]; rw [wantN hbad]; rfl) | (unfold kwP; rw [hz1]; simp only [Option.bind_some]; rw [if_neg hT, if_neg hF, if_neg hN, hq]; dsimp only; rw [wantY hlp]; simp only [Option.bind_some]; rw [if_neg (by rw [Bool.and_eq_true]; exact fun h => Z5d hcnt h.1)]; rw [hzr]; simp only [Option.bind_some]; rw [wantN hbad]; rfl)))
              intro _ hrp
              try dsimp only [nA, cA]
              apply Ni
              repeat first | apply Nx | apply Nb
              refine Sl [2, 4] (.cons rfl (.cons rfl .nil)) ?_
              rw [ZE hrp]
              repeat apply Sq
              apply Pn
              refine Jt (Z2p Za rfl) rfl ?_
              refine JO.m (Z3 rfl rfl (by repeat first | exact .here | apply Ut) (by first | exact cI rfl rfl | exact cE) (by first | exact cI rfl rfl | exact cE | exact cO) Zn) (by rfl) ?_
              apply Ni
              repeat first | apply Nx | apply Nb
              refine Sl [2] (.cons rfl .nil) ?_
              repeat apply Sq
              apply Rt
              repeat first | apply Rp | apply Rb
              refine JX.toP ?_
              exact JX.retLCs (Lr := [_, _]) (L1 := fun z : Ex × List T3 => [PB T b z.2]) (R := fun z => .rep (ExR z.1)) rfl (nd q [z.1], z.2.tail) (by unfold kwP; rw [hz1]; simp only [Option.bind_some]; rw [if_neg hT, if_neg hF, if_neg hN, hq]; dsimp only; rw [wantY hlp]; simp only [Option.bind_some]; rw [if_neg (by rw [Bool.and_eq_true]; exact fun h => Z5d hcnt h.1)]; rw [hzr]; simp only [Option.bind_some]; rw [wantY hrp]; rfl) (.refl _) rfl rfl hb0 rfl Za HasOwn.mem Z1l (Sub.refl _)
            ·
              try simp only [dT, dF] at ht37
              exfalso
              cases ht37
        ·
          try simp only [dT, dF] at ht21
          apply Sk
          repeat first | apply Nx | apply Nb
          repeat apply Sq
          apply Pn
          refine Jt (Zs (cs := []) Z6A .nil rfl rfl) rfl ?_
          refine Jt (Zbg (d := .struct #[]) (by kernel_rfl) rfl rfl) rfl ?_
          refine JO.pan rfl ?_
          exact JX.pnI (by unfold kwP; rw [hz1]; simp only [Option.bind_some]; rw [if_neg hT, if_neg hF, if_neg hN, aggN ht21])
end Go.Proofs.YtbedigkncjbggaaGreatDoor
