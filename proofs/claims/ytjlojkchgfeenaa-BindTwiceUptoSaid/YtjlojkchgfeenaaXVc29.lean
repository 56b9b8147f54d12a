/- 'append' as the operation of a drawn region that writes. No condition. -/
import Derived.Test.YtjlojkchgfeenaaXVc28
namespace Go.Vc
open Go
abbrev GrG {α : Type} (en : α → List Value) (sz : Nat) (xs : List α) : Type := {p : Option (Nat × List Value) × Nat // Grows en sz xs p.1 p.2}
section
variable {α : Type} {en : α → List Value} {sz : Nat} {P : Program} {L : List Own} {Φ : List (World → Prop)} {H : Know} {d : Nat} {ty t tx e : TypeId} {pos : String} {after : Array Edge} {s x : Operand} {bytes : Nat}
theorem big_ap0 {ys : List α} {T0 TX : Ty} (hT : ApTy P t e sz bytes) (h0 : H s T0) (hT0 : ∀ E v w, T0.p E v w → ∃ a, v = .slice a 0 0) (hx : H x TX) (hS : SrcOf P L Φ sz tx TX ys.length (ys.flatMap en)) (hy : ys ≠ []) (hfit : ys.length * bytes ≤ 140737488355328) (h63 : ys.length ≤ 9223372036854775807) :
    BigOb P L Φ H ⟨some d, .call { callee := .builtin .append, args := #[s, x], argTypes := #[t, tx] }, ty, pos, after, none⟩ (G := GrG en sz ys) (fun g => .is (sliceO g.1.1 ys.length g.1.2)) (fun g => ownO g.1.1 e L) := fun E w ρ hp hnd => by
  obtain ⟨i, z, hi, hz, hzs, rfl, rfl⟩ := hT.get
  obtain ⟨ad, e1⟩ := hT0 E _ w (hp.x s _ (by simp [Op.operands, Call.operands]) h0)
  have e2 := hS E w (ρ x) hp.l hp.f (hp.x x _ (by simp [Op.operands, Call.operands]) hx)
  obtain ⟨cap', cs', w', hr, h1, h2, h3, h4, h5⟩ := run_append_none (P := P) (tx := tx) (ty := ty) (a := ad) hT.ht hi hz hzs e2 (fun h => hy (List.length_eq_zero_iff.1 h)) hfit h63
  have hrun : (execOp ρ ⟨some d, .call { callee := .builtin .append, args := #[s, x], argTypes := #[t, tx] }, ty, pos, after, none⟩).run P w = .ok (.value (.slice (some ⟨w.heap.size, 0, none⟩) ys.length cap')) w' := by
    simp [execOp, resolve, invoke, builtin, e1, hr]
  rw [hrun]
  have hev : Ev E w (fun q => E q ∨ q = w.heap.size) w' := ⟨h5.of_noX, fun q hq => ⟨fun h => h.elim id (fun e => absurd hq (by omega)), .inl⟩⟩
  have hlt : ∀ m ∈ L, m.b < w.heap.size := fun m hm => hp.wf _ (hp.l m hm).1
  refine ⟨⟨(some (w.heap.size, cs'), cap'), h1, h2, h3⟩, _, h5.of_noX, hev, ?_, rfl, ?_, ?_, ?_⟩
  · rintro q (hq | rfl)
    · have := hp.wf q hq; have := h5.size; omega
    · exact lt_of_get h4
  · intro m hm
    rcases List.mem_cons.1 hm with rfl | hm
    · exact ⟨.inr rfl, .agg cs'.toArray, h4, rfl⟩
    · exact Own.keep0 (hp.l m hm) hev h5
  · show ((⟨w.heap.size, e, .is (.agg cs'.toArray)⟩ : Own) :: L |>.map (·.b)).Nodup
    rw [List.map_cons, List.nodup_cons]
    refine ⟨fun h => ?_, hnd⟩
    obtain ⟨m, hm, e'⟩ := List.mem_map.1 h
    have := hlt m hm
    have e'' : m.b = w.heap.size := e'
    omega
  · intro m hm
    rcases List.mem_cons.1 hm with rfl | hm
    · exact .inr (Nat.le_refl _)
    · exact .inl (List.mem_map_of_mem hm)
theorem big_ap {L' : List Own} {C : Option (Nat × List Value) → List Own} {xs : List α} (ys : List α) {st : Option (Nat × List Value)} {cap : Nat} {TX : Ty} (hT : ApTy P t e sz bytes) (hC : Cx e L st C L') (hG : Grows en sz xs st cap) (h0 : H s (.is (sliceO st xs.length cap))) (hx : H x TX)
    (hS : ∀ L, SrcOf P L Φ sz tx TX ys.length (ys.flatMap en)) (hy : ys ≠ []) (hfit : (xs.length + ys.length) * bytes ≤ 140737488355328) (h63 : xs.length + ys.length ≤ 9223372036854775807) :
    BigOb P L Φ H ⟨some d, .call { callee := .builtin .append, args := #[s, x], argTypes := #[t, tx] }, ty, pos, after, none⟩ (G := GrG en sz (xs ++ ys)) (fun g => .is (sliceO g.1.1 (xs ++ ys).length g.1.2)) (fun g => C g.1.1) := fun E w ρ hp hnd => by
  have hTl := hC.tl
  cases st with
  | none =>
    have hxs : xs = [] := hG
    subst hxs
    simp only [List.length_nil, Nat.zero_add] at hfit h63
    have hL : L'.Perm L := hTl.perm
    have h := big_ap0 (P := P) (L := L) (Φ := Φ) (H := H) (d := d) (ty := ty) (pos := pos) (after := after) (en := en) hT h0 (fun E v w h => ⟨none, h⟩) hx (hS _) hy hfit h63 E w ρ hp hnd
    refine h.mono fun v w' ⟨g, E', k1, k2, k3, k4, k5, k6, k7⟩ => ⟨⟨g.1, g.2⟩, E', k1, k2, k3, k4, ?_⟩
    have hper : (C g.1.1).Perm (ownO g.1.1 e L) := (hC.back g.1.1).trans (ownO_perm _ _ hL)
    exact ⟨fun m hm => k5 m ((hper.mem_iff).1 hm), ((hper.map _).nodup_iff).2 k6, fun m hm => k7 m ((hper.mem_iff).1 hm)⟩
  | some p =>
    obtain ⟨b, cs⟩ := p
    obtain ⟨g1, g2, g3⟩ := hG
    obtain ⟨i, z, hi, hz, hzs, rfl, rfl⟩ := hT.get
    have hL : ((⟨b, e, .is (.agg cs.toArray)⟩ : Own) :: L').Perm L := hTl.perm
    have e1 : ρ s = .slice (some ⟨b, 0, none⟩) xs.length cap := hp.x s _ (by simp [Op.operands, Call.operands]) h0
    have e2 := hS L E w (ρ x) hp.l hp.f (hp.x x _ (by simp [Op.operands, Call.operands]) hx)
    have hown : (⟨b, e, .is (.agg cs.toArray)⟩ : Own).at E w := hp.l _ ((hL.mem_iff).1 List.mem_cons_self)
    have hb := own_blk hown rfl
    obtain ⟨b', cap', cs', w', hr, h1, h2, h3, h4, h5, h6⟩ := run_append_own (P := P) (tx := tx) (ty := ty) hT.ht hi hz hzs hb g1 g2 e2 hfit h63
    have hrun : (execOp ρ ⟨some d, .call { callee := .builtin .append, args := #[s, x], argTypes := #[t, tx] }, ty, pos, after, none⟩).run P w = .ok (.value (.slice (some ⟨b', 0, none⟩) (xs.length + ys.length) cap')) w' := by
      simp [execOp, resolve, invoke, builtin, e1, hr]
    rw [hrun]
    have hE : E b := hown.1
    have hbL : b ∈ L.map (·.b) := List.mem_map.2 ⟨_, (hL.mem_iff).1 List.mem_cons_self, rfl⟩
    have hk : Keeps (fun q => q ∈ L.map (·.b)) w w' := h5.mono fun q _ e => by rw [e]; exact hbL
    have hev : Ev E w (fun q => E q ∨ q = b') w' := ⟨h5.mono fun q _ e => by rw [e]; exact hE, fun q hq => ⟨fun h => h.elim id fun e => by
      rcases h6 with h | h
      · rw [e, h]; exact hE
      · exact absurd hq (by omega), .inl⟩⟩
    have hnd' := ((hL.map (·.b)).nodup_iff).2 hnd
    rw [List.map_cons, List.nodup_cons] at hnd'
    have hper : (C (some (b', cs'))).Perm ((⟨b', e, .is (.agg cs'.toArray)⟩ : Own) :: L') := hC.back (some (b', cs'))
    refine ⟨⟨(some (b', cs'), cap'), h1, by rw [List.length_append]; exact h2, by rw [List.length_append, h3, g3, List.flatMap_append]⟩, _, hk, hev, ?_, (by show Value.slice (some ⟨b', 0, none⟩) (xs.length + ys.length) cap' = Value.slice (some ⟨b', 0, none⟩) (xs ++ ys).length cap'; rw [List.length_append]), ?_, ?_, ?_⟩
    · rintro q (hq | rfl)
      · have := hp.wf q hq; have := h5.size; omega
      · exact lt_of_get h4
    · intro m hm
      rcases List.mem_cons.1 ((hper.mem_iff).1 hm) with rfl | hm
      · exact ⟨.inr rfl, .agg cs'.toArray, h4, rfl⟩
      · have h := hp.l m ((hL.mem_iff).1 (List.mem_cons_of_mem _ hm))
        exact Own.keep h hev (h5.blk _ (hp.wf _ h.1) (fun e => hnd'.1 (List.mem_map.2 ⟨m, hm, e⟩)))
    · refine ((hper.map _).nodup_iff).2 ?_
      rw [List.map_cons, List.nodup_cons]
      refine ⟨fun h => ?_, hnd'.2⟩
      obtain ⟨m, hm, e⟩ := List.mem_map.1 h
      have e' : m.b = b' := e
      rcases h6 with h | h
      · exact hnd'.1 (List.mem_map.2 ⟨m, hm, e'.trans h⟩)
      · have := hp.wf m.b (hp.l m ((hL.mem_iff).1 (List.mem_cons_of_mem _ hm))).1
        omega
    · intro m hm
      rcases List.mem_cons.1 ((hper.mem_iff).1 hm) with rfl | hm
      · rcases h6 with h | h
        · show b' ∈ _ ∨ _
          rw [h]; exact .inl hbL
        · exact .inr h
      · exact .inl (List.mem_map_of_mem ((hL.mem_iff).1 (List.mem_cons_of_mem _ hm)))
theorem ob_ap00 {T0 TX : Ty} {dst : Option Nat} {g : Option (Nat × Bool)} (hT : ApTy P t e sz bytes) (h0 : H s T0) (hT0 : ∀ E v w, T0.p E v w → ∃ a, v = .slice a 0 0) (hx : H x TX) (hS : SrcOf P L Φ sz tx TX 0 []) :
    Ob P L Φ H ⟨dst, .call { callee := .builtin .append, args := #[s, x], argTypes := #[t, tx] }, ty, pos, after, g⟩ (.rep fun v _ => ∃ a, v = .slice a 0 0) := fun E w ρ hp => by
  obtain ⟨i, z, hi, hz, hzs, rfl, rfl⟩ := hT.get
  obtain ⟨ad, e1⟩ := hT0 E _ w (hp.x s _ (by simp [Op.operands, Call.operands]) h0)
  have e2 := hS E w (ρ x) hp.l hp.f (hp.x x _ (by simp [Op.operands, Call.operands]) hx)
  have hr := run_append_nothing (P := P) (ty := ty) (a := ad) hT.ht hi e2
  have hrun : (execOp ρ ⟨dst, .call { callee := .builtin .append, args := #[s, x], argTypes := #[t, tx] }, ty, pos, after, g⟩).run P w = .ok (.value (.slice ad 0 0)) w := by
    simp [execOp, resolve, invoke, builtin, e1, hr]
  rw [hrun]
  exact ⟨.refl _ _, fun w' _ => ⟨ad, rfl⟩⟩
end
end Go.Vc
namespace Go.Vc
open Go
section
variable {P : Program} {c : Ctx} {K : List (Nat × Ty)} {L : List Own} {Φ : List (World → Prop)} {Q : Exit → Act → World → Prop}
theorem cut_at {l : List Oper} {p m : Nat} {op : Oper} (h : l[p]? = some op) (hpm : p < m) : l.take p ++ op :: (l.drop (p + 1)).take (m - (p + 1)) = l.take m := by
  have hp : p < l.length := (List.getElem?_eq_some_iff.1 h).1
  have e : op = l[p] := by rw [List.getElem?_eq_getElem hp] at h; injection h with h; exact h.symm
  have h1 : op :: (l.drop (p + 1)).take (m - (p + 1)) = (l.drop p).take (m - p) := by
    rw [List.drop_eq_getElem_cons hp, show m - p = (m - (p + 1)) + 1 by omega, List.take_succ_cons, e]
  rw [h1, show m = p + (m - p) by omega, List.take_add]
  simp
theorem J.regBm {id : Nat} {dr : Bool} {l : List Oper} (p m : Nat) {op : Oper} {d0 : Nat} {G : Type} {Tg : G → Ty} {Lg : G → List Own} (Lq : List Own) (hp : l[p]? = some op) (hpm : Nat.blt p m = true) (hop : op.dst = some d0) (hg : op.guard = none)
    (hmx : P.follows .mixedOrders = true) (hok : (backOK l.toArray && syncOK l.toArray m && regOK (l.take m).toArray && quietOK (l.take m).toArray m) = true) (hml : (l.take m).length = m)
    (hdn : ((l.take m).toArray.all fun o => match o.dst with | some d => decide (d < c.n) | none => true) = true)
    (hq1 : ∀ o ∈ Lq, o ∈ L) (hq2 : ∀ g, ∀ o ∈ Lq, o ∈ Lg g)
    (h : RT P (l.take m).toArray Lq Φ 0 (l.take p) K [] [] (fun K1 _ _ => BigOb P L Φ (Kn K1) op Tg Lg ∧ RT P (l.take m).toArray Lq Φ ((l.take p).length + 1) ((l.drop (p + 1)).take (m - (p + 1))) ((d0, .any) :: K1) [] [] (fun K2 _ _ => ∀ g, JO P c ((d0, Tg g) :: K2) (Lg g) Φ l.toArray (l.drop m) Q))) :
    J P c K L Φ (.region id l.toArray dr) Q := by
  have hc := cut_at hp (Nat.le_of_ble_eq_true hpm)
  have key := J.regB (P := P) (c := c) (K := K) (L := L) (Φ := Φ) (Q := Q) (id := id) (dr := dr) (l1 := l.take p) (l2 := (l.drop (p + 1)).take (m - (p + 1))) (tail := l.drop m) (op := op) (d0 := d0) Tg Lg Lq hop hg hmx
  rw [hc, hml, List.take_append_drop] at key
  exact key hok hdn hq1 hq2 h
theorem RT.big {ops : Array Oper} {op : Oper} {Lq : List Own} {l2 : List Oper} {i : Nat} {d0 : Nat} {G : Type} {Tg : G → Ty} {Lg : G → List Own} {k : List (Nat × Ty) → List Own → Sd → Prop}
    (h : BigOb P L Φ (Kn K) op Tg Lg) (n : RT P ops Lq Φ i l2 ((d0, .any) :: K) [] [] k) :
    RT P ops Lq Φ i [] K [] [] (fun K1 _ _ => BigOb P L Φ (Kn K1) op Tg Lg ∧ RT P ops Lq Φ i l2 ((d0, .any) :: K1) [] [] k) := ⟨h, n⟩
end
end Go.Vc
namespace Go.Vc
open Go
theorem mem_ownO {st : Option (Nat × List Value)} {e : TypeId} {L : List Own} {o : Own} (h : o ∈ L) : o ∈ ownO st e L := by
  cases st with
  | none => exact h
  | some p => exact List.mem_cons_of_mem _ h
theorem emptySl {e : TypeId} : ∀ E v w, (Ty.newSl (.cells #[] e (0, 0)) 0 0).p E v w → ∃ a, v = .slice a 0 0 := fun E v w h => by
  obtain ⟨b, e, _⟩ := h
  exact ⟨_, e⟩
theorem nilSl {a : Option Addr} : ∀ E v w, (Ty.is (.slice a 0 0)).p E v w → ∃ a, v = .slice a 0 0 := fun E v w h => ⟨a, h⟩
theorem Sub.newSlG {L : List Own} {Φ : List (World → Prop)} {α : Type} {en : α → List Value} {sz : Nat} {xs : List α} {cs : List Value} {e : TypeId} {n cap : Nat} (hsz : ∀ x, (en x).length = sz) (hn : xs.length = n) (hc : xs.flatMap en = cs) :
    Sub L Φ (.newSl (.cells cs.toArray e (0, 0)) n cap) (.rep (SlG en sz xs)) := fun E v w _ h => by
  obtain ⟨b, rfl, hE, hb⟩ := h
  refine fun w' hk => sl_of_heap hsz hn ?_ (show HeapIs b cs e w' from hk.get hb hE) cap
  rw [hc, List.take_of_length_le (by rw [← hc, flat_len hsz, hn]; exact Nat.le_refl _)]
section
variable {P : Program} {c : Ctx} {K : List (Nat × Ty)} {L : List Own} {Φ : List (World → Prop)} {Q : Exit → Act → World → Prop}
theorem JO.openNew {ops : Array Oper} {l : List Oper} {s : Nat} {cs : List Value} {e : TypeId} {n cap : Nat} (h : look K s = some (.newSl (.cells cs.toArray e (0, 0)) n cap)) (hj : ∀ b, JO P c ((s, .is (.slice (some ⟨b, 0, none⟩) n cap)) :: K) L (HeapIs b cs e :: Φ) ops l Q) : JO P c K L Φ ops l Q := by
  refine ⟨?_⟩
  intro E a w hs
  obtain ⟨b, hv, hE, hb⟩ := hs.k s _ h
  refine (hj b).out E a w ⟨hs.n, hs.d, hs.wf, fun s' T' hl => ?_, hs.l, hs.ld, fun F hF => ?_, hs.x, hs.xs, hs.keeps, hs.may⟩
  · simp only [look] at hl
    cases hq : Nat.beq s s' with
    | true =>
      rw [hq, cond_true] at hl
      injection hl with hl
      subst hl
      rw [← Nat.eq_of_beq_eq_true hq]
      exact hv
    | false => rw [hq, cond_false] at hl; exact hs.k s' T' hl
  · rcases List.mem_cons.1 hF with rfl | hF
    · exact fun w' hk => hk.get hb hE
    · exact hs.f F hF
theorem JO.openEx {ops : Array Oper} {l : List Oper} {s : Nat} {k vk vn : Int} {vs tb nm : ByteArray} {sl : Int} {kids : List Ex} (h : look K s = some (.rep (ExR (.mk k vk vn vs tb nm sl kids))))
    (hj : ∀ a len cap b o, kids.length = len → (len ≠ 0 → a = some ⟨b, o, none⟩) → JO P c ((s, .is (.agg (exCells k vk vn vs tb nm sl a len cap).toArray)) :: K) L (KidsR kids a len :: ExR (.mk k vk vn vs tb nm sl kids) (.agg (exCells k vk vn vs tb nm sl a len cap).toArray) :: Φ) ops l Q) : JO P c K L Φ ops l Q := by
  refine JO.open_ h ?_
  rintro v ⟨w, hw⟩
  obtain ⟨a, len, cap, rfl, hl, hk⟩ := exR_mk.1 hw
  obtain ⟨b, o, hbo⟩ : ∃ b o, len ≠ 0 → a = some ⟨b, o, none⟩ := by
    by_cases hn : len = 0
    · exact ⟨0, 0, fun h => absurd hn h⟩
    · obtain ⟨b, o, e, _⟩ := hk hn; exact ⟨b, o, fun _ => e⟩
  refine JO.fact (KidsR kids a len) (fun E w hG _ => ?_) (hj a len cap b o hl hbo)
  intro w' hk'
  obtain ⟨a', len', cap', e, hK⟩ := exR_mk.1 (hG _ List.mem_cons_self w' hk')
  have e2 := agg_inj e
  simp only [exCells, List.cons.injEq, Value.slice.injEq, and_true, true_and] at e2
  obtain ⟨rfl, rfl, rfl⟩ := e2
  exact hK
end
theorem kids_heap {xs : List XC} {b n : Nat} {e : TypeId} {w : World} (hn : xs.length = n) (h : HeapIs b (xs.flatMap XC.cs) e w) (hF : XCF xs w) : KidsR (xs.map (·.e)) (some ⟨b, 0, none⟩) n w := by
  subst hn
  obtain ⟨a, len, cap, e1, hr⟩ := sl_of_heap (xs := xs) (enc := XC.cs) (sz := 8) (fun x : XC => x.h) rfl (List.take_of_length_le (by rw [flat_len (fun x : XC => x.h)]; exact Nat.le_refl _)) h 0
  injection e1 with e1 e2 e3
  subst e1 e2
  exact kids_of_row hr hF
theorem exR_leaf {k vk vn : Int} {vs tb nm : ByteArray} {sl : Int} {cap : Nat} {w : World} : ExR (.mk k vk vn vs tb nm sl []) (.agg (exCells k vk vn vs tb nm sl none 0 cap).toArray) w := exR_mk.2 ⟨none, 0, cap, rfl, rfl, fun h => absurd rfl h⟩
section
variable {P : Program} {L : List Own} {Φ : List (World → Prop)} {H : Know} {dst : Option Nat} {ty : TypeId} {pos : String} {after : Array Edge} {g : Option (Nat × Bool)}
theorem ob_loadKidF {t : TypeId} {x : Operand} {b o off i j len : Nat} {kids : List Ex} {k vk vn : Int} {vs tb nm : ByteArray} {sl : Int} {ks : List Ex} {a : Option Addr} {u : Value} (hs : szOf P t = some none) (hx : H x (.is (.pointer (some ⟨b, off, none⟩)))) (hF : KidsR kids a len ∈ Φ) (ha : a = some ⟨b, o, none⟩)
    (hi : kids[i]? = some (.mk k vk vn vs tb nm sl ks)) (ho : off = o + 8 * i + j) (hu : ∀ a len cap, (exCells k vk vn vs tb nm sl a len cap)[j]? = some u) : Ob P L Φ H ⟨dst, .load t x, ty, pos, after, g⟩ (.is u) :=
  ob_load hx fun E w hf => run_load1 hs (by
    subst ha
    obtain ⟨cs, h8, hr, hR⟩ := kid_load (hf.2 _ hF) hi
    obtain ⟨a', len', cap', e, _⟩ := exR_mk.1 hR.now
    have e' := agg_inj e
    subst e'
    rw [ho]
    exact hr j u (hu _ _ _))
end
end Go.Vc
