/- Expressions and rows in the rules. No condition. -/
import Derived.Test.YtjlojkchgfeenaaXVc12
namespace Go.Vc
open Go
section
variable {P : Program} {L : List Own} {Φ : List (World → Prop)} {H : Know} {dst : Option Nat} {ty : TypeId} {pos : String} {after : Array Edge} {g : Option (Nat × Bool)}
theorem Sub.fact {V : Value} {R : Value → World → Prop} (h : R V ∈ Φ) : Sub L Φ (.is V) (.rep R) := fun E v w hf e => by
  rw [show v = V from e]
  exact hf.2 _ h
theorem run_loadRow {t : TypeId} {b o : Nat} {cs : List Value} {w : World} (hs : szOf P t = some (some cs.length)) (h : RowAt cs b o w) : (loadVar t ⟨b, o, none⟩).run P w = .ok (.agg cs.toArray) w :=
  run_loadN hs fun j v hj => by rw [add_at]; exact h j v hj
theorem ob_loadKid {t : TypeId} {x : Operand} {b o off i len : Nat} {kids : List Ex} {kid : Ex} {a : Option Addr} (hs : szOf P t = some (some 8)) (hx : H x (.is (.pointer (some ⟨b, off, none⟩)))) (hF : KidsR kids a len ∈ Φ) (ha : a = some ⟨b, o, none⟩) (hi : kids[i]? = some kid) (ho : off = o + 8 * i) :
    Ob P L Φ H ⟨dst, .load t x, ty, pos, after, g⟩ (.rep (ExR kid)) := fun E w ρ hp => by
  subst ha
  have h1 : ρ x = .pointer (some ⟨b, off, none⟩) := hp.x x _ (by simp [Op.operands]) hx
  obtain ⟨cs, h8, hr, hR⟩ := kid_load (hp.f _ hF) hi
  have hl := run_loadRow (P := P) (t := t) (w := w) (by rw [h8]; exact hs) (by rw [← ho] at hr; exact hr)
  simp only [execOp, h1, Instr.loadAt, Instr.sureAddr, Sem.run_bind, Sem.run_pure, Result.andThen_ok, hl]
  exact ⟨.refl _ _, hR⟩
abbrev vv (v : V3) : Value := .agg #[.int .i64 v.k, .int .i64 v.n, .string v.s]
theorem row_get {vals : List V3} {b o len i : Nat} {v : V3} {w : World} (h : RowR vals (some ⟨b, o, none⟩) len w) (hi : vals[i]? = some v) : RowAt v.cells b (o + 3 * i) w := by
  obtain ⟨hl, hk⟩ := h
  have hne : len ≠ 0 := fun e => by rw [e] at hl; rw [List.length_eq_zero_iff.1 hl] at hi; simp at hi
  obtain ⟨b', o', e, hK⟩ := hk hne
  injection e with e
  injection e with e1 e2
  subst e1 e2
  exact hK i v hi
theorem ob_loadVal {t : TypeId} {x : Operand} {b o off i len : Nat} {vals : List V3} {v : V3} {a : Option Addr} (hs : szOf P t = some (some 3)) (hx : H x (.is (.pointer (some ⟨b, off, none⟩)))) (hF : RowR vals a len ∈ Φ) (ha : a = some ⟨b, o, none⟩) (hi : vals[i]? = some v) (ho : off = o + 3 * i) :
    Ob P L Φ H ⟨dst, .load t x, ty, pos, after, g⟩ (.is (vv v)) :=
  ob_load hx fun E w hf => run_loadRow (cs := v.cells) hs (by rw [ho]; exact row_get (by subst ha; exact (hf.2 _ hF).now) hi)
theorem ob_loadValF {t : TypeId} {x : Operand} {b o off i j len : Nat} {vals : List V3} {v : V3} {u : Value} {a : Option Addr} (hs : szOf P t = some none) (hx : H x (.is (.pointer (some ⟨b, off, none⟩)))) (hF : RowR vals a len ∈ Φ) (ha : a = some ⟨b, o, none⟩) (hi : vals[i]? = some v) (ho : off = o + 3 * i + j) (hu : v.cells[j]? = some u) :
    Ob P L Φ H ⟨dst, .load t x, ty, pos, after, g⟩ (.is u) :=
  ob_load hx fun E w hf => run_load1 hs (by rw [ho]; exact row_get (by subst ha; exact (hf.2 _ hF).now) hi j u hu)
variable {c : Ctx} {K : List (Nat × Ty)} {Q : Exit → Act → World → Prop}
theorem J.rowKnow {x : Code} {vals : List V3} {a : Option Addr} {len : Nat} (h : RowR vals a len ∈ Φ) (hj : ∀ b o, vals.length = len → (len ≠ 0 → a = some ⟨b, o, none⟩) → J P c K L Φ x Q) : J P c K L Φ x Q := by
  refine J.know (vals.length = len ∧ ∃ b o, len ≠ 0 → a = some ⟨b, o, none⟩) (fun E w hG _ => ?_) (fun ⟨h1, b, o, h2⟩ => hj b o h1 h2)
  obtain ⟨hl, hk⟩ := (hG _ h).now
  refine ⟨hl, ?_⟩
  by_cases hn : len = 0
  · exact ⟨0, 0, fun h => absurd hn h⟩
  · obtain ⟨b, o, e, _⟩ := hk hn; exact ⟨b, o, fun _ => e⟩
theorem agg_inj {a b : List Value} (h : Value.agg a.toArray = .agg b.toArray) : a = b := by
  injection h with h
  injection h
theorem J.openEx {x : Code} {s : Nat} {k vk vn : Int} {vs tb nm : ByteArray} {sl : Int} {kids : List Ex} (h : look K s = some (.rep (ExR (.mk k vk vn vs tb nm sl kids))))
    (hj : ∀ a len cap b o, kids.length = len → (len ≠ 0 → a = some ⟨b, o, none⟩) → J P c ((s, .is (.agg (exCells k vk vn vs tb nm sl a len cap).toArray)) :: K) L (KidsR kids a len :: ExR (.mk k vk vn vs tb nm sl kids) (.agg (exCells k vk vn vs tb nm sl a len cap).toArray) :: Φ) x Q) : J P c K L Φ x Q := by
  refine J.open_ h ?_
  rintro v ⟨w, hw⟩
  obtain ⟨a, len, cap, rfl, hl, hk⟩ := exR_mk.1 hw
  obtain ⟨b, o, hbo⟩ : ∃ b o, len ≠ 0 → a = some ⟨b, o, none⟩ := by
    by_cases hn : len = 0
    · exact ⟨0, 0, fun h => absurd hn h⟩
    · obtain ⟨b, o, e, _⟩ := hk hn; exact ⟨b, o, fun _ => e⟩
  refine J.fact (KidsR kids a len) (fun E w hG _ => ?_) (hj a len cap b o hl hbo)
  intro w' hk'
  obtain ⟨a', len', cap', e, hK⟩ := exR_mk.1 (hG _ List.mem_cons_self w' hk')
  have e2 := agg_inj e
  simp only [exCells, List.cons.injEq, Value.slice.injEq, and_true, true_and] at e2
  obtain ⟨rfl, rfl, rfl⟩ := e2
  exact hK
theorem J.openExs {x : Code} {s : Nat} {kids : List Ex} (h : look K s = some (.rep (ExsR kids)))
    (hj : ∀ a len cap b o, kids.length = len → (len ≠ 0 → a = some ⟨b, o, none⟩) → J P c ((s, .is (.slice a len cap)) :: K) L (KidsR kids a len :: ExsR kids (.slice a len cap) :: Φ) x Q) : J P c K L Φ x Q := by
  refine J.open_ h ?_
  rintro v ⟨w, a, len, cap, rfl, hl, hk⟩
  obtain ⟨b, o, hbo⟩ : ∃ b o, len ≠ 0 → a = some ⟨b, o, none⟩ := by
    by_cases hn : len = 0
    · exact ⟨0, 0, fun h => absurd hn h⟩
    · obtain ⟨b, o, e, _⟩ := hk hn; exact ⟨b, o, fun _ => e⟩
  refine J.fact (KidsR kids a len) (fun E w hG _ => ?_) (hj a len cap b o hl hbo)
  intro w' hk'
  obtain ⟨a', len', cap', e, hK⟩ := hG _ List.mem_cons_self w' hk'
  injection e with e1 e2 e3
  subst e1 e2
  exact hK
theorem J.openRow {x : Code} {s : Nat} {vals : List V3} (h : look K s = some (.rep (RowS vals)))
    (hj : ∀ a len cap b o, vals.length = len → (len ≠ 0 → a = some ⟨b, o, none⟩) → J P c ((s, .is (.slice a len cap)) :: K) L (RowR vals a len :: RowS vals (.slice a len cap) :: Φ) x Q) : J P c K L Φ x Q := by
  refine J.open_ h ?_
  rintro v ⟨w, a, len, cap, rfl, hl, hk⟩
  obtain ⟨b, o, hbo⟩ : ∃ b o, len ≠ 0 → a = some ⟨b, o, none⟩ := by
    by_cases hn : len = 0
    · exact ⟨0, 0, fun h => absurd hn h⟩
    · obtain ⟨b, o, e, _⟩ := hk hn; exact ⟨b, o, fun _ => e⟩
  refine J.fact (RowR vals a len) (fun E w hG _ => ?_) (hj a len cap b o hl hbo)
  intro w' hk'
  obtain ⟨a', len', cap', e, hK⟩ := hG _ List.mem_cons_self w' hk'
  injection e with e1 e2 e3
  subst e1 e2
  exact hK
end
end Go.Vc
