/- Growing slices in walks: the forms that are printed; slices of expressions that grow. No condition. -/
import Derived.Test.YtjlojkchgfeenaaXVc25
namespace Go.Vc
open Go
section
variable {P : Program} {c : Ctx} {K : List (Nat × Ty)} {L : List Own} {Φ : List (World → Prop)} {Q : Exit → Act → World → Prop}
theorem J.regS {id : Nat} {dr : Bool} {l : List Oper} (m : Nat) (hmx : P.follows .mixedOrders = true) (hok : (backOK l.toArray && syncOK l.toArray m && regOK (l.take m).toArray) = true)
    (hdn : ((l.take m).toArray.all fun o => match o.dst with | some d => decide (d < c.n) | none => true) = true)
    (h : RT P (l.take m).toArray L Φ 0 (l.take m) K [] [] (FinS P c L Φ (Exit.then (wpList P l.toArray Q (l.drop m)) Q))) : J P c K L Φ (.region id l.toArray dr) Q :=
  J.regionS (Lm := []) (Lk := L) m hmx hok hdn h
theorem FinS.tail0 {ops : Array Oper} {l : List Oper} (h : JO P c K L Φ ops l Q) : FinS P c L Φ (Exit.then (wpList P ops Q l) Q) K [] [] := h.out
theorem JO.open_ {ops : Array Oper} {l : List Oper} {s : Nat} {R : Value → World → Prop} (h : look K s = some (.rep R)) (hj : ∀ v, (∃ w, R v w) → JO P c ((s, .is v) :: K) L (R v :: Φ) ops l Q) : JO P c K L Φ ops l Q := by
  refine ⟨?_⟩
  intro E a w hs
  have hR : Pers E w (R (slotOf a s)) := hs.k s _ h
  refine (hj (slotOf a s) ⟨w, hR.now⟩).out E a w ⟨hs.n, hs.d, hs.wf, fun s' T' hl => ?_, hs.l, hs.ld, fun F hF => ?_, hs.x, hs.xs, hs.keeps, hs.may⟩
  · simp only [look] at hl
    cases hq : Nat.beq s s' with
    | true =>
      rw [hq, cond_true] at hl
      injection hl with hl
      subst hl
      rw [← Nat.eq_of_beq_eq_true hq]
      rfl
    | false => rw [hq, cond_false] at hl; exact hs.k s' T' hl
  · rcases List.mem_cons.1 hF with rfl | hF
    · exact hR
    · exact hs.f F hF
theorem JO.openX {ops : Array Oper} {l : List Oper} {s : Nat} {x : Ex} (h : look K s = some (.rep (ExR x)))
    (hj : ∀ k vk vn vs tb nm sl a len cap, JO P c ((s, .is (.agg (exCells k vk vn vs tb nm sl a len cap).toArray)) :: K) L (ExR x (.agg (exCells k vk vn vs tb nm sl a len cap).toArray) :: Φ) ops l Q) : JO P c K L Φ ops l Q := by
  refine JO.open_ h ?_
  rintro v ⟨w, hw⟩
  obtain ⟨k, vk, vn, vs, tb, nm, sl, a, len, cap, rfl⟩ := exR_agg hw
  exact hj k vk vn vs tb nm sl a len cap
theorem JO.fact {ops : Array Oper} {l : List Oper} (F : World → Prop) (hF : ∀ E w, (∀ G ∈ Φ, Pers E w G) → (∀ o ∈ L, o.at E w) → Pers E w F) (hj : JO P c K L (F :: Φ) ops l Q) : JO P c K L Φ ops l Q :=
  ⟨fun E a w hs => hj.out E a w ⟨hs.n, hs.d, hs.wf, hs.k, hs.l, hs.ld, fun G hG => by
    rcases List.mem_cons.1 hG with rfl | hG
    · exact hF E w hs.f hs.l
    · exact hs.f G hG, hs.x, hs.xs, hs.keeps, hs.may⟩⟩
inductive Pk : List Own → Own → List Own → Prop
  | here {o : Own} {L : List Own} : Pk (o :: L) o L
  | there {x o : Own} {L L' : List Own} (h : Pk L o L') : Pk (x :: L) o (x :: L')
  | past {st : Option (Nat × List Value)} {e : TypeId} {o : Own} {L L' : List Own} (h : Pk L o L') : Pk (ownO st e L) o (ownO st e L')
theorem Pk.perm {o : Own} {L L' : List Own} (h : Pk L o L') : (o :: L').Perm L := by
  induction h with
  | here => exact .refl _
  | there _ ih => exact (List.Perm.swap _ _ _).trans (List.Perm.cons _ ih)
  | @past st e o L L' _ ih =>
    cases st with
    | none => exact ih
    | some q => exact (List.Perm.swap _ _ _).trans (List.Perm.cons _ ih)
inductive Has : List Own → List Own → Prop
  | nil {L : List Own} : Has L []
  | own {L L1 R : List Own} {st : Option (Nat × List Value)} {e : TypeId} (h : Tl e L st L1) (r : Has L1 R) : Has L (ownO st e R)
  | cons {L L1 R : List Own} {o : Own} (h : Pk L o L1) (r : Has L1 R) : Has L (o :: R)
  | all {L : List Own} : Has L L
theorem ownO_app (st : Option (Nat × List Value)) (e : TypeId) (L M : List Own) : ownO st e L ++ M = ownO st e (L ++ M) := by cases st <;> rfl
theorem ownO_perm (st : Option (Nat × List Value)) (e : TypeId) {L M : List Own} (h : L.Perm M) : (ownO st e L).Perm (ownO st e M) := by
  cases st with
  | none => exact h
  | some p => exact h.cons _
theorem Has.perm {L R : List Own} (h : Has L R) : ∃ M, L.Perm (R ++ M) := by
  induction h with
  | nil => exact ⟨_, .refl _⟩
  | all => exact ⟨[], by rw [List.append_nil]⟩
  | own h _ ih =>
    obtain ⟨M, hM⟩ := ih
    exact ⟨M, by rw [ownO_app]; exact h.perm.symm.trans (ownO_perm _ _ hM)⟩
  | cons h _ ih =>
    obtain ⟨M, hM⟩ := ih
    exact ⟨M, h.perm.symm.trans (List.Perm.cons _ hM)⟩
theorem Has.mem {L R : List Own} (h : Has L R) : ∀ o ∈ R, o ∈ L := fun o ho => by
  obtain ⟨M, hM⟩ := h.perm
  exact (hM.mem_iff).2 (List.mem_append_left _ ho)
theorem Has.nodup {L R : List Own} (h : Has L R) (hn : (L.map (·.b)).Nodup) : (R.map (·.b)).Nodup := by
  obtain ⟨M, hM⟩ := h.perm
  have h1 := ((hM.map (·.b)).nodup_iff).1 hn
  rw [List.map_append] at h1
  exact (List.nodup_append.1 h1).1
theorem J.has {x : Code} {L' : List Own} (h : Has L L') (hj : J P c K L' Φ x Q) : J P c K L Φ x Q := J.subL h.mem h.nodup hj
theorem J.loopG {α : Type} {body : Code} (Kf : α → List (Nat × Ty)) (Lf : α → List Own) (Ff : α → World → Prop) (inv : α → Prop) (μ : α → Nat) (x0 : α) (ss : List Nat) (h0 : Sel K ss (Kf x0)) (hL : Lf x0 = L) (hF : ∀ w, Ff x0 w) (hi : inv x0)
    (h : ∀ x, inv x → J P c (Kf x) (Lf x) (Ff x :: Φ) body (Exit.then (fun a w => ∃ x', inv x' ∧ μ x' < μ x ∧ ∃ E, SA c (Kf x') (Lf x') (Ff x' :: Φ) E a w) Q)) : J P c K L Φ (.loop body) Q :=
  J.sel ss h0 (J.fact (Ff x0) (fun _ _ _ _ => fun w _ => hF w) (J.loop Kf Lf (fun x => Ff x :: Φ) inv μ x0 ⟨rfl, hL, rfl⟩ hi h))
theorem JX.roundG {Φ' : List (World → Prop)} {α : Type} {Kf : α → List (Nat × Ty)} {Lf : α → List Own} {Ff : α → World → Prop} {inv : α → Prop} {μ : α → Nat} {x : α} (x' : α) (hi : inv x') (hμ : μ x' < μ x) (ss : List Nat) (hK : Sel K ss (Kf x')) (hL : Has L (Lf x')) (hΦ : ∀ G ∈ Φ', G ∈ Φ)
    (hF : ∀ E w, (∀ G ∈ Φ, Pers E w G) → Pers E w (Ff x')) : JX c K L Φ .normal (Exit.then (fun a w => ∃ x', inv x' ∧ μ x' < μ x ∧ ∃ E, SA c (Kf x') (Lf x') (Ff x' :: Φ') E a w) Q) :=
  ⟨fun E a w hs => ⟨x', hi, hμ, E, by
    have h1 := hs.sub hK.look hL.mem (hL.nodup hs.ld) hΦ
    exact ⟨h1.n, h1.d, h1.wf, h1.k, h1.l, h1.ld, fun G hG => by
      rcases List.mem_cons.1 hG with rfl | hG
      · exact hF E w hs.f
      · exact h1.f G hG, h1.x, h1.xs, h1.keeps, h1.may⟩⟩⟩
end
def adO (st : Option (Nat × List Value)) : Option Addr := match st with | none => none | some (b, _) => some ⟨b, 0, none⟩
theorem sliceO_ad {α : Type} {en : α → List Value} {sz : Nat} {xs : List α} {st : Option (Nat × List Value)} {cap : Nat} (h : Grows en sz xs st cap) : ∃ cap', sliceO st xs.length cap = .slice (adO st) xs.length cap' := by
  cases st with
  | none => have h : xs = [] := h; subst h; exact ⟨0, rfl⟩
  | some p => exact ⟨cap, rfl⟩
section
variable {P : Program} {c : Ctx} {K : List (Nat × Ty)} {L L' : List Own} {Φ : List (World → Prop)} {Q : Exit → Act → World → Prop}
theorem J.freezeO {α : Type} {en : α → List Value} {sz : Nat} {xs : List α} {cap : Nat} {x : Code} {st : Option (Nat × List Value)} {e : TypeId} (hen : ∀ x, (en x).length = sz) (hG : Grows en sz xs st cap) (hTl : Tl e L st L') (h0 : ∀ q, ¬ c.X0 q) (hK : K.all (fun p => p.2.out) = true) (hL : L'.all (fun o => o.T.out) = true)
    (h : J P c K L' (RowG en sz xs (adO st) xs.length :: Φ) x Q) : J P c K L Φ x Q := by
  refine J.subL (L' := ownO st e L') (fun o ho => (hTl.perm.mem_iff).1 ho) (fun hn => ((hTl.perm.map _).nodup_iff).2 hn) ?_
  cases st with
  | none =>
    have hG : xs = [] := hG
    subst hG
    exact J.fact _ (fun E w _ _ => fun w' _ => ⟨rfl, fun h => absurd rfl h⟩) h
  | some p =>
    obtain ⟨b, cs⟩ := p
    obtain ⟨h1, h2, h3⟩ := hG
    refine J.freeze (b := b) (e := e) (cs := cs) h0 hK hL ?_
    refine J.fact (RowG en sz xs (adO (some (b, cs))) xs.length) (fun E w hF _ => fun w' hk => ?_) (J.subΦ (fun F hF => ?_) h)
    · have hh := hF _ List.mem_cons_self w' hk
      obtain ⟨a, len, cap', e1, hr⟩ := sl_of_heap hen rfl h3 hh cap
      injection e1 with e1 e2 e3
      subst e1 e2
      exact hr
    · rcases List.mem_cons.1 hF with rfl | hF
      · exact List.mem_cons_self
      · exact List.mem_cons_of_mem _ (List.mem_cons_of_mem _ hF)
end
theorem Sub.slO {L : List Own} {Φ : List (World → Prop)} {α : Type} {en : α → List Value} {sz : Nat} {xs : List α} {cap : Nat} {st : Option (Nat × List Value)} (hG : Grows en sz xs st cap) (h : RowG en sz xs (adO st) xs.length ∈ Φ) :
    Sub L Φ (.is (sliceO st xs.length cap)) (.rep (SlG en sz xs)) := by
  obtain ⟨cap', e⟩ := sliceO_ad hG
  rw [e]
  exact Sub.slFact h
structure XC where
  e : Ex
  cs : List Value
  h : cs.length = 8
abbrev XC.mk' (e : Ex) (k vk vn : Int) (vs tb nm : ByteArray) (sl : Int) (a : Option Addr) (len cap : Nat) : XC := ⟨e, exCells k vk vn vs tb nm sl a len cap, rfl⟩
def XCF (xs : List XC) (w : World) : Prop := ∀ p ∈ xs, ExR p.e (.agg p.cs.toArray) w
theorem kids_of_row {xs : List XC} {a : Option Addr} {w : World} (h : RowG XC.cs 8 xs a xs.length w) (hF : XCF xs w) : KidsR (xs.map (·.e)) a xs.length w := by
  obtain ⟨hl, hk⟩ := h
  refine ⟨by simp, fun hn => ?_⟩
  obtain ⟨b, o, ha, hr⟩ := hk hn
  refine ⟨b, o, ha, kidsAt_mk (xs.map (·.e)) (xs.map (·.cs)) b o w (by simp) (fun i x cs hx hc => ?_) fun j v hj => ?_⟩
  · rw [List.getElem?_map] at hx hc
    cases hp : xs[i]? with
    | none => rw [hp] at hx; cases hx
    | some p =>
      rw [hp] at hx hc
      injection hx with hx
      injection hc with hc
      subst hx hc
      exact ⟨p.h, hF p (List.mem_of_getElem? hp)⟩
  · rw [← List.flatMap_def] at hj
    obtain ⟨x, hx, hu⟩ := flat_at (enc := XC.cs) (sz := 8) (fun x => x.h) (by omega) hj
    have := hr _ x hx _ v hu
    rwa [show o + 8 * (j / 8) + j % 8 = o + j by rw [Nat.add_assoc, Nat.div_add_mod]] at this
theorem XCF.snoc {xs : List XC} {p : XC} {w : World} (h : XCF xs w) (hp : ExR p.e (.agg p.cs.toArray) w) : XCF (xs ++ [p]) w := fun q hq => by
  rcases List.mem_append.1 hq with hq | hq
  · exact h q hq
  · rcases List.mem_cons.1 hq with rfl | hq
    · exact hp
    · cases hq
end Go.Vc
