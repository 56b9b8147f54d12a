/- A drawn region with one operation that writes, beside quiet ones that may come before or behind it, and a row at its end. No condition. -/
import Derived.Test.YtjlojkchgfeenaaXVc27
namespace Go.Vc
open Go
def BigOb (P : Program) (L : List Own) (Φ : List (World → Prop)) (H : Know) (o : Oper) {G : Type} (Tg : G → Ty) (Lg : G → List Own) : Prop :=
  ∀ E w ρ, Pre L Φ H o E w ρ → (L.map (·.b)).Nodup → Runs P ((execOp ρ o).run P w) fun v w' => ∃ (g : G) (E' : Nat → Prop), Keeps (fun b => b ∈ L.map (·.b)) w w' ∧ Ev E w E' w' ∧ (∀ b, E' b → b < w'.heap.size) ∧ (Tg g).p E' v w' ∧
    (∀ m ∈ Lg g, m.at E' w') ∧ ((Lg g).map (·.b)).Nodup ∧ ∀ m ∈ Lg g, m.b ∈ L.map (·.b) ∨ w.heap.size ≤ m.b
theorem Ob.more {P : Program} {L L' : List Own} {Φ : List (World → Prop)} {H H' : Know} {o : Oper} {T : Ty} (hL : ∀ m ∈ L, m ∈ L') (hH : ∀ x U, H x U → U = .any ∨ H' x U) (h : Ob P L Φ H o T) : Ob P L' Φ H' o T := fun E w ρ hp =>
  h E w ρ ⟨hp.wf, fun m hm => hp.l m (hL m hm), hp.f, fun x U hx hU => by
    rcases hH x U hU with rfl | h'
    · trivial
    · exact hp.x x U hx h'⟩
def KLe (K1 K2 : List (Nat × Ty)) : Prop := ∀ s T, look K1 s = some T → T = .any ∨ look K2 s = some T
theorem KLe.op {K1 K2 : List (Nat × Ty)} (h : KLe K1 K2) : ∀ x U, Kn K1 x U → U = .any ∨ Kn K2 x U := fun x U hx => by
  cases x with
  | tmp s => exact h s U hx
  | const v => exact .inr hx
  | global g => exact .inr hx
  | func f => exact .inr hx
theorem KLe.opG {K1 K2 : List (Nat × Ty)} (h : KLe K1 K2) (π : Prop) : ∀ x U, KnG π K1 x U → U = .any ∨ KnG π K2 x U := fun x U hx => by
  rcases hx with hx | ⟨π', hx, hi⟩
  · exact (h.op x U hx).imp id .inl
  · rcases h.op x _ hx with h' | h'
    · cases h'
    · exact .inr (.inr ⟨π', h', hi⟩)
section
variable {P : Program} {ops : Array Oper} {c : Ctx} {K : List (Nat × Ty)} {L Lq : List Own} {Φ : List (World → Prop)} {D : Array Bool} {E : Nat → Prop} {a : Act} {w : World} {i : Nat} {o : Oper} {T : Ty} {kd : Kind}
theorem St1.quiet {K1 K2 : List (Nat × Ty)} {S' : Sd} {M' : List Own} (hL : ∀ m ∈ Lq, m ∈ L) (hK : KLe K1 K2) (hna : isAlloc o = false) (hns : ∀ t p x, o.op ≠ .store t p x) (h : St1 P ops Lq Φ i o K1 [] [] T M' S' kd) :
    M' = [] ∧ S' = [] ∧ ∃ kd, St1 P ops L Φ i o K2 [] [] T [] [] kd := by
  cases h with
  | typed hg h => exact ⟨rfl, rfl, _, .typed hg (h.more hL hK.op)⟩
  | gated π g b d hg hd hk hna h =>
    refine ⟨rfl, rfl, _, .gated π g b d hg hd ?_ hna fun hπ => (h hπ).more hL (hK.opG π)⟩
    rcases hk with ⟨c', hk, e⟩ | ⟨π₀, c', hk, e⟩
    · rcases hK d _ hk with h' | h'
      · cases h'
      · exact .inl ⟨c', h', e⟩
    · rcases hK d _ hk with h' | h'
      · cases h'
      · exact .inr ⟨π₀, c', h', e⟩
  | new t n d hd hg ho hz => simp [isAlloc, ho] at hna
  | sto s ety ty n x hg hdst g hgi hal ho => exact absurd ho (hns _ _ _)
  | chg hg hl hm h =>
    have hM : M' = [] := List.map_eq_nil_iff.1 (by rw [hm]; rfl)
    subst hM
    refine ⟨rfl, rfl, _, .typed hg ?_⟩
    refine Ob.more hL hK.op fun E w ρ hp => ?_
    exact (h E w ρ hp (fun _ h => by cases h) (by simp)).mono fun v w' ⟨hk, hT, _⟩ => ⟨hk.mono fun _ _ h => by simp at h, hT⟩
theorem RI.big {Tf : Nat → Ty} {B1 : Nat} (hI : RI P ops c K [] L Φ Tf (fun _ => []) (fun _ => []) B1 D E a w) (hs : D.size = ops.size) (ho : ordOK ops = true) (hi : ops[i]? = some o) (hd : D.getD i false = false) (hr : readyAt ops D i)
    (hna : ∀ (j : Nat) (oj : Oper) (t : TypeId), ops[j]? = some oj → oj.op ≠ .alloc t) (hn : ∀ d, o.dst = some d → d < c.n) {L' : List Own} {T' : Ty} {E' : Nat → Prop} {v : Value} {w' : World} (hk : Keeps (fun b => b ∈ L.map (·.b)) w w') (hev : Ev E w E' w') (hwf : ∀ b, E' b → b < w'.heap.size) (hT : T'.p E' v w')
    (hL : ∀ m ∈ L', m.at E' w') (hmay : ∀ m ∈ L, c.X0 m.b ∨ c.W0.heap.size ≤ m.b) :
    RI P ops c K [] L' Φ (fun j => if j = i then T' else Tf j) (fun _ => []) (fun _ => []) w'.heap.size (D.setIfInBounds i true) E' (a.put o.dst v) w' := by
  have hi' : i < ops.size := (Array.getElem?_eq_some_iff.1 hi).1
  have hgs : ∀ j, (D.setIfInBounds i true).getD j false = true ↔ j = i ∨ D.getD j false = true := fun j => get_set (by omega)
  have hdst : ∀ j oj d, ops[j]? = some oj → D.getD j false = true → oj.dst = some d → o.dst ≠ some d := by
    intro j oj d hj hdone hdj
    have hne : i ≠ j := fun e => by subst e; rw [hdone] at hd; cases hd
    intro e
    exact ((ordOK_at ho hi hj hne).1 d e).1 hdj
  refine ⟨by rw [size_put]; exact hI.n, by rw [defers_put]; exact hI.d, hwf, ?_, ?_, ?_, hL, fun F hF => (hI.f F hF).ev hev, fun _ _ _ => ⟨(fun _ h => by cases h), (fun _ h => by cases h)⟩, fun j oj d t hj hop => absurd hop (hna j oj t hj), fun j1 _ o1 _ _ _ t1 _ _ h1 _ p1 => absurd p1 (hna j1 o1 t1 h1), ?_, ?_, Nat.le_refl _⟩
  · intro j hj
    rcases (hgs j).1 hj with rfl | hj
    · exact fun o' ho' e he hbe => (hgs e.on).2 (.inr (hr o' ho' e he hbe))
    · exact fun o' ho' e he hbe => (hgs e.on).2 (.inr (hI.cl j hj o' ho' e he hbe))
  · intro s T' hs hno
    rw [slot_put_ne _ _ _ _ (hno i o hi ((hgs i).2 (.inl rfl)))]
    exact Ty.mono hev (hI.k s T' hs fun j oj hj hdone => hno j oj hj ((hgs j).2 (.inr hdone)))
  · intro j oj d hj hdone hdj
    by_cases e : j = i
    · subst e
      rw [hi] at hj
      injection hj with hj
      subst hj
      rw [if_pos rfl, hdj, slot_put_eq _ _ _ (by rw [hI.n]; exact hn d hdj)]
      exact hT
    · have hdone : D.getD j false = true := ((hgs j).1 hdone).resolve_left e
      rw [if_neg e, slot_put_ne _ _ _ _ (hdst j oj d hj hdone hdj)]
      exact Ty.mono hev (hI.t j oj d hj hdone hdj)
  · exact fun b hx => (hev.same b (hI.wf b (hI.x b hx))).2 (hI.x b hx)
  · exact hI.keeps.step hk fun b hb => by
      obtain ⟨m, hm, rfl⟩ := List.mem_map.1 hb
      exact hmay m hm
theorem kAt_le {l : List Oper} {T T' : Nat → Ty} {p : Nat} (hp : T p = .any) (hT : ∀ j, j ≠ p → T' j = T j) : ∀ n, KLe (kAt l T K n) (kAt l T' K n) := by
  intro n
  induction n with
  | zero => exact fun s U h => .inr h
  | succ n ih =>
    intro s U h
    simp only [kAt] at h ⊢
    cases hd : (l[n]?).bind (·.dst) with
    | none => rw [hd] at h; exact ih s U h
    | some d =>
      rw [hd] at h
      simp only [putK, look] at h ⊢
      cases hq : Nat.beq d s with
      | true =>
        rw [hq, cond_true] at h
        rw [cond_true]
        injection h with h
        subst h
        by_cases e : n = p
        · subst e; exact .inl hp
        · exact .inr (by rw [hT n e])
      | false =>
        rw [hq, cond_false] at h
        rw [cond_false]
        exact ih s U h
end
def quietOK (ops : Array Oper) (m : Nat) : Bool := (ops.toList.take m).all fun o => !isAlloc o && (match o.op with | .store .. => false | _ => true)
section
variable {P : Program} {c : Ctx} {K : List (Nat × Ty)} {L Lq : List Own} {Φ : List (World → Prop)} {Q : Exit → Act → World → Prop}
theorem kAt_app (l1 l2 : List Oper) (T : Nat → Ty) (K : List (Nat × Ty)) : ∀ n, kAt (l1 ++ l2) T K (l1.length + n) = kAt l2 (fun j => T (l1.length + j)) (kAt l1 T K l1.length) n := by
  intro n
  induction n with
  | zero =>
    have : ∀ k, k ≤ l1.length → kAt (l1 ++ l2) T K k = kAt l1 T K k := by
      intro k
      induction k with
      | zero => intro _; rfl
      | succ k ih =>
        intro hk
        rw [kAt, kAt, ih (by omega), List.getElem?_append_left (by omega)]
    exact this _ (Nat.le_refl _)
  | succ n ih =>
    rw [show l1.length + (n + 1) = (l1.length + n) + 1 from rfl, kAt, kAt, ih, List.getElem?_append_right (by omega), Nat.add_sub_cancel_left]
theorem kAt_ext {l : List Oper} {T T' : Nat → Ty} {K : List (Nat × Ty)} : ∀ n, (∀ j, j < n → T j = T' j) → kAt l T K n = kAt l T' K n := by
  intro n
  induction n with
  | zero => intro _; rfl
  | succ n ih => intro h; rw [kAt, kAt, ih (fun j hj => h j (by omega)), h n (by omega)]
theorem J.regB {id : Nat} {dr : Bool} {l1 l2 tail : List Oper} {op : Oper} {d0 : Nat} {G : Type} (Tg : G → Ty) (Lg : G → List Own) (Lq : List Own) (hop : op.dst = some d0) (hg : op.guard = none)
    (hmx : P.follows .mixedOrders = true) (hok : (backOK (l1 ++ op :: l2 ++ tail).toArray && syncOK (l1 ++ op :: l2 ++ tail).toArray (l1 ++ op :: l2).length && regOK (l1 ++ op :: l2).toArray && quietOK (l1 ++ op :: l2).toArray (l1 ++ op :: l2).length) = true)
    (hdn : ((l1 ++ op :: l2).toArray.all fun o => match o.dst with | some d => decide (d < c.n) | none => true) = true)
    (hq1 : ∀ o ∈ Lq, o ∈ L) (hq2 : ∀ g, ∀ o ∈ Lq, o ∈ Lg g)
    (h : RT P (l1 ++ op :: l2).toArray Lq Φ 0 l1 K [] [] (fun K1 _ _ => BigOb P L Φ (Kn K1) op Tg Lg ∧ RT P (l1 ++ op :: l2).toArray Lq Φ (l1.length + 1) l2 ((d0, .any) :: K1) [] [] (fun K2 _ _ => ∀ g, JO P c ((d0, Tg g) :: K2) (Lg g) Φ (l1 ++ op :: l2 ++ tail).toArray tail Q))) :
    J P c K L Φ (.region id (l1 ++ op :: l2 ++ tail).toArray dr) Q := by
  refine ⟨?_⟩
  intro E a w hsa
  simp only [Bool.and_eq_true] at hok
  obtain ⟨⟨⟨hbk, hsy⟩, hreg⟩, hqu⟩ := hok
  generalize hA : l1 ++ op :: l2 = A at *
  have hlp : (A ++ tail).toArray.toList.take A.length = A := by simp
  have hld : (A ++ tail).toArray.toList.drop A.length = tail := by simp
  have hpA : A[l1.length]? = some op := by rw [← hA]; simp
  have hAlen : A.length = l1.length + 1 + l2.length := by rw [← hA]; simp; omega
  obtain ⟨T1, Mf1, Sf1, kf1, hM1, hS1, hst1, hbig, hrt2⟩ := h.out
  obtain ⟨T2, Mf2, Sf2, kf2, hM2, hS2, hst2, hfin⟩ := hrt2.out
  have hbk' : backOK A.toArray = true := by unfold regOK at hreg; rw [Bool.and_eq_true] at hreg; exact hreg.1
  have hord' : ordOK A.toArray = true := by unfold regOK at hreg; rw [Bool.and_eq_true] at hreg; exact hreg.2
  let T : Nat → Ty := fun j => if j < l1.length then T1 j else if j = l1.length then .any else T2 (j - (l1.length + 1))
  have hTp : T l1.length = .any := by simp [T]
  have hKA1 : ∀ n, n ≤ l1.length → kAt A T K n = kAt l1 T1 K n := by
    intro n
    induction n with
    | zero => intro _; rfl
    | succ n ih =>
      intro hn
      rw [kAt, kAt, ih (by omega), ← hA, List.getElem?_append_left (by omega)]
      congr 1
      simp [T, show n < l1.length by omega]
  have hKA2 : ∀ n, kAt A T K (l1.length + 1 + n) = kAt l2 T2 ((d0, .any) :: kAt l1 T1 K l1.length) n := by
    intro n
    induction n with
    | zero =>
      show putK ((A[l1.length]?).bind (·.dst)) (T l1.length) (kAt A T K l1.length) = _
      rw [hKA1 _ (Nat.le_refl _), hpA, Option.bind_some, hop, hTp]
      rfl
    | succ n ih =>
      show putK ((A[l1.length + 1 + n]?).bind (·.dst)) (T (l1.length + 1 + n)) (kAt A T K (l1.length + 1 + n)) = putK ((l2[n]?).bind (·.dst)) (T2 n) _
      rw [ih]
      congr 1
      · congr 1
        rw [← hA, List.getElem?_append_right (by omega), show l1.length + 1 + n - l1.length = n + 1 by omega]
        rfl
      · simp [T, show ¬ l1.length + 1 + n < l1.length by omega, show l1.length + 1 + n ≠ l1.length by omega]
  have hquA : ∀ (j : Nat) (oj : Oper), A[j]? = some oj → isAlloc oj = false ∧ ∀ t p x, oj.op ≠ .store t p x := by
    intro j oj hj
    unfold quietOK at hqu
    have h1 := List.all_eq_true.1 hqu oj (by simp; exact List.mem_of_getElem? hj)
    simp only [Bool.and_eq_true, Bool.not_eq_true'] at h1
    exact ⟨h1.1, fun t p x e => by rw [e] at h1; simp at h1⟩
  have hMS1 : ∀ j, j ≤ l1.length → Mf1 j = [] ∧ Sf1 j = [] := by
    intro j
    induction j with
    | zero => intro _; exact ⟨hM1, hS1⟩
    | succ j ih =>
      intro hj
      obtain ⟨e1, e2⟩ := ih (by omega)
      have ho : l1[j]? = some l1[j] := List.getElem?_eq_getElem (by omega)
      have h1 := hst1 j _ ho
      rw [e1, e2] at h1
      obtain ⟨q1, q2⟩ := hquA j l1[j] (by rw [← hA, List.getElem?_append_left (by omega)]; exact ho)
      obtain ⟨g1, g2, _⟩ := h1.quiet (L := Lq) (K2 := kAt l1 T1 K j) (fun _ h => h) (fun s U h => .inr h) q1 q2
      exact ⟨g1, g2⟩
  have hMS2 : ∀ j, j ≤ l2.length → Mf2 j = [] ∧ Sf2 j = [] := by
    intro j
    induction j with
    | zero => intro _; exact ⟨hM2, hS2⟩
    | succ j ih =>
      intro hj
      obtain ⟨e1, e2⟩ := ih (by omega)
      have ho : l2[j]? = some l2[j] := List.getElem?_eq_getElem (by omega)
      have h1 := hst2 j _ ho
      rw [e1, e2] at h1
      obtain ⟨q1, q2⟩ := hquA (l1.length + 1 + j) l2[j] (by rw [← hA, List.getElem?_append_right (by omega), show l1.length + 1 + j - l1.length = j + 1 by omega]; exact ho)
      obtain ⟨g1, g2, _⟩ := h1.quiet (L := Lq) (K2 := kAt l2 T2 ((d0, .any) :: kAt l1 T1 K l1.length) j) (fun _ h => h) (fun s U h => .inr h) q1 q2
      exact ⟨g1, g2⟩
  have hst : ∀ (L' : List Own) (T' : Nat → Ty), (∀ m ∈ Lq, m ∈ L') → (∀ j, j ≠ l1.length → T' j = T j) → ∀ i o, A.toArray[i]? = some o → i ≠ l1.length → ∃ kd, St1 P A.toArray L' Φ i o (kAt A.toArray.toList T' K i) [] [] (T' i) [] [] kd := by
    intro L' T' hL' hT' i o hi hne
    have hi' : A[i]? = some o := by simpa using hi
    obtain ⟨q1, q2⟩ := hquA i o hi'
    rw [hT' i hne]
    have hle : KLe (kAt A T K i) (kAt A T' K i) := kAt_le hTp hT' i
    rcases Nat.lt_or_ge i l1.length with hlt | hge
    · have ho : l1[i]? = some o := by rw [← hA, List.getElem?_append_left hlt] at hi'; exact hi'
      have h1 := hst1 i o ho
      obtain ⟨e1, e2⟩ := hMS1 i (by omega)
      obtain ⟨e3, e4⟩ := hMS1 (i + 1) (by omega)
      rw [e1, e2, Nat.zero_add, ← hKA1 i (by omega)] at h1
      have hTi : T i = T1 i := by simp [T, hlt]
      rw [hTi]
      exact (h1.quiet hL' hle q1 q2).2.2
    · have ho : l2[i - (l1.length + 1)]? = some o := by
        rw [← hA, List.getElem?_append_right hge] at hi'
        rw [show i - l1.length = (i - (l1.length + 1)) + 1 by omega] at hi'
        simpa using hi'
      have hl2 : i - (l1.length + 1) < l2.length := (List.getElem?_eq_some_iff.1 ho).1
      have h1 := hst2 _ o ho
      obtain ⟨e1, e2⟩ := hMS2 (i - (l1.length + 1)) (by omega)
      rw [e1, e2, ← hKA2, show l1.length + 1 + (i - (l1.length + 1)) = i by omega] at h1
      have hTi : T i = T2 (i - (l1.length + 1)) := by simp [T, show ¬ i < l1.length by omega, hne]
      rw [hTi]
      exact (h1.quiet hL' hle q1 q2).2.2
  have hnn : ∀ (i : Nat) (o : Oper) (d : Nat), A.toArray[i]? = some o → o.dst = some d → d < c.n := by
    intro i o d hi hd
    have := Array.all_eq_true_iff_forall_mem.1 hdn o (Array.mem_of_getElem? hi)
    rw [hd] at this
    simpa using this
  have hnal : ∀ (j : Nat) (oj : Oper) (t : TypeId), A.toArray[j]? = some oj → oj.op ≠ .alloc t := by
    intro j oj t hj e
    have := (hquA j oj (by simpa using hj)).1
    simp [isAlloc, e] at this
  have hpA' : A.toArray[l1.length]? = some op := by simpa using hpA
  refine wp_region_sync (Q := Q) A.length hmx hbk hsy (fun D a w' => (D.getD l1.length false = false ∧ ∃ E, RI P A.toArray c K [] L Φ T (fun _ => []) (fun _ => []) w.heap.size D E a w') ∨
      (D.getD l1.length false = true ∧ ∃ (g : G) (B : Nat) (E : Nat → Prop), Stat0 A.toArray c [] (Lg g) (fun _ => []) (fun _ => []) B ∧ RI P A.toArray c K [] (Lg g) Φ (fun j => if j = l1.length then Tg g else T j) (fun _ => []) (fun _ => []) B D E a w')) ?_ ?_ ?_
  · intro w' hw'
    have hs' : SA c K L Φ E a w' := by
      rcases hw' with rfl | rfl
      · exact hsa
      · exact hsa.drew
    have hno : ∀ (n j : Nat), (Array.replicate n false).getD j false = false := by
      intro n j
      rw [Array.getD_eq_getD_getElem?, Array.getElem?_replicate]
      split <;> simp
    refine .inl ⟨hno _ _, E, hs'.n, hs'.d, hs'.wf, fun j hj => absurd hj (by rw [hno]; simp), fun s T' hs _ => hs'.k s T' hs, fun j o d _ hj => absurd hj (by rw [hno]; simp), hs'.l, hs'.f, fun _ _ _ => ⟨(fun _ h => by cases h), (fun _ h => by cases h)⟩, fun j oj d t hj hop => absurd hop (hnal j oj t hj), fun j1 _ o1 _ _ _ t1 _ _ h1 _ p1 => absurd p1 (hnal j1 o1 t1 h1), hs'.x, hs'.keeps, ?_⟩
    rcases hw' with rfl | rfl <;> exact Nat.le_refl _
  · rw [hlp, hld]
    rintro D a' w' i o hs hI hi hd hr
    have hi' : i < A.toArray.size := (Array.getElem?_eq_some_iff.1 hi).1
    have hdf : D.getD i false = false := by
      have hlt : i < D.size := by omega
      simp only [Array.getD_eq_getD_getElem?, Array.getElem?_eq_getElem hlt, Option.getD_some] at hd ⊢
      exact hd
    have hsize : ∀ j, (D.setIfInBounds i true).getD j false = true ↔ j = i ∨ D.getD j false = true := fun j => get_set (by omega)
    have keepP : i ≠ l1.length → (D.setIfInBounds i true).getD l1.length false = D.getD l1.length false := by
      intro hne
      cases hq : D.getD l1.length false with
      | true => exact (hsize _).2 (.inr hq)
      | false =>
        cases hq' : (D.setIfInBounds i true).getD l1.length false with
        | false => rfl
        | true =>
          rcases (hsize _).1 hq' with e | e
          · exact absurd e.symm hne
          · rw [hq] at e; cases e
    have quietAll : ∀ (i : Nat) (o : Oper), A.toArray[i]? = some o → isLoud o = false → (fun _ => ([] : List Own)) (i + 1) = (fun _ => ([] : List Own)) i ∧ (fun _ => ([] : Sd)) (i + 1) = (fun _ => ([] : Sd)) i := fun _ _ _ _ => ⟨rfl, rfl⟩
    rcases hI with ⟨hp, E', hI⟩ | ⟨hp, g, B, E', hS, hI⟩
    · have hS0 : Stat0 A.toArray c [] L (fun _ => []) (fun _ => []) w.heap.size := ⟨fun _ _ => rfl, fun _ _ => List.nodup_nil, hsa.ld, fun m hm => lt_of_get (hsa.l m hm).2.choose_spec.1, hsa.may, hnn, hsa.keeps.size⟩
      by_cases hip : i = l1.length
      · subst hip
        rw [hpA'] at hi
        injection hi with hi
        subst hi
        have hpre := hI.pre hbk' hord' hpA' hdf hr
        have hKeq : kAt A.toArray.toList T K l1.length = kAt l1 T1 K l1.length := hKA1 _ (Nat.le_refl _)
        rw [hKeq] at hpre
        have hrun := hbig E' w' a'.eval hpre hsa.ld
        unfold wpOp
        rw [hpA']
        simp only
        rw [if_pos (by simp [Region.wanted, hg])]
        refine .inl ?_
        unfold Oper.wp
        refine Runs.upon hrun fun v w'' ⟨g, E'', hk, hev, hwf, hT, hl, hnd, hmay⟩ => .inr ⟨(hsize _).2 (.inl rfl), g, w''.heap.size, E'', ?_, ?_⟩
        · refine ⟨fun _ _ => rfl, fun _ _ => List.nodup_nil, hnd, fun m hm => lt_of_get (hl m hm).2.choose_spec.1, fun m hm => ?_, hnn, ?_⟩
          · rcases hmay m hm with h1 | h1
            · obtain ⟨m', hm', e⟩ := List.mem_map.1 h1
              rw [← e]
              exact hsa.may m' hm'
            · have := hI.keeps.size
              exact .inr (by omega)
          · exact Nat.le_trans hI.keeps.size hk.size
        · exact hI.big hs hord' hpA' hdf hr hnal (fun d hd => hnn _ _ d hpA' hd) hk hev hwf hT hl hsa.may
      · refine wpOp_mono (fun a'' w'' hI' => .inl ⟨by rw [keepP hip]; exact hp, hI'⟩) (hI.step1 hS0 quietAll hbk' hord' hs hi hd hr (hst L T hq1 (fun _ _ => rfl) i o hi hip))
    · have hip : i ≠ l1.length := fun e => by subst e; rw [hdf] at hp; cases hp
      refine wpOp_mono (fun a'' w'' hI' => .inr ⟨by rw [keepP hip]; exact hp, g, B, ?_⟩) (hI.step1 hS quietAll hbk' hord' hs hi hd hr (hst (Lg g) _ (hq2 g) (fun j hj => by simp [hj]) i o hi hip))
      obtain ⟨E'', hI'⟩ := hI'
      exact ⟨E'', hS, hI'⟩
  · rw [hlp, hld]
    rintro D a' w' hs hall hI
    have hpd : D.getD l1.length false = true := hall _ (by simp; omega)
    rcases hI with ⟨hp, _⟩ | ⟨_, g, B, E', hS, hI⟩
    · rw [hpd] at hp; cases hp
    · have hlen : A.length = A.toArray.size := by simp
      refine (hfin g).out E' a' w' ⟨hI.n, hI.d, hI.wf, ?_, hI.l, hS.nd, hI.f, hI.x, hsa.xs, hI.keeps, hS.may⟩
      intro s T' hl
      have hd0 : (if l1.length = l1.length then Tg g else T l1.length).p E' (slotOf a' d0) w' := hI.t l1.length op d0 hpA' hpd hop
      rw [if_pos rfl] at hd0
      simp only [look] at hl
      cases hq : Nat.beq d0 s with
      | true =>
        rw [hq, cond_true] at hl
        injection hl with hl
        subst hl
        rw [← Nat.eq_of_beq_eq_true hq]
        exact hd0
      | false =>
        rw [hq, cond_false] at hl
        rw [← hKA2 l2.length, ← hAlen] at hl
        have hl' : look (kAt A.toArray.toList T K A.toArray.size) s = some T' := by simpa using hl
        rcases kAt_look s A.toArray.size (Nat.le_refl _) T' hl' with ⟨j, oj, hj, hoj, hdj, rfl⟩ | ⟨hn, hk⟩
        · have := hI.t j oj s hoj (hall j (by simpa using hj)) hdj
          by_cases e : j = l1.length
          · subst e
            rw [hpA'] at hoj
            injection hoj with hoj
            subst hoj
            rw [hop] at hdj
            injection hdj with hdj
            rw [hdj, Nat.beq_refl] at hq
            cases hq
          · rw [if_neg e] at this
            exact this
        · exact hI.k s T' hk fun j oj hoj _ => hn j oj (Array.getElem?_eq_some_iff.1 hoj).1 hoj
end
end Go.Vc
