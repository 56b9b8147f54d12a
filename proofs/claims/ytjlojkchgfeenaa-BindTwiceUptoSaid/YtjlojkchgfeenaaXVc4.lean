/- The rule for a region, whatever order it is run in. No condition. -/
import Derived.Test.YtjlojkchgfeenaaXVc3
namespace Go.Vc
open Go
theorem Keeps.step {X Y : Nat → Prop} {W w w' : World} (h : Keeps X W w) (k : Keeps Y w w') (hy : ∀ b, Y b → X b ∨ W.heap.size ≤ b) : Keeps X W w' :=
  ⟨k.os.trans h.os, k.tape.trans h.tape, k.output.trans h.output, Nat.le_trans h.size k.size,
   fun b hb hx => (k.blk b (Nat.lt_of_lt_of_le hb h.size) (fun hb' => (hy b hb').elim hx (fun h1 => absurd hb (by omega)))).trans (h.blk b hb hx),
   fun b cs t fr hb => by
    obtain ⟨cs1, h1, e1⟩ := h.shp b cs t fr hb
    obtain ⟨cs2, h2, e2⟩ := k.shp b cs1 t fr h1
    exact ⟨cs2, h2, e2.trans e1⟩⟩
theorem heap_setRow (w : World) (g : Nat) (cs old : Array Value) (t : TypeId) (fr : Nat × Nat) (h : w.heap[g]? = some (.cells old t fr)) : (w.setRow g cs).heap[g]? = some (.cells cs t fr) := by
  simp [World.setRow, Array.getElem?_modify, h]
theorem heap_setRow_ne (w : World) (g : Nat) (cs : Array Value) {b : Nat} (h : b ≠ g) : (w.setRow g cs).heap[b]? = w.heap[b]? := by
  simp only [World.setRow, Array.getElem?_modify]
  rw [if_neg (fun e => h e.symm)]
theorem size_setRow (w : World) (g : Nat) (cs : Array Value) : (w.setRow g cs).heap.size = w.heap.size := by simp [World.setRow]
theorem Keeps.setRow (w : World) (g : Nat) (cs old : Array Value) (t : TypeId) (h : w.heap[g]? = some (.cells old t (0, 0))) (hs : cs.size = old.size) : Keeps (fun b => b = g) w (w.setRow g cs) :=
  ⟨rfl, rfl, rfl, by rw [size_setRow]; exact Nat.le_refl _, fun b _ hb => heap_setRow_ne w g cs hb, fun b cs' t' fr hb => by
    by_cases e : b = g
    · subst e
      rw [h] at hb
      injection hb with hb
      injection hb with h1 h2 h3
      subst h1 h2 h3
      exact ⟨cs, heap_setRow w b cs _ _ _ h, hs⟩
    · exact ⟨cs', (heap_setRow_ne w g cs e).trans hb, rfl⟩⟩
theorem run_store_whole {P : Program} (w : World) (ty : TypeId) (b : Nat) (v : Value) (cs : Array Value) (t : TypeId) (hb : w.heap[b]? = some (.cells cs t (0, 0))) (hi : (P.info? ty).map (·.size) = some cs.size)
    (hs : v.cells.size = cs.size) (h1 : ∀ u ∈ v.cells.toList, u.oneCell' = true) :
    (Instr.storeAt ty (.pointer (some ⟨b, 0, none⟩)) v).run P w = .ok () (w.setRow b v.cells) := by
  have h := run_storeCells_at (P := P) b 0 t v.cells.toList 0 cs w hb (by simp; omega) h1
  have e : (cs.toList.take (0 + 0) ++ v.cells.toList ++ cs.toList.drop (0 + 0 + v.cells.toList.length)).toArray = v.cells := by
    have : cs.toList.drop (v.cells.size) = [] := List.drop_eq_nil_of_le (by simp; omega)
    simp [this]
  rw [e] at h
  cases hq : P.info? ty with
  | none => simp [hq] at hi
  | some i =>
    have hs' : v.cells.size = i.size := by simp [hq] at hi; omega
    simp [Instr.storeAt, Instr.sureAddr, storeVar, sizeOf, typeInfo, hq, hs', h]
theorem alloc_run {P : Program} (o : Oper) (ρ : Operand → Value) (w : World) (t : TypeId) (ho : o.op = .alloc t) :
    (∃ i z, P.info? t = some i ∧ i.zero = some z ∧ (execOp ρ o).run P w = .ok (.value (.pointer (some ⟨w.heap.size, 0, none⟩))) (w.alloc (.cells z.cells t))) ∨ (zcells P t = none ∧ ∃ h w', (execOp ρ o).run P w = .halt h w') := by
  simp only [execOp, ho, Instr.alloc, zeroValue, typeInfo, zcells]
  cases hi : P.info? t with
  | none => right; simp [hi, stuck]
  | some i =>
    cases hz : i.zero with
    | none => right; simp [hi, hz, unsupported]
    | some z => left; exact ⟨i, z, rfl, hz, by simp [hi, hz, newVar, newRow]⟩
abbrev Sd := List (Nat × TypeId × Ty)
def FinS (P : Program) (c : Ctx) (Lk : List Own) (Φ : List (World → Prop)) (Q : Exit → Act → World → Prop) : List (Nat × Ty) → List Own → Sd → Prop
  | K, M, [] => ∀ E a w, SA c K (M ++ Lk) Φ E a w → Q .normal a w
  | K, M, (s, ety, T) :: S => ∀ b, FinS P c Lk Φ Q ((s, .is (.pointer (some ⟨b, 0, none⟩))) :: K) (⟨b, ety, T⟩ :: M) S
def slotOf (a : Act) (s : Nat) : Value := a.tmps.getD s undef
theorem slot_put_ne (a : Act) (dst : Option Nat) (v : Value) (s : Nat) (h : dst ≠ some s) : slotOf (a.put dst v) s = slotOf a s := by
  cases dst with
  | none => rfl
  | some d =>
    have hne : d ≠ s := fun e => h (by rw [e])
    simp only [slotOf, Act.put, Array.getD_eq_getD_getElem?, Array.getElem?_setIfInBounds_ne hne]
theorem slot_put_eq (a : Act) (d : Nat) (v : Value) (h : d < a.tmps.size) : slotOf (a.put (some d) v) d = v := by
  simp only [slotOf, Act.put, Array.getD_eq_getD_getElem?, Array.getElem?_setIfInBounds_self_of_lt h, Option.getD_some]
theorem size_put (a : Act) (dst : Option Nat) (v : Value) : (a.put dst v).tmps.size = a.tmps.size := by cases dst <;> simp [Act.put]
theorem defers_put (a : Act) (dst : Option Nat) (v : Value) : (a.put dst v).defers = a.defers := by cases dst <;> rfl
def SdAt (ops : Array Oper) (D : Array Bool) (B1 : Nat) (E : Nat → Prop) (a : Act) (w : World) (x : Nat × TypeId × Ty) : Prop :=
  (∃ g o t, ops[g]? = some o ∧ o.dst = some x.1 ∧ o.op = .alloc t ∧ D.getD g false = true) ∧
  ∃ b, slotOf a x.1 = .pointer (some ⟨b, 0, none⟩) ∧ E b ∧ B1 ≤ b ∧ ∃ v : Value, w.heap[b]? = some (.cells v.cells x.2.1 (0, 0)) ∧ x.2.2.p E v w
structure RI (P : Program) (ops : Array Oper) (c : Ctx) (K : List (Nat × Ty)) (Lm Lk : List Own) (Φ : List (World → Prop)) (T : Nat → Ty) (Mf : Nat → List Own) (Sf : Nat → Sd) (B1 : Nat) (D : Array Bool) (E : Nat → Prop) (a : Act) (w : World) : Prop where
  n : a.tmps.size = c.n
  d : a.defers = []
  wf : ∀ b, E b → b < w.heap.size
  cl : Closed ops D
  k : ∀ s T', look K s = some T' → (∀ j o, ops[j]? = some o → D.getD j false = true → o.dst ≠ some s) → T'.p E (slotOf a s) w
  t : ∀ j o d, ops[j]? = some o → D.getD j false = true → o.dst = some d → (T j).p E (slotOf a d) w
  l : ∀ m ∈ Lk, m.at E w
  f : ∀ F ∈ Φ, Pers E w F
  m : ∀ i, i ≤ ops.size → (∀ j o, ops[j]? = some o → isLoud o = true → (D.getD j false = true ↔ j < i)) → (∀ m ∈ Mf i, m.at E w) ∧ (∀ x ∈ Sf i, SdAt ops D B1 E a w x)
  fr : ∀ j o d t, ops[j]? = some o → o.op = .alloc t → D.getD j false = true → o.dst = some d → ∃ b, slotOf a d = .pointer (some ⟨b, 0, none⟩) ∧ B1 ≤ b ∧ b < w.heap.size
  fd : ∀ j1 j2 o1 o2 d1 d2 t1 t2, j1 ≠ j2 → ops[j1]? = some o1 → ops[j2]? = some o2 → o1.op = .alloc t1 → o2.op = .alloc t2 → D.getD j1 false = true → D.getD j2 false = true → o1.dst = some d1 → o2.dst = some d2 → slotOf a d1 ≠ slotOf a d2
  x : ∀ b, c.X b → E b
  keeps : Keeps c.X0 c.W0 w
  hB : B1 ≤ w.heap.size
theorem get_set {D : Array Bool} {i j : Nat} (hi : i < D.size) : (D.setIfInBounds i true).getD j false = true ↔ j = i ∨ D.getD j false = true := by
  rw [Array.getD_eq_getD_getElem?, Array.getElem?_setIfInBounds]
  by_cases h : i = j
  · subst h; simp [hi]
  · rw [if_neg h, ← Array.getD_eq_getD_getElem?]
    constructor
    · exact .inr
    · rintro (rfl | h')
      · exact absurd rfl h
      · exact h'
theorem kAt_look {ops : Array Oper} {K : List (Nat × Ty)} {T : Nat → Ty} (s : Nat) : ∀ n, n ≤ ops.size → ∀ T', look (kAt ops.toList T K n) s = some T' → (∃ j oj, j < n ∧ ops[j]? = some oj ∧ oj.dst = some s ∧ T' = T j) ∨ ((∀ j oj, j < n → ops[j]? = some oj → oj.dst ≠ some s) ∧ look K s = some T') := by
  intro n
  induction n with
  | zero => intro _ T' h; exact .inr ⟨fun j oj h' => absurd h' (by omega), h⟩
  | succ n ih =>
    intro hn T' h
    have hn' : n < ops.size := by omega
    have hon : ops[n]? = some ops[n] := Array.getElem?_eq_getElem hn'
    have hln : ops.toList[n]? = some ops[n] := by simp
    rw [kAt, hln, Option.bind_some] at h
    by_cases hds : ops[n].dst = some s
    · rw [hds, putK, look, show Nat.beq s s = true from Nat.beq_refl s, cond_true] at h
      injection h with h
      exact .inl ⟨n, _, by omega, hon, hds, h.symm⟩
    · have h' : look (kAt ops.toList T K n) s = some T' := by
        cases hdn : ops[n].dst with
        | none => rw [hdn] at h; exact h
        | some d =>
          rw [hdn, putK, look] at h
          have hne : Nat.beq d s = false := by
            cases hbq : Nat.beq d s with
            | false => rfl
            | true => exact absurd (by rw [hdn, Nat.eq_of_beq_eq_true hbq]) hds
          rw [hne, cond_false] at h
          exact h
      rcases ih (by omega) T' h' with ⟨j, oj, hj, h1, h2, h3⟩ | ⟨h1, h2⟩
      · exact .inl ⟨j, oj, by omega, h1, h2, h3⟩
      · refine .inr ⟨fun j oj hj hoj => ?_, h2⟩
        rcases Nat.lt_or_ge j n with hlt | hge
        · exact h1 j oj hlt hoj
        · obtain rfl : j = n := by omega
          rw [hon] at hoj
          injection hoj with hoj
          rw [← hoj]
          exact hds
theorem slotTy {P : Program} {ops : Array Oper} {c : Ctx} {K : List (Nat × Ty)} {Lm Lk : List Own} {Φ : List (World → Prop)} {T : Nat → Ty} {Mf : Nat → List Own} {Sf : Nat → Sd} {B1 : Nat} {D : Array Bool} {E : Nat → Prop} {a : Act} {w : World}
    (hI : RI P ops c K Lm Lk Φ T Mf Sf B1 D E a w) (hb : backOK ops = true) (ho : ordOK ops = true) {i : Nat} {o : Oper} (hi : ops[i]? = some o) (hd : D.getD i false = false) (hr : readyAt ops D i) :
    ∀ s T', s ∈ o.looksAt ops → look (kAt ops.toList T K i) s = some T' → T'.p E (slotOf a s) w := by
  intro s T' hs hl
  have key := kAt_look (ops := ops) (K := K) (T := T) s
  rcases key i (Nat.le_of_lt (Array.getElem?_eq_some_iff.1 hi).1) T' hl with ⟨j, oj, hj, hoj, hdj, rfl⟩ | ⟨hno, hk⟩
  · have hord := ((ordOK_at ho hoj hi (by omega)).1 s hdj).2 hs
    rw [if_pos hj] at hord
    exact hI.t j oj s hoj (before_done hb hI.cl i j hr hord) hdj
  · refine hI.k s T' hk fun j oj hoj hdone hdj => ?_
    rcases Nat.lt_or_ge j i with hlt | hge
    · exact hno j oj hlt hoj hdj
    · have hne : j ≠ i := fun e => by subst e; rw [hdone] at hd; cases hd
      have hord := ((ordOK_at ho hoj hi hne).1 s hdj).2 hs
      rw [if_neg (by omega)] at hord
      have := before_done hb hI.cl j i (hI.cl j hdone) hord
      rw [hd] at this
      cases this
theorem mem_looksAt {ops : Array Oper} {o : Oper} {s : Nat} (h : Operand.tmp s ∈ o.op.operands) : s ∈ o.looksAt ops :=
  List.mem_append_left _ (List.mem_filterMap.2 ⟨.tmp s, by simpa using h, rfl⟩)
theorem guard_looksAt {ops : Array Oper} {o : Oper} {g s : Nat} {b : Bool} (h : o.guard = some (g, b)) (hd : (ops[g]?).bind (·.dst) = some s) : s ∈ o.looksAt ops :=
  List.mem_append_right _ (by simp [h, hd])
theorem RI.pre {P : Program} {ops : Array Oper} {c : Ctx} {K : List (Nat × Ty)} {Lm Lk : List Own} {Φ : List (World → Prop)} {T : Nat → Ty} {Mf : Nat → List Own} {Sf : Nat → Sd} {B1 : Nat} {D : Array Bool} {E : Nat → Prop} {a : Act} {w : World}
    (hI : RI P ops c K Lm Lk Φ T Mf Sf B1 D E a w) (hb : backOK ops = true) (ho : ordOK ops = true) {i : Nat} {o : Oper} (hi : ops[i]? = some o) (hd : D.getD i false = false) (hr : readyAt ops D i) :
    Pre Lk Φ (Kn (kAt ops.toList T K i)) o E w a.eval := by
  refine ⟨hI.wf, hI.l, hI.f, fun x T' hx hT => ?_⟩
  cases x with
  | tmp s => exact slotTy hI hb ho hi hd hr s T' (mem_looksAt hx) hT
  | const v => simp only [Kn, opTy, Option.some.injEq] at hT; subst hT; rfl
  | global g => simp only [Kn, opTy, Option.some.injEq] at hT; subst hT; rfl
  | func f => simp only [Kn, opTy, Option.some.injEq] at hT; subst hT; rfl
theorem RI.preG {P : Program} {ops : Array Oper} {c : Ctx} {K : List (Nat × Ty)} {Lm Lk : List Own} {Φ : List (World → Prop)} {T : Nat → Ty} {Mf : Nat → List Own} {Sf : Nat → Sd} {B1 : Nat} {D : Array Bool} {E : Nat → Prop} {a : Act} {w : World} {π : Prop}
    (hI : RI P ops c K Lm Lk Φ T Mf Sf B1 D E a w) (hb : backOK ops = true) (ho : ordOK ops = true) {i : Nat} {o : Oper} (hi : ops[i]? = some o) (hd : D.getD i false = false) (hr : readyAt ops D i) (hπ : π) :
    Pre Lk Φ (KnG π (kAt ops.toList T K i)) o E w a.eval := by
  have h := hI.pre hb ho hi hd hr
  refine ⟨h.wf, h.l, h.f, fun x T' hx hT => ?_⟩
  rcases hT with hT | ⟨π', hT, hi⟩
  · exact h.x x T' hx hT
  · exact (h.x x _ hx hT).1 (hi hπ)
theorem wanted_of {ops : Array Oper} {o : Oper} {a : Act} {g d : Nat} {b b' : Bool} (hg : o.guard = some (g, b)) (hd : (ops[g]?).bind (·.dst) = some d) (hv : slotOf a d = .bool b') : Region.wanted o (yielded ops a.tmps) = (b' == b) := by
  have hy : yielded ops a.tmps g = some b' := by
    unfold yielded
    rw [hd, Option.bind_some]
    unfold slotOf at hv
    rw [Array.getD_eq_getD_getElem?] at hv
    cases h : a.tmps[d]? with
    | none => rw [h] at hv; cases hv
    | some u => rw [h] at hv; simp only [Option.getD_some] at hv; rw [hv]
  simp [Region.wanted, hg, hy]
theorem unwanted_of {ops : Array Oper} {o : Oper} {a : Act} {g d : Nat} {b : Bool} {v : Value} (hg : o.guard = some (g, b)) (hd : (ops[g]?).bind (·.dst) = some d) (hv : slotOf a d = v) (hne : v ≠ .bool b) : Region.wanted o (yielded ops a.tmps) = false := by
  simp only [Region.wanted, hg]
  rw [beq_eq_false_iff_ne]
  intro hy
  apply hne
  unfold yielded at hy
  rw [hd, Option.bind_some] at hy
  rw [← hv]
  unfold slotOf
  rw [Array.getD_eq_getD_getElem?]
  cases h : a.tmps[d]? with
  | none => rw [h] at hy; simp at hy
  | some u =>
    rw [h] at hy
    cases u <;> simp at hy
    simp [hy]
theorem Own.keep {m : Own} {E E' : Nat → Prop} {w w' : World} (h : m.at E w) (k : Ev E w E' w') (hk : w'.heap[m.b]? = w.heap[m.b]?) : m.at E' w' := by
  obtain ⟨he, v, hb, hT⟩ := h
  exact ⟨(k.same _ (lt_of_get hb)).2 he, v, hk.trans hb, Ty.mono k hT⟩
theorem Own.keep0 {m : Own} {E E' : Nat → Prop} {w w' : World} (h : m.at E w) (k : Ev E w E' w') (hk : Keeps noX w w') : m.at E' w' :=
  Own.keep h k (hk.blk _ (lt_of_get h.2.choose_spec.1) id)
theorem loudless {P : Program} {ops : Array Oper} {L : List Own} {Φ : List (World → Prop)} {o : Oper} {K : List (Nat × Ty)} {M M' : List Own} {S S' : Sd} {T : Ty} {kd : Kind} {i : Nat}
    (h : St1 P ops L Φ i o K M S T M' S' kd) (hl : isLoud o = false) : M' = M ∧ S' = S := by
  cases h with
  | typed hg h => exact ⟨rfl, rfl⟩
  | gated => exact ⟨rfl, rfl⟩
  | new => exact ⟨rfl, rfl⟩
  | sto s ety ty n x hg hdst g hgi hal ho => simp [isLoud, ho] at hl
  | chg hg hl' => rw [hl] at hl'; cases hl'
theorem same_to {ops : Array Oper} {Mf : Nat → List Own} {Sf : Nat → Sd} (hst : ∀ i o, ops[i]? = some o → isLoud o = false → Mf (i + 1) = Mf i ∧ Sf (i + 1) = Sf i) :
    ∀ (n i : Nat), i + n ≤ ops.size → (∀ j o, ops[j]? = some o → isLoud o = true → ¬ (i ≤ j ∧ j < i + n)) → Mf (i + n) = Mf i ∧ Sf (i + n) = Sf i := by
  intro n
  induction n with
  | zero => intro i _ _; exact ⟨rfl, rfl⟩
  | succ n ih =>
    intro i hn hno
    obtain ⟨h1, h2⟩ := ih i (by omega) (fun j o ho hl hj => hno j o ho hl ⟨hj.1, by omega⟩)
    have ho : ops[i + n]? = some ops[i + n] := Array.getElem?_eq_getElem (by omega)
    have hq : isLoud ops[i + n] = false := by
      cases h : isLoud ops[i + n] with
      | false => rfl
      | true => exact absurd ⟨by omega, by omega⟩ (hno (i + n) _ ho h)
    obtain ⟨h3, h4⟩ := hst (i + n) _ ho hq
    exact ⟨h3.trans h1, h4.trans h2⟩
section
variable {P : Program} {ops : Array Oper} {c : Ctx} {K : List (Nat × Ty)} {Lm Lk : List Own} {Φ : List (World → Prop)} {T : Nat → Ty} {Mf : Nat → List Own} {Sf : Nat → Sd} {B1 : Nat} {D : Array Bool} {E : Nat → Prop} {a : Act} {w : World}
theorem loud_before (hI : RI P ops c K Lm Lk Φ T Mf Sf B1 D E a w) (hb : backOK ops = true) (ho : ordOK ops = true) {i : Nat} {o : Oper} (hi : ops[i]? = some o) (hd : D.getD i false = false) (hr : readyAt ops D i) (hl : isLoud o = true) :
    ∀ j oj, ops[j]? = some oj → isLoud oj = true → (D.getD j false = true ↔ j < i) := by
  intro j oj hj hlj
  constructor
  · intro hdone
    rcases Nat.lt_or_ge j i with h | h
    · exact h
    · have hne : j ≠ i := fun e => by subst e; rw [hdone] at hd; cases hd
      have := before_done hb hI.cl j i (hI.cl j hdone) ((ordOK_at ho hi hj (Ne.symm hne)).2 hl hlj (by omega))
      rw [hd] at this
      cases this
  · intro hlt
    exact before_done hb hI.cl i j hr ((ordOK_at ho hj hi (by omega)).2 hlj hl hlt)
theorem RI.quiet (hI : RI P ops c K Lm Lk Φ T Mf Sf B1 D E a w) (hs : D.size = ops.size) (hb : backOK ops = true) (ho : ordOK ops = true) {i : Nat} {o : Oper} (hi : ops[i]? = some o) (hd : D.getD i false = false) (hr : readyAt ops D i)
    (hst : ∀ i o, ops[i]? = some o → isLoud o = false → Mf (i + 1) = Mf i ∧ Sf (i + 1) = Sf i) (hsame : Mf (i + 1) = Mf i ∧ Sf (i + 1) = Sf i) (hn : ∀ d, o.dst = some d → d < c.n)
    {E' : Nat → Prop} {v : Value} {w' : World} (hk : Keeps noX w w') (hev : Ev E w E' w') (hwf : ∀ b, E' b → b < w'.heap.size) (hT : (T i).p E' v w')
    (hal : ∀ t, o.op = .alloc t → v = .pointer (some ⟨w.heap.size, 0, none⟩) ∧ w.heap.size < w'.heap.size) :
    RI P ops c K Lm Lk Φ T Mf Sf B1 (D.setIfInBounds i true) E' (a.put o.dst v) w' := by
  have hi' : i < ops.size := (Array.getElem?_eq_some_iff.1 hi).1
  have hgs : ∀ j, (D.setIfInBounds i true).getD j false = true ↔ j = i ∨ D.getD j false = true := fun j => get_set (by omega)
  have hdst : ∀ j oj d, ops[j]? = some oj → D.getD j false = true → oj.dst = some d → o.dst ≠ some d := by
    intro j oj d hj hdone hdj
    have hne : i ≠ j := fun e => by subst e; rw [hdone] at hd; cases hd
    intro e
    exact ((ordOK_at ho hi hj hne).1 d e).1 hdj
  have hsd : ∀ x : Nat × TypeId × Ty, SdAt ops D B1 E a w x → SdAt ops (D.setIfInBounds i true) B1 E' (a.put o.dst v) w' x := by
    rintro x ⟨⟨g, og, t, hg, hgd, hgo, hgD⟩, b, hsl, he, hB, u, hu, hTu⟩
    refine ⟨⟨g, og, t, hg, hgd, hgo, (hgs g).2 (.inr hgD)⟩, b, ?_, (hev.same b (lt_of_get hu)).2 he, hB, u, hk.get hu id, Ty.mono hev hTu⟩
    rw [slot_put_ne _ _ _ _ (hdst g og x.1 hg hgD hgd)]
    exact hsl
  refine ⟨by rw [size_put]; exact hI.n, by rw [defers_put]; exact hI.d, hwf, ?_, ?_, ?_, fun m hm => Own.keep0 (hI.l m hm) hev hk, fun F hF => (hI.f F hF).ev hev, ?_, ?_, ?_, ?_, ?_, ?_⟩
  · intro j hj
    rcases (hgs j).1 hj with rfl | hj
    · exact fun o' ho' e he hbe => (hgs e.on).2 (.inr (hr o' ho' e he hbe))
    · exact fun o' ho' e he hbe => (hgs e.on).2 (.inr (hI.cl j hj o' ho' e he hbe))
  · intro s T' hs hno
    rw [slot_put_ne _ _ _ _ (hno i o hi ((hgs i).2 (.inl rfl)))]
    exact Ty.mono hev (hI.k s T' hs fun j oj hj hdone => hno j oj hj ((hgs j).2 (.inr hdone)))
  · intro j oj d hj hdone hdj
    rcases (hgs j).1 hdone with rfl | hdone
    · rw [hi] at hj
      injection hj with hj
      subst hj
      rw [hdj, slot_put_eq _ _ _ (by rw [hI.n]; exact hn d hdj)]
      exact hT
    · rw [slot_put_ne _ _ _ _ (hdst j oj d hj hdone hdj)]
      exact Ty.mono hev (hI.t j oj d hj hdone hdj)
  · intro i' hi'n hcond
    have main : (∀ m ∈ Mf i', m.at E w) ∧ ∀ x ∈ Sf i', SdAt ops D B1 E a w x := by
      cases hl : isLoud o with
      | false =>
        refine hI.m i' hi'n fun j oj hj hlj => ?_
        rw [← hcond j oj hj hlj, hgs]
        constructor
        · exact .inr
        · rintro (rfl | h)
          · rw [hi] at hj; injection hj with hj; subst hj; rw [hl] at hlj; cases hlj
          · exact h
      | true =>
        have hii : i < i' := (hcond i o hi hl).1 ((hgs i).2 (.inl rfl))
        have h0 := hI.m i (by omega) (loud_before hI hb ho hi hd hr hl)
        obtain ⟨n, rfl⟩ : ∃ n, i' = i + 1 + n := ⟨i' - (i + 1), by omega⟩
        obtain ⟨h1, h2⟩ := same_to (Mf := Mf) (Sf := Sf) hst n (i + 1) hi'n (fun j oj hj hlj hjj => by
          have hjd := (hcond j oj hj hlj).2 (by omega)
          rcases (hgs j).1 hjd with rfl | hjd
          · omega
          · have := (loud_before hI hb ho hi hd hr hl j oj hj hlj).1 hjd
            omega)
        rw [h1, h2, hsame.1, hsame.2]
        exact h0
    exact ⟨fun m hm => Own.keep0 (main.1 m hm) hev hk, fun x hx => hsd x (main.2 x hx)⟩
  · intro j oj d t hj hop hdone hdj
    rcases (hgs j).1 hdone with rfl | hdone
    · rw [hi] at hj
      injection hj with hj
      subst hj
      rw [hdj, slot_put_eq _ _ _ (by rw [hI.n]; exact hn d hdj)]
      obtain ⟨rfl, hlt⟩ := hal t hop
      exact ⟨_, rfl, hI.hB, hlt⟩
    · rw [slot_put_ne _ _ _ _ (hdst j oj d hj hdone hdj)]
      obtain ⟨b, h1, h2, h3⟩ := hI.fr j oj d t hj hop hdone hdj
      exact ⟨b, h1, h2, Nat.lt_of_lt_of_le h3 hk.size⟩
  · intro j1 j2 o1 o2 d1 d2 t1 t2 hne h1 h2 p1 p2 g1 g2 f1 f2
    rcases (hgs j1).1 g1 with rfl | e1
    · rcases (hgs j2).1 g2 with rfl | e2
      · exact absurd rfl hne
      · rw [hi] at h1
        injection h1 with h1
        subst h1
        rw [f1, slot_put_eq _ _ _ (by rw [hI.n]; exact hn d1 f1), ← f1, slot_put_ne _ _ _ _ (hdst j2 o2 d2 h2 e2 f2)]
        obtain ⟨rfl, _⟩ := hal t1 p1
        obtain ⟨b, q1, _, q3⟩ := hI.fr j2 o2 d2 t2 h2 p2 e2 f2
        rw [q1]
        intro e
        injection e with e
        injection e with e
        injection e with e
        omega
    · rcases (hgs j2).1 g2 with rfl | e2
      · rw [hi] at h2
        injection h2 with h2
        subst h2
        rw [f2, slot_put_eq _ _ _ (by rw [hI.n]; exact hn d2 f2), ← f2, slot_put_ne _ _ _ _ (hdst j1 o1 d1 h1 e1 f1)]
        obtain ⟨rfl, _⟩ := hal t2 p2
        obtain ⟨b, q1, _, q3⟩ := hI.fr j1 o1 d1 t1 h1 p1 e1 f1
        rw [q1]
        intro e
        injection e with e
        injection e with e
        injection e with e
        omega
      · rw [slot_put_ne _ _ _ _ (hdst j1 o1 d1 h1 e1 f1), slot_put_ne _ _ _ _ (hdst j2 o2 d2 h2 e2 f2)]
        exact hI.fd j1 j2 o1 o2 d1 d2 t1 t2 hne h1 h2 p1 p2 e1 e2 f1 f2
  · exact fun b hx => by
      have := hI.x b hx
      exact (hev.same b (hI.wf b this)).2 this
  · exact hI.keeps.step hk fun _ => False.elim
  · exact Nat.le_trans hI.hB hk.size
end
end Go.Vc
