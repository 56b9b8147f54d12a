/- Regions by types of slots: what is done in whatever order keeps the types. No condition. -/
import Derived.Test.YtjlojkchgfeenaaXVc1
import Derived.Test.YtjlojkchgfeenaaXVc2
namespace Go.Vc
open Go
def opTy (K : List (Nat × Ty)) : Operand → Option Ty
  | .const v => some (.is v)
  | .tmp s => look K s
  | .func f => some (.is (.func (.func f) #[] #[]))
  | .global g => some (.is (.pointer (some ⟨g, 0, none⟩)))
def Runs (P : Program) (r : Result Next) (R : Value → World → Prop) : Prop :=
  match r with
  | .ok (.value v) w' => R v w'
  | .ok .skip w' => R undef w'
  | .ok (.enter f args) w' => Calls P f args w' fun e w'' => match e with | .returned v => R v w'' | _ => False
  | _ => False
theorem Runs.upon {P : Program} {o : Oper} {a : Act} {next : Act → World → Prop} {Q : Exit → Act → World → Prop} {r : Result Next} {R : Value → World → Prop}
    (h : Runs P r R) (hn : ∀ v w', R v w' → next (a.put o.dst v) w') : o.upon P a next Q r := by
  unfold Runs at h
  split at h
  · exact hn _ _ h
  · exact hn _ _ h
  · refine Calls.mono h fun e w'' he => ?_
    cases e with
    | returned v => exact hn _ _ he
    | panicked ch => exact he.elim
    | outgrown => exact he.elim
  · exact h.elim
theorem Runs.mono {P : Program} {r : Result Next} {R R' : Value → World → Prop} (h : Runs P r R) (hr : ∀ v w, R v w → R' v w) : Runs P r R' := by
  unfold Runs at *
  split at h
  · exact hr _ _ h
  · exact hr _ _ h
  · refine Calls.mono h fun e w'' he => ?_
    cases e with
    | returned v => exact hr _ _ he
    | panicked ch => exact he.elim
    | outgrown => exact he.elim
  · exact h.elim
abbrev Know := Operand → Ty → Prop
abbrev Kn (K : List (Nat × Ty)) : Know := fun x T => opTy K x = some T
abbrev KnG (π : Prop) (K : List (Nat × Ty)) : Know := fun x T => opTy K x = some T ∨ ∃ π', opTy K x = some (.opt π' T) ∧ (π → π')
structure Pre (L : List Own) (Φ : List (World → Prop)) (H : Know) (o : Oper) (E : Nat → Prop) (w : World) (ρ : Operand → Value) : Prop where
  wf : ∀ b, E b → b < w.heap.size
  l : ∀ m ∈ L, m.at E w
  f : ∀ F ∈ Φ, Pers E w F
  x : ∀ x T, x ∈ o.op.operands → H x T → T.p E (ρ x) w
def Ob (P : Program) (L : List Own) (Φ : List (World → Prop)) (H : Know) (o : Oper) (T : Ty) : Prop :=
  ∀ E w ρ, Pre L Φ H o E w ρ → Runs P ((execOp ρ o).run P w) fun v w' => Keeps noX w w' ∧ T.p E v w'
def ObM (P : Program) (L : List Own) (Φ : List (World → Prop)) (H : Know) (M : List Own) (o : Oper) (T : Ty) (M' : List Own) : Prop :=
  ∀ E w ρ, Pre L Φ H o E w ρ → (∀ m ∈ M, m.at E w) → (M.map (·.b)).Nodup →
    Runs P ((execOp ρ o).run P w) fun v w' => Keeps (fun b => b ∈ M.map (·.b)) w w' ∧ T.p E v w' ∧ ∀ m ∈ M', m.at E w'
def zcells (P : Program) (t : TypeId) : Option Nat := (P.info? t).bind fun i => i.zero.map fun z => z.cells.size
def isLoud (o : Oper) : Bool :=
  match o.op with
  | .store .. => true
  | .call { callee := .builtin .len, .. } | .call { callee := .builtin .cap, .. } | .call { callee := .builtin .max, .. } | .call { callee := .builtin .min, .. } => false
  | .call _ => true
  | .mapUpdate .. => true
  | _ => false
inductive Kind where
  | typed | gated | new | sto (s : Nat) | chg
  deriving DecidableEq
def isAlloc (o : Oper) : Bool := match o.op with | .alloc _ => true | _ => false
inductive St1 (P : Program) (ops : Array Oper) (L : List Own) (Φ : List (World → Prop)) (i : Nat) (o : Oper) (K : List (Nat × Ty)) :
    List Own → List (Nat × TypeId × Ty) → Ty → List Own → List (Nat × TypeId × Ty) → Kind → Prop
  | typed {M S T} (hg : o.guard = none) (h : Ob P L Φ (Kn K) o T) : St1 P ops L Φ i o K M S T M S .typed
  | gated {M S T} (π : Prop) (g : Nat) (b : Bool) (d : Nat) (hg : o.guard = some (g, b)) (hd : (ops[g]?).bind (·.dst) = some d)
      (hk : (∃ c, look K d = some (.is (.bool c)) ∧ π = (c = b)) ∨ ∃ π₀ c, look K d = some (.opt π₀ (.is (.bool c))) ∧ π = (π₀ ∧ c = b)) (hna : isAlloc o = false) (h : π → Ob P L Φ (KnG π K) o T) : St1 P ops L Φ i o K M S (.opt π T) M S .gated
  | new {M S} (t : TypeId) (n : Nat) (d : Nat) (hd : o.dst = some d) (hg : o.guard = none) (ho : o.op = .alloc t) (hz : zcells P t = some n) : St1 P ops L Φ i o K M S (.own t n) M S .new
  | sto {M S T} (s : Nat) (ety ty : TypeId) (n : Nat) (x : Operand) (hg : o.guard = none) (hdst : o.dst = none) (g : Nat) (hgi : g < i) (hal : ∃ og t, ops[g]? = some og ∧ og.dst = some s ∧ og.op = .alloc t) (ho : o.op = .store ty (.tmp s) x) (hs : look K s = some (.own ety n)) (hx : opTy K x = some T)
      (hT : ∀ E v w, T.p E v w → v.cells.size = n ∧ ∀ u ∈ v.cells.toList, u.oneCell' = true) (hty : (P.info? ty).map (·.size) = some n) (hn : s ∉ S.map (·.1)) : St1 P ops L Φ i o K M S .any M ((s, ety, T) :: S) (.sto s)
  | chg {M S T M'} (hg : o.guard = none) (hl : isLoud o = true) (hm : M'.map (·.b) = M.map (·.b)) (h : ObM P L Φ (Kn K) M o T M') : St1 P ops L Φ i o K M S T M' S .chg
def putK (dst : Option Nat) (T : Ty) (K : List (Nat × Ty)) : List (Nat × Ty) := match dst with | some d => (d, T) :: K | none => K
def RT (P : Program) (ops : Array Oper) (L : List Own) (Φ : List (World → Prop)) : Nat → List Oper → List (Nat × Ty) → List Own → List (Nat × TypeId × Ty) → (List (Nat × Ty) → List Own → List (Nat × TypeId × Ty) → Prop) → Prop
  | _, [], K, M, S, k => k K M S
  | i, o :: rest, K, M, S, k => ∃ T M' S' kd, St1 P ops L Φ i o K M S T M' S' kd ∧ RT P ops L Φ (i + 1) rest (putK o.dst T K) M' S' k
def kAt (l : List Oper) (T : Nat → Ty) (K : List (Nat × Ty)) : Nat → List (Nat × Ty)
  | 0 => K
  | i + 1 => putK ((l[i]?).bind (·.dst)) (T i) (kAt l T K i)
theorem kAt_cons (o : Oper) (l : List Oper) (T : Nat → Ty) (K : List (Nat × Ty)) : ∀ i, kAt (o :: l) T K (i + 1) = kAt l (fun j => T (j + 1)) (putK o.dst (T 0) K) i := by
  intro i
  induction i with
  | zero => simp [kAt]
  | succ i ih => rw [kAt, ih]; simp [kAt]
theorem RT.out {P : Program} {ops : Array Oper} {L : List Own} {Φ : List (World → Prop)} {k : List (Nat × Ty) → List Own → List (Nat × TypeId × Ty) → Prop} :
    ∀ {l : List Oper} {i₀ : Nat} {K : List (Nat × Ty)} {M : List Own} {S : List (Nat × TypeId × Ty)}, RT P ops L Φ i₀ l K M S k →
    ∃ (T : Nat → Ty) (Mf : Nat → List Own) (Sf : Nat → List (Nat × TypeId × Ty)) (kf : Nat → Kind), Mf 0 = M ∧ Sf 0 = S ∧
      (∀ i o, l[i]? = some o → St1 P ops L Φ (i₀ + i) o (kAt l T K i) (Mf i) (Sf i) (T i) (Mf (i + 1)) (Sf (i + 1)) (kf i)) ∧ k (kAt l T K l.length) (Mf l.length) (Sf l.length) := by
  intro l
  induction l with
  | nil => intro i₀ K M S h; exact ⟨fun _ => .any, fun _ => M, fun _ => S, fun _ => .typed, rfl, rfl, fun i o h => by simp at h, h⟩
  | cons o l ih =>
    rintro i₀ K M S ⟨T0, M', S', kd, hs, hr⟩
    obtain ⟨T, Mf, Sf, kf, hM, hS, hst, hk⟩ := ih hr
    refine ⟨fun i => match i with | 0 => T0 | i + 1 => T i, fun i => match i with | 0 => M | i + 1 => Mf i, fun i => match i with | 0 => S | i + 1 => Sf i, fun i => match i with | 0 => kd | i + 1 => kf i, rfl, rfl, ?_, ?_⟩
    · intro i o' ho
      cases i with
      | zero =>
        simp at ho
        subst ho
        simp only [kAt, hM, hS]
        exact hs
      | succ i =>
        rw [kAt_cons]
        have := hst i o' (by simpa using ho)
        rwa [show i₀ + 1 + i = i₀ + (i + 1) by omega] at this
    · rw [List.length_cons, kAt_cons]
      exact hk
def befHas (B : Array Nat) (j i : Nat) : Bool := (B.getD j 0).testBit i
theorem fold_bits {acc : Array Nat} : ∀ (es : List Edge) (s : Nat) (i : Nat), (es.foldl (fun s e => if Region.binds .any e then s ||| 2 ^ e.on ||| acc.getD e.on 0 else s) s).testBit i = true →
    s.testBit i = true ∨ ∃ e ∈ es, Region.binds .any e = true ∧ (e.on = i ∨ (acc.getD e.on 0).testBit i = true) := by
  intro es
  induction es with
  | nil => intro s i h; exact .inl h
  | cons e es ih =>
    intro s i h
    rw [List.foldl_cons] at h
    rcases ih _ _ h with h1 | ⟨e', he', h2⟩
    · by_cases hb : Region.binds .any e = true
      · rw [if_pos hb] at h1
        simp only [Nat.testBit_or, Bool.or_eq_true] at h1
        rcases h1 with (h1 | h1) | h1
        · exact .inl h1
        · refine .inr ⟨e, List.mem_cons_self, hb, .inl ?_⟩
          rw [Nat.testBit_two_pow] at h1
          exact of_decide_eq_true h1
        · exact .inr ⟨e, List.mem_cons_self, hb, .inr h1⟩
      · rw [if_neg hb] at h1
        exact .inl h1
    · exact .inr ⟨e', List.mem_cons_of_mem _ he', h2⟩
def befStep (acc : Array Nat) (o : Oper) : Array Nat := acc.push (o.after.foldl (fun s e => if Region.binds .any e then s ||| 2 ^ e.on ||| acc.getD e.on 0 else s) 0)
theorem befStep_size : ∀ (l : List Oper) (acc : Array Nat), (l.foldl befStep acc).size = acc.size + l.length := by
  intro l
  induction l with
  | nil => intro acc; simp
  | cons o l ih => intro acc; rw [List.foldl_cons, ih, befStep, Array.size_push, List.length_cons]; omega
theorem befStep_old : ∀ (l : List Oper) (acc : Array Nat) (j : Nat), j < acc.size → (l.foldl befStep acc).getD j 0 = acc.getD j 0 := by
  intro l
  induction l with
  | nil => intro acc j _; rfl
  | cons o l ih =>
    intro acc j hj
    rw [List.foldl_cons, ih _ _ (by rw [befStep, Array.size_push]; omega), befStep]
    simp only [Array.getD_eq_getD_getElem?, Array.getElem?_push]
    rw [if_neg (by omega)]
theorem before_has {ops : Array Oper} (hb : backOK ops = true) {j i : Nat} (h : befHas (Region.before ops) j i = true) :
    ∃ o, ops[j]? = some o ∧ ∃ e ∈ o.after, Region.binds .any e = true ∧ (e.on = i ∨ befHas (Region.before ops) e.on i = true) := by
  have heq : Region.before ops = ops.toList.foldl befStep #[] := by unfold Region.before befStep; rw [← Array.foldl_toList]
  unfold befHas at *
  rw [heq] at h ⊢
  have hj : j < ops.size := by
    rcases Nat.lt_or_ge j ops.size with hlt | hge
    · exact hlt
    · have hsz := befStep_size ops.toList #[]
      simp only [Array.getD_eq_getD_getElem?] at h
      rw [Array.getElem?_eq_none (by rw [hsz]; simp; omega)] at h
      simp at h
  have ho : ops[j]? = some ops[j] := Array.getElem?_eq_getElem hj
  refine ⟨_, ho, ?_⟩
  have hsplit : ops.toList = ops.toList.take j ++ ops[j] :: ops.toList.drop (j + 1) := by
    rw [← Array.getElem_toList hj, List.getElem_cons_drop, List.take_append_drop]
  rw [hsplit, List.foldl_append, List.foldl_cons] at h
  have hs0 : ((ops.toList.take j).foldl befStep #[]).size = j := by rw [befStep_size]; simp; omega
  rw [befStep_old _ _ j (by rw [befStep, Array.size_push, hs0]; omega)] at h
  rw [befStep] at h
  simp only [Array.getD_eq_getD_getElem?, Array.getElem?_push, hs0, if_true, Option.getD_some] at h
  rw [← Array.foldl_toList] at h
  rcases fold_bits (acc := (ops.toList.take j).foldl befStep #[]) ops[j].after.toList 0 i (by simpa [Array.getD_eq_getD_getElem?] using h) with h1 | ⟨e, he, hbe, h2⟩
  · simp at h1
  · refine ⟨e, by simpa using he, hbe, ?_⟩
    have hk := List.all_eq_true.1 hb j (List.mem_range.2 hj)
    rw [ho] at hk
    have hlt := (Array.all_eq_true_iff_forall_mem.1 hk) e (by simpa using he)
    rw [hbe] at hlt
    simp at hlt
    refine h2.imp id fun h3 => ?_
    rw [hsplit, List.foldl_append, befStep_old _ _ e.on (by rw [hs0]; exact hlt)]
    exact h3
def Closed (ops : Array Oper) (D : Array Bool) : Prop := ∀ j, D.getD j false = true → readyAt ops D j
theorem before_done {ops : Array Oper} (hb : backOK ops = true) {D : Array Bool} (hc : Closed ops D) : ∀ j i, readyAt ops D j → befHas (Region.before ops) j i = true → D.getD i false = true := by
  intro j
  induction j using Nat.strongRecOn with
  | _ j ih =>
    intro i hj h
    obtain ⟨o, ho, e, he, hbe, h2⟩ := before_has hb h
    have hd := hj o ho e he hbe
    rcases h2 with rfl | h2
    · exact hd
    · have hlt : e.on < j := by
        have hjs : j < ops.size := by
          rcases Nat.lt_or_ge j ops.size with hlt | hge
          · exact hlt
          · rw [Array.getElem?_eq_none hge] at ho; cases ho
        have hk := List.all_eq_true.1 hb j (List.mem_range.2 hjs)
        rw [ho] at hk
        have hlt := (Array.all_eq_true_iff_forall_mem.1 hk) e he
        rw [hbe] at hlt
        simpa using hlt
      exact ih e.on hlt i (hc _ hd) h2
def ordOK (ops : Array Oper) : Bool :=
  let B := Region.before ops
  let l := ops.toList.zipIdx
  l.all fun (oi, i) => l.all fun (oj, j) => i == j ||
    ((match oi.dst with | none => true | some d => (oj.dst != some d) && (!(oj.looksAt ops).contains d || (if i < j then befHas B j i else befHas B i j))) &&
     (!(isLoud oi && isLoud oj && decide (i < j)) || befHas B j i))
def regOK (ops : Array Oper) : Bool := backOK ops && ordOK ops
theorem ordOK_at {ops : Array Oper} (h : ordOK ops = true) {i j : Nat} {oi oj : Oper} (hi : ops[i]? = some oi) (hj : ops[j]? = some oj) (hne : i ≠ j) :
    (∀ d, oi.dst = some d → oj.dst ≠ some d ∧ (d ∈ oj.looksAt ops → if i < j then befHas (Region.before ops) j i = true else befHas (Region.before ops) i j = true)) ∧
    (isLoud oi = true → isLoud oj = true → i < j → befHas (Region.before ops) j i = true) := by
  unfold ordOK at h
  have h1 := List.all_eq_true.1 (List.all_eq_true.1 h (oi, i) (by rw [List.mk_mem_zipIdx_iff_getElem?]; simpa using hi)) (oj, j) (by rw [List.mk_mem_zipIdx_iff_getElem?]; simpa using hj)
  simp only [Bool.or_eq_true, Bool.and_eq_true, beq_iff_eq, hne, false_or, Bool.not_eq_true', Bool.and_eq_false_iff, decide_eq_false_iff_not] at h1
  obtain ⟨h2, h3⟩ := h1
  constructor
  · intro d hd
    rw [hd] at h2
    simp only [Bool.and_eq_true, bne_iff_ne, ne_eq, Bool.or_eq_true, Bool.not_eq_true'] at h2
    refine ⟨h2.1, fun hm => ?_⟩
    rcases h2.2 with h4 | h4
    · rw [List.contains_iff_mem.2 hm] at h4; cases h4
    · split at h4 <;> simp [*]
  · intro a b c
    rcases h3 with ((h4 | h4) | h4) | h4
    · rw [a] at h4; cases h4
    · rw [b] at h4; cases h4
    · exact absurd c h4
    · exact h4
end Go.Vc
