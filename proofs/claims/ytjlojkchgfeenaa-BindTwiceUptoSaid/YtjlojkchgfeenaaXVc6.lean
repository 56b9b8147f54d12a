/- The rules for statements. No condition. -/
import Derived.Test.YtjlojkchgfeenaaXVc5
import Derived.Deep.LoopGhost
namespace Go.Vc
open Go
section
variable {P : Program} {c : Ctx} {K : List (Nat × Ty)} {L : List Own} {Φ : List (World → Prop)} {Q : Exit → Act → World → Prop}
structure JX (c : Ctx) (K : List (Nat × Ty)) (L : List Own) (Φ : List (World → Prop)) (e : Exit) (Q : Exit → Act → World → Prop) : Prop where
  out : ∀ E a w, SA c K L Φ E a w → Q e a w
theorem J.seq {x y : Code} (h : J P c K L Φ x (Exit.then (y.wp P Q) Q)) : J P c K L Φ (.seq x y) Q := ⟨fun E a w hs => wp_seq (h.out E a w hs)⟩
theorem J.skip (h : JX c K L Φ .normal Q) : J P c K L Φ .skip Q := ⟨fun E a w hs => wp_skip (h.out E a w hs)⟩
theorem J.ret (h : JX c K L Φ .ret Q) : J P c K L Φ .ret Q := ⟨fun E a w hs => wp_ret (h.out E a w hs)⟩
theorem J.exit {id : Nat} (h : JX c K L Φ (.exit id) Q) : J P c K L Φ (.exit id) Q := ⟨fun E a w hs => wp_exit (h.out E a w hs)⟩
theorem J.block {id : Nat} {x : Code} (h : J P c K L Φ x (Exit.inBlock id Q)) : J P c K L Φ (.block id x) Q := ⟨fun E a w hs => wp_block (h.out E a w hs)⟩
theorem JX.next {y : Code} (h : J P c K L Φ y Q) : JX c K L Φ .normal (Exit.then (y.wp P Q) Q) := ⟨h.out⟩
theorem JX.pass {e : Exit} {N : Act → World → Prop} (he : e ≠ .normal) (h : JX c K L Φ e Q) : JX c K L Φ e (Exit.then N Q) := ⟨fun E a w hs => by
  have := h.out E a w hs
  cases e <;> first | exact absurd rfl he | exact this⟩
theorem JX.ret_pass {N : Act → World → Prop} (h : JX c K L Φ .ret Q) : JX c K L Φ .ret (Exit.then N Q) := ⟨h.out⟩
theorem JX.exit_pass {id : Nat} {N : Act → World → Prop} (h : JX c K L Φ (.exit id) Q) : JX c K L Φ (.exit id) (Exit.then N Q) := ⟨h.out⟩
theorem JX.ret_block {id : Nat} (h : JX c K L Φ .ret Q) : JX c K L Φ .ret (Exit.inBlock id Q) := ⟨h.out⟩
theorem JX.normal_block {id : Nat} (h : JX c K L Φ .normal Q) : JX c K L Φ .normal (Exit.inBlock id Q) := ⟨h.out⟩
theorem JX.hit {id : Nat} (h : JX c K L Φ .normal Q) : JX c K L Φ (.exit id) (Exit.inBlock id Q) := ⟨fun E a w hs => by
  have := h.out E a w hs
  simpa [Exit.inBlock] using this⟩
theorem JX.miss {id id' : Nat} (hne : Nat.beq id' id = false) (h : JX c K L Φ (.exit id') Q) : JX c K L Φ (.exit id') (Exit.inBlock id Q) := ⟨fun E a w hs => by
  have := h.out E a w hs
  have hne' : ¬ id' = id := fun e => by subst e; rw [Nat.beq_refl] at hne; cases hne
  simpa [Exit.inBlock, hne'] using this⟩
theorem FinS.nil {Lk M : List Own} (h : JX c K (M ++ Lk) Φ .normal Q) : FinS P c Lk Φ Q K M [] := h.out
theorem FinS.cons {Lk M : List Own} {s : Nat} {ety : TypeId} {T : Ty} {S : Sd} (h : ∀ b, FinS P c Lk Φ Q ((s, .is (.pointer (some ⟨b, 0, none⟩))) :: K) (⟨b, ety, T⟩ :: M) S) : FinS P c Lk Φ Q K M ((s, ety, T) :: S) := h
theorem opTy_eval {E : Nat → Prop} {a : Act} {w : World} (hs : SA c K L Φ E a w) {x : Operand} {T : Ty} (h : opTy K x = some T) : T.p E (a.eval x) w := by
  cases x with
  | tmp s => exact hs.k s T h
  | const v => simp only [opTy, Option.some.injEq] at h; subst h; rfl
  | global g => simp only [opTy, Option.some.injEq] at h; subst h; rfl
  | func f => simp only [opTy, Option.some.injEq] at h; subst h; rfl
theorem J.cond {x : Operand} {b : Bool} {y z : Code} (h : opTy K x = some (.is (.bool b))) (ht : b = true → J P c K L Φ y Q) (hf : b = false → J P c K L Φ z Q) : J P c K L Φ (.cond x y z) Q :=
  ⟨fun E a w hs => wp_cond_split (opTy_eval hs h) (fun e => (ht e).out E a w hs) (fun e => (hf e).out E a w hs)⟩
theorem J.cut {K1 : List (Nat × Ty)} {L1 : List Own} {Φ1 : List (World → Prop)} {x y : Code} (h : J P c K L Φ x (Exit.then (fun a w => ∃ E, SA c K1 L1 Φ1 E a w) Q)) (hy : J P c K1 L1 Φ1 y Q) : J P c K L Φ (.seq x y) Q :=
  ⟨fun E a w hs => wp_seq (wp_mono (h.out E a w hs) fun e a w hq => by
    cases e with
    | normal => obtain ⟨E, hs⟩ := hq; exact hy.out E a w hs
    | _ => exact hq)⟩
theorem JX.mid {K1 : List (Nat × Ty)} {L1 : List Own} {Φ1 : List (World → Prop)} (h : ∀ E a w, SA c K L Φ E a w → SA c K1 L1 Φ1 E a w) : JX c K L Φ .normal (Exit.then (fun a w => ∃ E, SA c K1 L1 Φ1 E a w) Q) := ⟨fun E a w hs => ⟨E, h E a w hs⟩⟩
theorem SA.sub {K' : List (Nat × Ty)} {L' : List Own} {Φ' : List (World → Prop)} {E : Nat → Prop} {a : Act} {w : World} (h : SA c K L Φ E a w) (hK : ∀ s T, look K' s = some T → look K s = some T)
    (hL : ∀ o ∈ L', o ∈ L) (hn : (L'.map (·.b)).Nodup) (hΦ : ∀ F ∈ Φ', F ∈ Φ) : SA c K' L' Φ' E a w :=
  ⟨h.n, h.d, h.wf, fun s T hs => h.k s T (hK s T hs), fun o ho => h.l o (hL o ho), hn, fun F hF => h.f F (hΦ F hF), h.x, h.xs, h.keeps, fun o ho => h.may o (hL o ho)⟩
inductive Sel (K : List (Nat × Ty)) : List Nat → List (Nat × Ty) → Prop
  | nil : Sel K [] []
  | cons {s : Nat} {ss : List Nat} {T : Ty} {K' : List (Nat × Ty)} (h : look K s = some T) (r : Sel K ss K') : Sel K (s :: ss) ((s, T) :: K')
theorem Sel.look {ss : List Nat} {K' : List (Nat × Ty)} (h : Sel K ss K') : ∀ s T, Vc.look K' s = some T → Vc.look K s = some T := by
  induction h with
  | nil => intro s T h; cases h
  | cons h r ih =>
    rename_i s ss T K'
    intro s' T' hl
    simp only [Vc.look] at hl
    cases hq : Nat.beq s s' with
    | true =>
      rw [hq, cond_true] at hl
      injection hl with hl
      subst hl
      rw [← Nat.eq_of_beq_eq_true hq]
      exact h
    | false => rw [hq, cond_false] at hl; exact ih s' T' hl
theorem J.sel {x : Code} (ss : List Nat) {K' : List (Nat × Ty)} (h : Sel K ss K') (hj : J P c K' L Φ x Q) : J P c K L Φ x Q :=
  ⟨fun E a w hs => hj.out E a w (hs.sub h.look (fun _ => id) hs.ld (fun _ => id))⟩
inductive Pick (L : List Own) : List Own → List Own → Prop
  | done : Pick L L []
  | take {R R' M : List Own} {o : Own} (r : Pick L R M) (h : ∃ A B, R = A ++ o :: B ∧ R' = A ++ B) : Pick L R' (M ++ [o])
theorem J.subL {x : Code} {L' : List Own} (hL : ∀ o ∈ L', o ∈ L) (hn : (L.map (·.b)).Nodup → (L'.map (·.b)).Nodup) (hj : J P c K L' Φ x Q) : J P c K L Φ x Q :=
  ⟨fun E a w hs => hj.out E a w (hs.sub (fun _ _ => id) hL (hn hs.ld) (fun _ => id))⟩
theorem J.swapL {x : Code} {L1 L2 : List Own} (hj : J P c K (L2 ++ L1) Φ x Q) : J P c K (L1 ++ L2) Φ x Q :=
  J.subL (fun o ho => by simp at ho ⊢; exact ho.symm) (fun h => by
    rw [List.map_append] at h ⊢
    obtain ⟨h1, h2, h3⟩ := List.nodup_append.1 h
    exact List.nodup_append.2 ⟨h2, h1, fun a ha b hb e => h3 b hb a ha e.symm⟩) hj
theorem J.subΦ {x : Code} {Φ' : List (World → Prop)} (hΦ : ∀ F ∈ Φ', F ∈ Φ) (hj : J P c K L Φ' x Q) : J P c K L Φ x Q :=
  ⟨fun E a w hs => hj.out E a w (hs.sub (fun _ _ => id) (fun _ => id) hs.ld hΦ)⟩
theorem J.open_ {x : Code} {s : Nat} {R : Value → World → Prop} (h : look K s = some (.rep R)) (hj : ∀ v, (∃ w, R v w) → J P c ((s, .is v) :: K) L (R v :: Φ) x Q) : J P c K L Φ x Q := by
  refine ⟨?_⟩
  intro E a w hs
  have hR : Pers E w (R (slotOf a s)) := hs.k s _ h
  refine (hj (slotOf a s) ⟨w, hR.now⟩).out E a w ⟨hs.n, hs.d, hs.wf, fun s' T' hl => ?_, hs.l, hs.ld, fun F hF => ?_, hs.x, hs.xs, hs.keeps, hs.may⟩
  · simp only [look] at hl
    cases hq : Nat.beq s s' with
    | true =>
      rw [hq, cond_true] at hl
      injection hl with hl
      subst hl
      rw [← Nat.eq_of_beq_eq_true hq]
      rfl
    | false => rw [hq, cond_false] at hl; exact hs.k s' T' hl
  · rcases List.mem_cons.1 hF with rfl | hF
    · exact hR
    · exact hs.f F hF
theorem J.fact {x : Code} (F : World → Prop) (hF : ∀ E w, (∀ G ∈ Φ, Pers E w G) → (∀ o ∈ L, o.at E w) → Pers E w F) (hj : J P c K L (F :: Φ) x Q) : J P c K L Φ x Q :=
  ⟨fun E a w hs => hj.out E a w ⟨hs.n, hs.d, hs.wf, hs.k, hs.l, hs.ld, fun G hG => by
    rcases List.mem_cons.1 hG with rfl | hG
    · exact hF E w hs.f hs.l
    · exact hs.f G hG, hs.x, hs.xs, hs.keeps, hs.may⟩⟩
theorem J.know {x : Code} (p : Prop) (hp : ∀ E w, (∀ G ∈ Φ, Pers E w G) → (∀ o ∈ L, o.at E w) → p) (hj : p → J P c K L Φ x Q) : J P c K L Φ x Q :=
  ⟨fun E a w hs => (hj (hp E w hs.f hs.l)).out E a w hs⟩
theorem J.loop {α : Type} {body : Code} (Kf : α → List (Nat × Ty)) (Lf : α → List Own) (Φf : α → List (World → Prop)) (inv : α → Prop) (μ : α → Nat) (x0 : α)
    (h0 : Kf x0 = K ∧ Lf x0 = L ∧ Φf x0 = Φ) (hi : inv x0)
    (h : ∀ x, inv x → J P c (Kf x) (Lf x) (Φf x) body (Exit.then (fun a w => ∃ x', inv x' ∧ μ x' < μ x ∧ ∃ E, SA c (Kf x') (Lf x') (Φf x') E a w) Q)) : J P c K L Φ (.loop body) Q := by
  refine ⟨?_⟩
  intro E a w hs
  obtain ⟨rfl, rfl, rfl⟩ := h0
  refine wp_loop_ghost (fun n a w => ∃ x, inv x ∧ μ x = n ∧ ∃ E, SA c (Kf x) (Lf x) (Φf x) E a w) (μ x0) ⟨x0, hi, rfl, E, hs⟩ ?_
  rintro n a w ⟨x, hx, rfl, E, hs⟩
  refine wp_mono ((h x hx).out E a w hs) ?_
  intro e a' w' hq
  cases e with
  | normal =>
    obtain ⟨x', h1, h2, h3⟩ := hq
    exact ⟨μ x', h2, x', h1, rfl, h3⟩
  | _ => exact hq
theorem JX.round {α : Type} {Kf : α → List (Nat × Ty)} {Lf : α → List Own} {Φf : α → List (World → Prop)} {inv : α → Prop} {μ : α → Nat} {x : α} (x' : α) (hi : inv x') (hμ : μ x' < μ x)
    (ss : List Nat) (hK : Sel K ss (Kf x')) (hL : Lf x' = L) (hΦ : ∀ F ∈ Φf x', F ∈ Φ) : JX c K L Φ .normal (Exit.then (fun a w => ∃ x', inv x' ∧ μ x' < μ x ∧ ∃ E, SA c (Kf x') (Lf x') (Φf x') E a w) Q) :=
  ⟨fun E a w hs => ⟨x', hi, hμ, E, hs.sub hK.look (fun o ho => by rw [← hL]; exact ho) (by rw [hL]; exact hs.ld) hΦ⟩⟩
structure JO (P : Program) (c : Ctx) (K : List (Nat × Ty)) (L : List Own) (Φ : List (World → Prop)) (ops : Array Oper) (l : List Oper) (Q : Exit → Act → World → Prop) : Prop where
  out : ∀ E a w, SA c K L Φ E a w → wpList P ops Q l a w
theorem J.plain {id : Nat} {l : List Oper} (h : JO P c K L Φ l.toArray l Q) : J P c K L Φ (.region id l.toArray false) Q := ⟨fun E a w hs => wp_region_lit (h.out E a w hs)⟩
theorem JO.nil {ops : Array Oper} (h : JX c K L Φ .normal Q) : JO P c K L Φ ops [] Q := ⟨fun E a w hs => h.out E a w hs⟩
theorem SA.put {E E' : Nat → Prop} {a : Act} {w w' : World} {dst : Option Nat} {v : Value} {T : Ty} {L' : List Own} (hs : SA c K L Φ E a w) (hev : Ev E w E' w') (hwf : ∀ b, E' b → b < w'.heap.size) (hT : T.p E' v w') (hd : ∀ d, dst = some d → d < c.n)
    (hL : ∀ o ∈ L', o.at E' w') (hn : (L'.map (·.b)).Nodup) (hk : Keeps c.X0 c.W0 w') (hm : ∀ o ∈ L', c.X0 o.b ∨ c.W0.heap.size ≤ o.b) : SA c (putK dst T K) L' Φ E' (a.put dst v) w' := by
  refine ⟨by rw [size_put]; exact hs.n, by rw [defers_put]; exact hs.d, hwf, ?_, hL, hn, fun F hF => (hs.f F hF).ev hev, fun b hb => (hev.same b (hs.wf b (hs.x b hb))).2 (hs.x b hb), hs.xs, hk, hm⟩
  intro s T' hl
  cases dst with
  | none => exact Ty.mono hev (hs.k s T' hl)
  | some d =>
    simp only [putK, look] at hl
    cases hq : Nat.beq d s with
    | true =>
      rw [hq, cond_true] at hl
      injection hl with hl
      subst hl
      rw [← Nat.eq_of_beq_eq_true hq]
      rw [show (a.put (some d) v).tmps.getD d undef = v from slot_put_eq a d v (by rw [hs.n]; exact hd d rfl)]
      exact hT
    | false =>
      rw [hq, cond_false] at hl
      rw [show (a.put (some d) v).tmps.getD s undef = a.tmps.getD s undef from slot_put_ne a (some d) v s (fun e => by injection e with e; subst e; rw [Nat.beq_refl] at hq; cases hq)]
      exact Ty.mono hev (hs.k s T' hl)
theorem JO.typed {ops : Array Oper} {o : Oper} {rest : List Oper} {T : Ty} (hg : o.guard = none) (hd : ∀ d, o.dst = some d → d < c.n) (h : Ob P L Φ (Kn K) o T) (hn : JO P c (putK o.dst T K) L Φ ops rest Q) : JO P c K L Φ ops (o :: rest) Q := by
  refine ⟨?_⟩
  intro E a w hs
  refine wpList_plain hg fun K' hK => ?_
  unfold Oper.wp
  refine Runs.upon (h E w a.eval ⟨hs.wf, hs.l, hs.f, fun x T' _ hx => opTy_eval hs hx⟩) fun v w' ⟨hk, hT⟩ => hK _ _ (hn.out E _ _ ?_)
  have hev : Ev E w E w' := Ev.of_keeps hk.of_noX
  exact hs.put hev (fun b hb => Nat.lt_of_lt_of_le (hs.wf b hb) hk.size) hT hd (fun o ho => Own.keep0 (hs.l o ho) hev hk) hs.ld (hs.keeps.step hk fun _ => False.elim) hs.may
theorem JO.chg {ops : Array Oper} {o : Oper} {rest : List Oper} {T : Ty} {L' : List Own} (hg : o.guard = none) (hd : ∀ d, o.dst = some d → d < c.n) (hm : L'.map (·.b) = L.map (·.b)) (h : ObM P [] Φ (Kn K) L o T L') (hn : JO P c (putK o.dst T K) L' Φ ops rest Q) : JO P c K L Φ ops (o :: rest) Q := by
  refine ⟨?_⟩
  intro E a w hs
  refine wpList_plain hg fun K' hK => ?_
  unfold Oper.wp
  refine Runs.upon (h E w a.eval ⟨hs.wf, (fun _ h => (List.not_mem_nil h).elim), hs.f, fun x T' _ hx => opTy_eval hs hx⟩ hs.l hs.ld) fun v w' ⟨hk, hT, hL⟩ => hK _ _ (hn.out E _ _ ?_)
  have hsub : ∀ b, b ∈ L.map (·.b) → E b := fun b hb => by obtain ⟨m, hm, rfl⟩ := List.mem_map.1 hb; exact (hs.l m hm).1
  have hmay : ∀ b, b ∈ L.map (·.b) → c.X0 b ∨ c.W0.heap.size ≤ b := fun b hb => by obtain ⟨m, hm, rfl⟩ := List.mem_map.1 hb; exact hs.may m hm
  have hev : Ev E w E w' := Ev.of_keeps (hk.mono fun b _ => hsub b)
  refine hs.put hev (fun b hb => Nat.lt_of_lt_of_le (hs.wf b hb) hk.size) hT hd hL (by rw [hm]; exact hs.ld) (hs.keeps.step hk hmay) fun o ho => ?_
  exact hmay o.b (by rw [← hm]; exact List.mem_map_of_mem ho)
theorem SA.new {E : Nat → Prop} {a : Act} {w : World} {d : Nat} {t : TypeId} {T : Ty} {u : Value} (hs : SA c K L Φ E a w) (hd : d < c.n) (hT : T.p E u w) :
    ∃ E', SA c ((d, .is (.pointer (some ⟨w.heap.size, 0, none⟩))) :: K) (⟨w.heap.size, t, T⟩ :: L) Φ E' (a.put (some d) (.pointer (some ⟨w.heap.size, 0, none⟩))) (w.alloc (.cells u.cells t)) := by
  have hk := Keeps.alloc w (.cells u.cells t)
  have hev : Ev E w (fun b => E b ∨ b = w.heap.size) (w.alloc (.cells u.cells t)) := ⟨hk.of_noX, fun b hb => ⟨fun h => h.elim id (fun e => absurd hb (by omega)), .inl⟩⟩
  refine ⟨fun b => E b ∨ b = w.heap.size, hs.put (dst := some d) (T := .is (.pointer (some ⟨w.heap.size, 0, none⟩))) hev ?_ rfl (fun d' e => by injection e with e; omega) ?_ ?_ (hs.keeps.step hk fun _ => False.elim) ?_⟩
  · rintro b (hb | rfl)
    · rw [size_alloc]; have := hs.wf b hb; omega
    · rw [size_alloc]; omega
  · intro o ho
    rcases List.mem_cons.1 ho with rfl | ho
    · exact ⟨.inr rfl, u, heap_alloc_at w _, Ty.mono hev hT⟩
    · exact Own.keep0 (hs.l o ho) hev hk
  · rw [List.map_cons, List.nodup_cons]
    refine ⟨fun h => ?_, hs.ld⟩
    obtain ⟨m, hm, e⟩ := List.mem_map.1 h
    have h1 := hs.wf m.b (hs.l m hm).1
    have e' : m.b = w.heap.size := e
    omega
  · intro o ho
    rcases List.mem_cons.1 ho with rfl | ho
    · exact .inr hs.keeps.size
    · exact hs.may o ho
theorem JO.box {ops : Array Oper} {rest : List Oper} {d : Nat} {t ty : TypeId} {pos : String} {after : Array Edge} {x : Operand} {T : Ty} (hx : opTy K x = some T) (hd : Nat.blt d c.n = true)
    (hn : ∀ b, JO P c ((d, .is (.pointer (some ⟨b, 0, none⟩))) :: K) (⟨b, t, T⟩ :: L) Φ ops rest Q) : JO P c K L Φ ops (⟨some d, .box t x, ty, pos, after, none⟩ :: rest) Q := by
  refine ⟨?_⟩
  intro E a w hs
  refine wpList_plain rfl fun K' hK => ?_
  obtain ⟨E', h⟩ := hs.new (t := t) (Nat.le_of_ble_eq_true hd) (opTy_eval hs hx)
  exact hK _ _ ((hn _).out E' _ _ h)
def zeroOf (P : Program) (t : TypeId) : Option Value := (P.info? t).bind (·.zero)
theorem JO.alloc {ops : Array Oper} {rest : List Oper} {d : Nat} {t ty : TypeId} {pos : String} {after : Array Edge} {z : Value} (hz : zeroOf P t = some z) (hd : Nat.blt d c.n = true)
    (hn : ∀ b, JO P c ((d, .is (.pointer (some ⟨b, 0, none⟩))) :: K) (⟨b, t, .is z⟩ :: L) Φ ops rest Q) : JO P c K L Φ ops (⟨some d, .alloc t, ty, pos, after, none⟩ :: rest) Q := by
  refine ⟨?_⟩
  intro E a w hs
  refine wpList_plain rfl fun K' hK => ?_
  obtain ⟨E', h⟩ := hs.new (t := t) (T := .is z) (u := z) (Nat.le_of_ble_eq_true hd) rfl
  unfold Oper.wp
  unfold zeroOf at hz
  rcases alloc_run (P := P) ⟨some d, .alloc t, ty, pos, after, none⟩ a.eval w t rfl with ⟨i, z', hi, hz', hrun⟩ | ⟨h0, _⟩
  · rw [hi, Option.bind_some, hz'] at hz
    injection hz with hz
    subst hz
    rw [hrun]
    exact hK _ _ ((hn _).out E' _ _ h)
  · unfold zcells at h0
    cases hi : P.info? t with
    | none => rw [hi] at hz; cases hz
    | some i => rw [hi, Option.bind_some] at hz h0; rw [hz] at h0; cases h0
end
end Go.Vc
