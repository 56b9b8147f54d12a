/- The rule for a region, whatever order it is run in: the steps that write, and the whole. No condition. -/
import Derived.Test.YtjlojkchgfeenaaXVc4
namespace Go.Vc
open Go
section
variable {P : Program} {ops : Array Oper} {c : Ctx} {K : List (Nat × Ty)} {Lm Lk : List Own} {Φ : List (World → Prop)} {T : Nat → Ty} {Mf : Nat → List Own} {Sf : Nat → Sd} {B1 : Nat} {D : Array Bool} {E : Nat → Prop} {a : Act} {w : World}
theorem RI.loud (hI : RI P ops c K Lm Lk Φ T Mf Sf B1 D E a w) (hs : D.size = ops.size) (hb : backOK ops = true) (ho : ordOK ops = true) {i : Nat} {o : Oper} (hi : ops[i]? = some o) (hd : D.getD i false = false) (hr : readyAt ops D i)
    (hst : ∀ i o, ops[i]? = some o → isLoud o = false → Mf (i + 1) = Mf i ∧ Sf (i + 1) = Sf i) (hl : isLoud o = true) (hn : ∀ d, o.dst = some d → d < c.n)
    {Y : Nat → Prop} {v : Value} {w' : World} (hk : Keeps Y w w') (hYE : ∀ b, Y b → E b) (hYL : ∀ m ∈ Lk, ¬ Y m.b) (hYc : ∀ b, Y b → c.X0 b ∨ c.W0.heap.size ≤ b) (hT : (T i).p E v w')
    (hM : ∀ m ∈ Mf (i + 1), m.at E w') (hS : ∀ x ∈ Sf (i + 1), SdAt ops (D.setIfInBounds i true) B1 E (a.put o.dst v) w' x) :
    RI P ops c K Lm Lk Φ T Mf Sf B1 (D.setIfInBounds i true) E (a.put o.dst v) w' := by
  have hev : Ev E w E w' := Ev.of_keeps (hk.mono fun b _ => hYE b)
  have hna : ∀ t, o.op ≠ .alloc t := fun t e => by simp [isLoud, e] at hl
  have hi' : i < ops.size := (Array.getElem?_eq_some_iff.1 hi).1
  have hgs : ∀ j, (D.setIfInBounds i true).getD j false = true ↔ j = i ∨ D.getD j false = true := fun j => get_set (by omega)
  have hdst : ∀ j oj d, ops[j]? = some oj → D.getD j false = true → oj.dst = some d → o.dst ≠ some d := by
    intro j oj d hj hdone hdj
    have hne : i ≠ j := fun e => by subst e; rw [hdone] at hd; cases hd
    intro e
    exact ((ordOK_at ho hi hj hne).1 d e).1 hdj
  refine ⟨by rw [size_put]; exact hI.n, by rw [defers_put]; exact hI.d, fun b he => Nat.lt_of_lt_of_le (hI.wf b he) hk.size, ?_, ?_, ?_, fun m hm => Own.keep (hI.l m hm) hev (hk.blk _ (lt_of_get (hI.l m hm).2.choose_spec.1) (hYL m hm)), fun F hF => (hI.f F hF).ev hev, ?_, ?_, ?_, hI.x, hI.keeps.step hk hYc, Nat.le_trans hI.hB hk.size⟩
  · intro j hj
    rcases (hgs j).1 hj with rfl | hj
    · exact fun o' ho' e he hbe => (hgs e.on).2 (.inr (hr o' ho' e he hbe))
    · exact fun o' ho' e he hbe => (hgs e.on).2 (.inr (hI.cl j hj o' ho' e he hbe))
  · intro s T' hs hno
    rw [slot_put_ne _ _ _ _ (hno i o hi ((hgs i).2 (.inl rfl)))]
    exact Ty.mono hev (hI.k s T' hs fun j oj hj hdone => hno j oj hj ((hgs j).2 (.inr hdone)))
  · intro j oj d hj hdone hdj
    rcases (hgs j).1 hdone with rfl | hdone
    · rw [hi] at hj
      injection hj with hj
      subst hj
      rw [hdj, slot_put_eq _ _ _ (by rw [hI.n]; exact hn d hdj)]
      exact hT
    · rw [slot_put_ne _ _ _ _ (hdst j oj d hj hdone hdj)]
      exact Ty.mono hev (hI.t j oj d hj hdone hdj)
  · intro i' hi'n hcond
    have hii : i < i' := (hcond i o hi hl).1 ((hgs i).2 (.inl rfl))
    obtain ⟨n, rfl⟩ : ∃ n, i' = i + 1 + n := ⟨i' - (i + 1), by omega⟩
    obtain ⟨h1, h2⟩ := same_to (Mf := Mf) (Sf := Sf) hst n (i + 1) hi'n (fun j oj hj hlj hjj => by
      have hjd := (hcond j oj hj hlj).2 (by omega)
      rcases (hgs j).1 hjd with rfl | hjd
      · omega
      · have := (loud_before hI hb ho hi hd hr hl j oj hj hlj).1 hjd
        omega)
    rw [h1, h2]
    exact ⟨hM, hS⟩
  · intro j oj d t hj hop hdone hdj
    rcases (hgs j).1 hdone with rfl | hdone
    · rw [hi] at hj
      injection hj with hj
      subst hj
      exact absurd hop (hna t)
    · rw [slot_put_ne _ _ _ _ (hdst j oj d hj hdone hdj)]
      obtain ⟨b, h1, h2, h3⟩ := hI.fr j oj d t hj hop hdone hdj
      exact ⟨b, h1, h2, Nat.lt_of_lt_of_le h3 hk.size⟩
  · intro j1 j2 o1 o2 d1 d2 t1 t2 hne h1 h2 p1 p2 g1 g2 f1 f2
    rcases (hgs j1).1 g1 with rfl | e1
    · rw [hi] at h1
      injection h1 with h1
      subst h1
      exact absurd p1 (hna t1)
    · rcases (hgs j2).1 g2 with rfl | e2
      · rw [hi] at h2
        injection h2 with h2
        subst h2
        exact absurd p2 (hna t2)
      · rw [slot_put_ne _ _ _ _ (hdst j1 o1 d1 h1 e1 f1), slot_put_ne _ _ _ _ (hdst j2 o2 d2 h2 e2 f2)]
        exact hI.fd j1 j2 o1 o2 d1 d2 t1 t2 hne h1 h2 p1 p2 e1 e2 f1 f2
structure Stat0 (ops : Array Oper) (c : Ctx) (Lm Lk : List Own) (Mf : Nat → List Own) (Sf : Nat → Sd) (B1 : Nat) : Prop where
  hMb : ∀ i, i ≤ ops.size → (Mf i).map (·.b) = Lm.map (·.b)
  hSn : ∀ i, i ≤ ops.size → ((Sf i).map (·.1)).Nodup
  nd : ((Lm ++ Lk).map (·.b)).Nodup
  lt : ∀ m ∈ Lm ++ Lk, m.b < B1
  may : ∀ m ∈ Lm ++ Lk, c.X0 m.b ∨ c.W0.heap.size ≤ m.b
  hn : ∀ (i : Nat) (o : Oper) (d : Nat), ops[i]? = some o → o.dst = some d → d < c.n
  hW : c.W0.heap.size ≤ B1
structure Stat (P : Program) (ops : Array Oper) (c : Ctx) (K : List (Nat × Ty)) (Lm Lk : List Own) (Φ : List (World → Prop)) (T : Nat → Ty) (Mf : Nat → List Own) (Sf : Nat → Sd) (B1 : Nat) : Prop extends Stat0 ops c Lm Lk Mf Sf B1 where
  hst : ∀ i o, ops[i]? = some o → ∃ kd, St1 P ops Lk Φ i o (kAt ops.toList T K i) (Mf i) (Sf i) (T i) (Mf (i + 1)) (Sf (i + 1)) kd
theorem RI.step1 (hm : Stat0 ops c Lm Lk Mf Sf B1) (hquiet : ∀ i o, ops[i]? = some o → isLoud o = false → Mf (i + 1) = Mf i ∧ Sf (i + 1) = Sf i) (hb : backOK ops = true) (ho : ordOK ops = true) (hI : RI P ops c K Lm Lk Φ T Mf Sf B1 D E a w) (hs : D.size = ops.size) {Q : Exit → Act → World → Prop} {i : Nat} {o : Oper} (hi : ops[i]? = some o)
    (hd' : D.getD i true = false) (hr : readyAt ops D i) (hsti : ∃ kd, St1 P ops Lk Φ i o (kAt ops.toList T K i) (Mf i) (Sf i) (T i) (Mf (i + 1)) (Sf (i + 1)) kd) : wpOp P ops Q i (fun a w => ∃ E, RI P ops c K Lm Lk Φ T Mf Sf B1 (D.setIfInBounds i true) E a w) a w := by
  have hi' : i < ops.size := (Array.getElem?_eq_some_iff.1 hi).1
  have hd : D.getD i false = false := by
    have hlt : i < D.size := by omega
    simp only [Array.getD_eq_getD_getElem?, Array.getElem?_eq_getElem hlt, Option.getD_some] at hd' ⊢
    exact hd'
  have hpre := hI.pre hb ho hi hd hr
  have hnn : ∀ d, o.dst = some d → d < c.n := fun d h => hm.hn i o d hi h
  obtain ⟨kd, hst⟩ := hsti
  unfold wpOp
  simp only [hi]
  have want : o.guard = none → Region.wanted o (yielded ops a.tmps) = true := fun hg => by simp [Region.wanted, hg]
  generalize hMM : Mf (i + 1) = M1 at hst
  generalize hSS : Sf (i + 1) = S1 at hst
  generalize hTT : T i = T1 at hst
  cases hst with
  | typed hg h =>
    rw [if_pos (want hg)]
    refine .inl ?_
    unfold Oper.wp
    by_cases hal : ∃ t, o.op = .alloc t
    · obtain ⟨t, hal⟩ := hal
      have h1 := h E w a.eval hpre
      rcases alloc_run (P := P) o a.eval w t hal with ⟨ti, z, hti, hz1, hrun⟩ | ⟨_, hh, w', hrun⟩
      · rw [hrun] at h1 ⊢
        obtain ⟨hk, hT⟩ := h1
        exact ⟨E, hI.quiet hs hb ho hi hd hr hquiet ⟨hMM, hSS⟩ hnn hk (Ev.of_keeps hk.of_noX) (fun b he => Nat.lt_of_lt_of_le (hI.wf b he) hk.size) (by rw [hTT]; exact hT) fun _ _ => ⟨rfl, by rw [size_alloc]; omega⟩⟩
      · rw [hrun] at h1
        exact h1.elim
    · exact Runs.upon (h E w a.eval hpre) fun v w' ⟨hk, hT⟩ => ⟨E, hI.quiet hs hb ho hi hd hr hquiet ⟨hMM, hSS⟩ hnn hk (Ev.of_keeps hk.of_noX) (fun b he => Nat.lt_of_lt_of_le (hI.wf b he) hk.size) (by rw [hTT]; exact hT) fun t ht => absurd ⟨t, ht⟩ hal⟩
  | gated π g b d hg hgd hk hna h =>
    have hgt := slotTy hI hb ho hi hd hr d
    have dec : (π ∧ Region.wanted o (yielded ops a.tmps) = true) ∨ (¬ π ∧ Region.wanted o (yielded ops a.tmps) = false) := by
      rcases hk with ⟨c', hk, rfl⟩ | ⟨π₀, c', hk, rfl⟩
      · have hv : slotOf a d = .bool c' := hgt _ (guard_looksAt hg hgd) hk
        rw [wanted_of hg hgd hv]
        cases c' <;> cases b <;> simp
      · have hv := hgt _ (guard_looksAt hg hgd) hk
        by_cases h0 : π₀
        · rw [wanted_of hg hgd (hv.1 h0)]
          cases c' <;> cases b <;> simp [h0]
        · exact .inr ⟨fun h => h0 h.1, unwanted_of hg hgd (hv.2 h0) (fun e => by cases e)⟩
    rcases dec with ⟨hπ, hw⟩ | ⟨hπ, hw⟩
    · rw [if_pos hw]
      refine .inl ?_
      unfold Oper.wp
      exact Runs.upon (h hπ E w a.eval (hI.preG hb ho hi hd hr hπ)) fun v w' ⟨hk, hT⟩ => ⟨E, hI.quiet hs hb ho hi hd hr hquiet ⟨hMM, hSS⟩ hnn hk (Ev.of_keeps hk.of_noX) (fun b he => Nat.lt_of_lt_of_le (hI.wf b he) hk.size) (by rw [hTT]; exact ⟨fun _ => hT, fun hn => absurd hπ hn⟩) fun t ht => by simp [isAlloc, ht] at hna⟩
    · rw [if_neg (by rw [hw]; simp)]
      exact ⟨E, hI.quiet hs hb ho hi hd hr hquiet ⟨hMM, hSS⟩ hnn (.refl _ _) (.refl _ _) hI.wf (by rw [hTT]; exact ⟨fun h => absurd h hπ, fun _ => rfl⟩) fun t ht => by simp [isAlloc, ht] at hna⟩
  | new t n d hdd hg hop hz =>
    rw [if_pos (want hg)]
    refine .inl ?_
    unfold Oper.wp
    have hz' := hz
    unfold zcells at hz'
    rcases alloc_run (P := P) o a.eval w t hop with ⟨ti, z, hti, hz1, hrun⟩ | ⟨hz0, hh, w', hrun⟩
    · rw [hti, Option.bind_some, hz1, Option.map_some, Option.some.injEq] at hz'
      rw [hrun]
      show ∃ E, _
      have hk := Keeps.alloc w (.cells z.cells t)
      have hev : Ev E w (fun b => E b ∨ b = w.heap.size) (w.alloc (.cells z.cells t)) := ⟨hk.of_noX, fun b hb => ⟨fun h => h.elim id (fun e => absurd hb (by omega)), .inl⟩⟩
      refine ⟨_, hI.quiet hs hb ho hi hd hr hquiet ⟨hMM, hSS⟩ hnn hk hev ?_ (by rw [hTT]; exact ⟨w.heap.size, rfl, .inr rfl, z.cells, heap_alloc_at w _, hz'⟩) fun _ _ => ⟨rfl, by rw [size_alloc]; omega⟩⟩
      rintro b (he | rfl)
      · rw [size_alloc]; have := hI.wf b he; omega
      · rw [size_alloc]; omega
    · rw [hz0] at hz
      cases hz
  | sto s ety ty n x hg hdst g hgi hal hop hks hx hT hty hn =>
    rw [if_pos (want hg)]
    refine .inl ?_
    unfold Oper.wp
    have hl : isLoud o = true := by simp [isLoud, hop]
    obtain ⟨og, t, hog, hogd, hogt⟩ := hal
    have hgdone : D.getD g false = true := by
      have hord := ((ordOK_at ho hog hi (by omega)).1 s hogd).2 (mem_looksAt (by simp [hop, Op.operands]))
      rw [if_pos hgi] at hord
      exact before_done hb hI.cl i g hr hord
    obtain ⟨b, hsl, hB, hbw⟩ := hI.fr g og s t hog hogt hgdone hogd
    obtain ⟨b', hsl', hbE, cs, hcs, hcn⟩ := slotTy hI hb ho hi hd hr s _ (mem_looksAt (by simp [hop, Op.operands])) hks
    obtain rfl : b = b' := by rw [hsl] at hsl'; injection hsl' with h1; injection h1 with h1; injection h1
    have hTx := hpre.x x _ (by simp [hop, Op.operands]) hx
    obtain ⟨hv1, hv2⟩ := hT E _ w hTx
    have hrun : (execOp a.eval o).run P w = .ok .skip (w.setRow b (a.eval x).cells) := by
      simp only [execOp, hop]
      rw [show a.eval (.tmp s) = .pointer (some ⟨b, 0, none⟩) from hsl]
      have := run_store_whole (P := P) w ty b (a.eval x) cs ety hcs (by rw [hty, hcn]) (by rw [hv1, hcn]) hv2
      simp [this]
    rw [hrun]
    have hk := Keeps.setRow w b (a.eval x).cells cs ety hcs (by rw [hv1, hcn])
    have hev : Ev E w E (w.setRow b (a.eval x).cells) := Ev.of_keeps (hk.mono fun q _ e => by rw [e]; exact hbE)
    have hgs : ∀ j, (D.setIfInBounds i true).getD j false = true ↔ j = i ∨ D.getD j false = true := fun j => get_set (by omega)
    obtain ⟨m1, m2⟩ := hI.m i (by omega) (loud_before hI hb ho hi hd hr hl)
    have hlt : ∀ m ∈ Mf i, m.b < B1 := fun m hmm => by
      have : m.b ∈ (Mf i).map (·.b) := List.mem_map_of_mem hmm
      rw [hm.hMb i (by omega)] at this
      obtain ⟨m0, h0, e0⟩ := List.mem_map.1 this
      have := hm.lt m0 (List.mem_append_left _ h0)
      omega
    refine ⟨E, hI.loud hs hb ho hi hd hr hquiet hl hnn hk (fun q e => by rw [e]; exact hbE) (fun m hmm e => ?_) (fun q e => .inr (by rw [e]; have := hm.hW; omega)) (by rw [hTT]; trivial) ?_ ?_⟩
    · have := hm.lt m (List.mem_append_right _ hmm)
      omega
    · rw [hMM]
      intro m hmm
      refine Own.keep (m1 m hmm) hev (heap_setRow_ne w b _ ?_)
      have := hlt m hmm
      omega
    · rw [hSS]
      intro y hy
      rw [hdst]
      rcases List.mem_cons.1 hy with rfl | hy
      · exact ⟨⟨g, og, t, hog, hogd, hogt, (hgs g).2 (.inr hgdone)⟩, b, hsl, hbE, hB, a.eval x, heap_setRow w b _ _ _ _ hcs, Ty.mono hev hTx⟩
      · obtain ⟨⟨g', og', t', hg', hgd', hgo', hgD'⟩, b', hsy, he', hB', u, hu, hTu⟩ := m2 y hy
        have hsne : y.1 ≠ s := fun e => hn (by rw [← e]; exact List.mem_map_of_mem hy)
        have hgne : g' ≠ g := fun e => by subst e; rw [hog] at hg'; injection hg' with hg'; subst hg'; rw [hogd] at hgd'; injection hgd' with hgd'; exact hsne hgd'.symm
        have hbne : b' ≠ b := fun e => by
          subst e
          exact hI.fd g' g og' og y.1 s t' t hgne hg' hog hgo' hogt hgD' hgdone hgd' hogd (hsy.trans hsl.symm)
        exact ⟨⟨g', og', t', hg', hgd', hgo', (hgs g').2 (.inr hgD')⟩, b', hsy, he', hB', u, (heap_setRow_ne w b _ hbne).trans hu, Ty.mono hev hTu⟩
  | chg hg hl hmb h =>
    rw [if_pos (want hg)]
    refine .inl ?_
    unfold Oper.wp
    obtain ⟨m1, m2⟩ := hI.m i (by omega) (loud_before hI hb ho hi hd hr hl)
    have hMi := hm.hMb i (by omega)
    have hnd : ((Mf i).map (·.b)).Nodup := by
      rw [hMi]
      have := hm.nd
      rw [List.map_append] at this
      exact (List.nodup_append.1 this).1
    have hlt : ∀ q, q ∈ (Mf i).map (·.b) → q < B1 := fun q hq => by
      rw [hMi] at hq
      obtain ⟨m0, h0, e0⟩ := List.mem_map.1 hq
      have := hm.lt m0 (List.mem_append_left _ h0)
      omega
    refine Runs.upon (h E w a.eval hpre m1 hnd) fun v w' ⟨hk, hTv, hM'⟩ => ?_
    have hYE : ∀ q, q ∈ (Mf i).map (·.b) → E q := fun q hq => by
      obtain ⟨m0, h0, rfl⟩ := List.mem_map.1 hq
      exact (m1 m0 h0).1
    have hev : Ev E w E w' := Ev.of_keeps (hk.mono fun q _ => hYE q)
    have hgs : ∀ j, (D.setIfInBounds i true).getD j false = true ↔ j = i ∨ D.getD j false = true := fun j => get_set (by omega)
    refine ⟨E, hI.loud hs hb ho hi hd hr hquiet hl hnn hk hYE (fun m hmm hq => ?_) (fun q hq => ?_) (by rw [hTT]; exact hTv) (by rw [hMM]; exact hM') ?_⟩
    · rw [hMi] at hq
      have := hm.nd
      rw [List.map_append] at this
      exact (List.nodup_append.1 this).2.2 _ hq _ (List.mem_map_of_mem hmm) rfl
    · rw [hMi] at hq
      obtain ⟨m0, h0, rfl⟩ := List.mem_map.1 hq
      exact hm.may m0 (List.mem_append_left _ h0)
    · rw [hSS]
      intro y hy
      obtain ⟨⟨g', og', t', hg', hgd', hgo', hgD'⟩, b', hsl', he', hB', u, hu, hTu⟩ := m2 y hy
      have hdst : o.dst ≠ some y.1 := by
        intro e
        have hne : i ≠ g' := fun e' => by subst e'; rw [hgD'] at hd; cases hd
        exact ((ordOK_at ho hi hg' hne).1 y.1 e).1 hgd'
      refine ⟨⟨g', og', t', hg', hgd', hgo', (hgs g').2 (.inr hgD')⟩, b', by rw [slot_put_ne _ _ _ _ hdst]; exact hsl', he', hB', u, hk.get hu (fun hq => ?_), Ty.mono hev hTu⟩
      have := hlt b' hq
      omega
theorem RI.step (hm : Stat P ops c K Lm Lk Φ T Mf Sf B1) (hb : backOK ops = true) (ho : ordOK ops = true) (hI : RI P ops c K Lm Lk Φ T Mf Sf B1 D E a w) (hs : D.size = ops.size) {Q : Exit → Act → World → Prop} {i : Nat} {o : Oper} (hi : ops[i]? = some o)
    (hd' : D.getD i true = false) (hr : readyAt ops D i) : wpOp P ops Q i (fun a w => ∃ E, RI P ops c K Lm Lk Φ T Mf Sf B1 (D.setIfInBounds i true) E a w) a w :=
  hI.step1 hm.toStat0 (fun i o hi hl => by
    obtain ⟨kd, h⟩ := hm.hst i o hi
    exact loudless h hl) hb ho hs hi hd' hr (hm.hst i o hi)
theorem SA.drew {L : List Own} (h : SA c K L Φ E a w) : SA c K L Φ E a w.drew :=
  ⟨h.n, h.d, h.wf, fun s T hs => Ty.mono (Ev.of_keeps (Keeps.drew w).of_noX) (h.k s T hs), fun o ho => Own.keep0 (h.l o ho) (Ev.of_keeps (Keeps.drew w).of_noX) (Keeps.drew w), h.ld, fun F hF => (h.f F hF).keep (Keeps.drew w).of_noX, h.x, h.xs, h.keeps.step (Keeps.drew w) (fun _ => False.elim), h.may⟩
theorem FinS.use {Q : Exit → Act → World → Prop} : ∀ (S : Sd) (K : List (Nat × Ty)) (M : List Own), FinS P c Lk Φ Q K M S → SA c K (M ++ Lk) Φ E a w → (S.map (·.1)).Nodup →
    (∀ x ∈ S, ∃ b, slotOf a x.1 = .pointer (some ⟨b, 0, none⟩) ∧ E b ∧ c.W0.heap.size ≤ b ∧ (∀ m ∈ M ++ Lk, m.b ≠ b) ∧ ∃ v : Value, w.heap[b]? = some (.cells v.cells x.2.1 (0, 0)) ∧ x.2.2.p E v w) →
    (∀ x ∈ S, ∀ y ∈ S, x.1 ≠ y.1 → slotOf a x.1 ≠ slotOf a y.1) → Q .normal a w
  | [], K, M, h, hs, _, _, _ => h E a w hs
  | (s, ety, T) :: S, K, M, h, hs, hnd, hx, hd => by
    obtain ⟨b, hsl, hE, hW, hne, v, hv, hT⟩ := hx (s, ety, T) List.mem_cons_self
    rw [List.map_cons, List.nodup_cons] at hnd
    refine FinS.use S _ _ (h b) ?_ hnd.2 ?_ ?_
    · refine ⟨hs.n, hs.d, hs.wf, ?_, ?_, ?_, hs.f, hs.x, hs.xs, hs.keeps, ?_⟩
      · intro s' T' hl
        simp only [look] at hl
        cases hq : Nat.beq s s' with
        | true =>
          rw [hq, cond_true] at hl
          injection hl with hl
          subst hl
          have := Nat.eq_of_beq_eq_true hq
          subst this
          exact hsl
        | false => rw [hq, cond_false] at hl; exact hs.k s' T' hl
      · intro o ho
        rcases List.mem_cons.1 ho with rfl | ho
        · exact ⟨hE, v, hv, hT⟩
        · exact hs.l o ho
      · rw [List.cons_append, List.map_cons, List.nodup_cons]
        refine ⟨fun hm => ?_, hs.ld⟩
        obtain ⟨m, hm, e⟩ := List.mem_map.1 hm
        exact hne m hm e
      · intro o ho
        rcases List.mem_cons.1 ho with rfl | ho
        · exact .inr hW
        · exact hs.may o ho
    · intro x hxm
      obtain ⟨b', hsl', hE', hW', hne', rest⟩ := hx x (List.mem_cons_of_mem _ hxm)
      refine ⟨b', hsl', hE', hW', fun m hm => ?_, rest⟩
      rcases List.mem_cons.1 hm with rfl | hm
      · intro e
        subst e
        refine hd (s, ety, T) List.mem_cons_self x (List.mem_cons_of_mem _ hxm) (fun e' => hnd.1 ?_) (hsl.trans hsl'.symm)
        exact List.mem_map.2 ⟨x, hxm, e'.symm⟩
      · exact hne' m hm
    · exact fun x hxm y hym => hd x (List.mem_cons_of_mem _ hxm) y (List.mem_cons_of_mem _ hym)
theorem stat_of {n : Nat} (hst : ∀ i o, ops[i]? = some o → ∃ kd, St1 P ops Lk Φ i o (kAt ops.toList T K i) (Mf i) (Sf i) (T i) (Mf (i + 1)) (Sf (i + 1)) kd) (h0 : Mf 0 = Lm) (h1 : Sf 0 = []) :
    n ≤ ops.size → (Mf n).map (·.b) = Lm.map (·.b) ∧ ((Sf n).map (·.1)).Nodup := by
  induction n with
  | zero => intro _; rw [h0, h1]; exact ⟨rfl, List.nodup_nil⟩
  | succ n ih =>
    intro hn
    obtain ⟨i1, i2⟩ := ih (by omega)
    obtain ⟨kd, h⟩ := hst n _ (Array.getElem?_eq_getElem (by omega))
    generalize Mf (n + 1) = M1 at h ⊢
    generalize Sf (n + 1) = S1 at h ⊢
    generalize T n = T1 at h
    cases h with
    | typed hg h => exact ⟨i1, i2⟩
    | gated => exact ⟨i1, i2⟩
    | new => exact ⟨i1, i2⟩
    | sto s ety ty n x hg hdst g hgi hal hop hks hx hT hty hnS => exact ⟨i1, by rw [List.map_cons, List.nodup_cons]; exact ⟨hnS, i2⟩⟩
    | chg hg hl hmb h => exact ⟨hmb.trans i1, i2⟩
theorem region_inv {Q : Exit → Act → World → Prop} (hok : regOK ops = true) (hdn : (ops.all fun o => match o.dst with | some d => decide (d < c.n) | none => true) = true)
    (h : RT P ops Lk Φ 0 ops.toList K Lm [] (FinS P c Lk Φ Q)) {E : Nat → Prop} {a : Act} {w : World} (hsa : SA c K (Lm ++ Lk) Φ E a w) :
    ∃ I : Array Bool → Act → World → Prop, (∀ w', (w' = w ∨ w' = w.drew) → I (Array.replicate ops.size false) a w') ∧
      (∀ D a w i o, D.size = ops.size → I D a w → ops[i]? = some o → D.getD i true = false → readyAt ops D i → wpOp P ops Q i (I (D.setIfInBounds i true)) a w) ∧
      (∀ D a w, D.size = ops.size → (∀ i, i < ops.size → D.getD i false = true) → I D a w → Q .normal a w) := by
  unfold regOK at hok
  rw [Bool.and_eq_true] at hok
  obtain ⟨hb, ho⟩ := hok
  obtain ⟨T, Mf, Sf, kf, hM0, hS0, hst, hfin⟩ := h.out
  have hst' : ∀ i o, ops[i]? = some o → ∃ kd, St1 P ops Lk Φ i o (kAt ops.toList T K i) (Mf i) (Sf i) (T i) (Mf (i + 1)) (Sf (i + 1)) kd := fun i o hi => ⟨kf i, by
    have := hst i o (by simpa using hi)
    rwa [Nat.zero_add] at this⟩
  have hS : Stat P ops c K Lm Lk Φ T Mf Sf w.heap.size := by
    refine ⟨⟨fun i hi => (stat_of hst' hM0 hS0 hi).1, fun i hi => (stat_of hst' hM0 hS0 hi).2, hsa.ld, fun m hm => lt_of_get (hsa.l m hm).2.choose_spec.1, hsa.may, ?_, hsa.keeps.size⟩, hst'⟩
    intro i o d hi hd
    have := Array.all_eq_true_iff_forall_mem.1 hdn o (Array.mem_of_getElem? hi)
    rw [hd] at this
    simpa using this
  refine ⟨fun D a w' => ∃ E, RI P ops c K Lm Lk Φ T Mf Sf w.heap.size D E a w', ?_, ?_, ?_⟩
  · intro w' hw'
    have hs' : SA c K (Lm ++ Lk) Φ E a w' := by
      rcases hw' with rfl | rfl
      · exact hsa
      · exact hsa.drew
    have hno : ∀ j, ¬ (Array.replicate ops.size false).getD j false = true := by
      intro j
      rw [Array.getD_eq_getD_getElem?, Array.getElem?_replicate]
      split <;> simp
    refine ⟨E, hs'.n, hs'.d, hs'.wf, fun j hj => absurd hj (hno j), fun s T' hs _ => hs'.k s T' hs, fun j o d _ hj => absurd hj (hno j), fun m hm => hs'.l m (List.mem_append_right _ hm), hs'.f, ?_, fun j o d t _ _ hj => absurd hj (hno j), fun j1 _ _ _ _ _ _ _ _ _ _ _ _ hj => absurd hj (hno j1), hs'.x, hs'.keeps, ?_⟩
    · intro i hi hc
      have hc' : ∀ j o, ops[j]? = some o → isLoud o = true → ¬ (0 ≤ j ∧ j < 0 + i) := fun j o hj hl hji => hno j ((hc j o hj hl).2 (by omega))
      obtain ⟨e1, e2⟩ := same_to (Mf := Mf) (Sf := Sf) (fun i o hi hl => by obtain ⟨kd, h⟩ := hst' i o hi; exact loudless h hl) i 0 (by omega) hc'
      rw [Nat.zero_add] at e1 e2
      rw [e1, e2, hM0, hS0]
      exact ⟨fun m hm => hs'.l m (List.mem_append_left _ hm), fun x hx => by cases hx⟩
    · rcases hw' with rfl | rfl <;> exact Nat.le_refl _
  · rintro D a' w' i o hs ⟨E', hI⟩ hi hd hr
    exact hI.step hS hb ho hs hi hd hr
  · rintro D a' w' hs hall ⟨E', hI⟩
    have hcond : ∀ j o, ops[j]? = some o → isLoud o = true → (D.getD j false = true ↔ j < ops.size) := fun j o hj _ => ⟨fun _ => (Array.getElem?_eq_some_iff.1 hj).1, fun h => hall j h⟩
    obtain ⟨m1, m2⟩ := hI.m ops.size (Nat.le_refl _) hcond
    have hlen : ops.toList.length = ops.size := by simp
    rw [hlen] at hfin
    have hMb := hS.hMb ops.size (Nat.le_refl _)
    have hmb : ∀ m ∈ Mf ops.size ++ Lk, ∃ m' ∈ Lm ++ Lk, m'.b = m.b := by
      intro m hm
      rcases List.mem_append.1 hm with hm | hm
      · have : m.b ∈ (Mf ops.size).map (·.b) := List.mem_map_of_mem hm
        rw [hMb] at this
        obtain ⟨m0, h0, e0⟩ := List.mem_map.1 this
        exact ⟨m0, List.mem_append_left _ h0, e0⟩
      · exact ⟨m, List.mem_append_right _ hm, rfl⟩
    refine FinS.use (Sf ops.size) _ _ hfin (E := E') (a := a') (w := w') ?_ (hS.hSn _ (Nat.le_refl _)) ?_ ?_
    · refine ⟨hI.n, hI.d, hI.wf, ?_, ?_, ?_, hI.f, hI.x, hsa.xs, hI.keeps, ?_⟩
      · intro s T' hl
        have key : ∀ n, n ≤ ops.size → ∀ T', look (kAt ops.toList T K n) s = some T' → (∃ j oj, j < n ∧ ops[j]? = some oj ∧ oj.dst = some s ∧ T' = T j) ∨ ((∀ j oj, j < n → ops[j]? = some oj → oj.dst ≠ some s) ∧ look K s = some T') := kAt_look s
        rcases key _ (Nat.le_refl _) T' hl with ⟨j, oj, hj, hoj, hdj, rfl⟩ | ⟨hn, hk⟩
        · exact hI.t j oj s hoj (hall j hj) hdj
        · exact hI.k s T' hk fun j oj hoj _ => hn j oj (Array.getElem?_eq_some_iff.1 hoj).1 hoj
      · intro m hm
        rcases List.mem_append.1 hm with hm | hm
        · exact m1 m hm
        · exact hI.l m hm
      · rw [List.map_append, hMb, ← List.map_append]
        exact hsa.ld
      · intro m hm
        obtain ⟨m', hm', e⟩ := hmb m hm
        rw [← e]
        exact hsa.may m' hm'
    · intro x hx
      obtain ⟨_, b, h1, h2, h3, h4⟩ := m2 x hx
      refine ⟨b, h1, h2, Nat.le_trans hsa.keeps.size h3, fun m hm e => ?_, h4⟩
      obtain ⟨m', hm', e'⟩ := hmb m hm
      have := hS.lt m' hm'
      omega
    · intro x hx y hy hne
      obtain ⟨⟨g1, o1, t1, a1, a2, a3, a4⟩, _⟩ := m2 x hx
      obtain ⟨⟨g2, o2, t2, b1, b2, b3, b4⟩, _⟩ := m2 y hy
      refine hI.fd g1 g2 o1 o2 _ _ t1 t2 (fun e => hne ?_) a1 b1 a3 b3 a4 b4 a2 b2
      subst e
      rw [a1] at b1
      injection b1 with b1
      subst b1
      rw [a2] at b2
      injection b2
theorem J.region {id : Nat} {dr : Bool} {Q : Exit → Act → World → Prop} (hmx : P.follows .mixedOrders = true) (hok : regOK ops = true) (hdn : (ops.all fun o => match o.dst with | some d => decide (d < c.n) | none => true) = true)
    (h : RT P ops Lk Φ 0 ops.toList K Lm [] (FinS P c Lk Φ Q)) : J P c K (Lm ++ Lk) Φ (.region id ops dr) Q := by
  refine ⟨?_⟩
  intro E a w hsa
  obtain ⟨I, h0, h1, h2⟩ := region_inv hok hdn h hsa
  unfold regOK at hok
  rw [Bool.and_eq_true] at hok
  exact wp_region_inv hmx hok.1 I h0 h1 h2
end
end Go.Vc
