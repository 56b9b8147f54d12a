/- The program logic, part 7. No condition. -/
import Derived.Test.YtggmifnkgcladaaXG5
namespace Go.Vc
open Go
def Nrm (Q : Exit → Act → World → Prop) : Exit → Act → World → Prop := fun e a w => match e with | .normal => Q .normal a w | _ => False
def withEdge : List Oper → Nat → Nat → List Oper
  | [], _, _ => []
  | o :: l, 0, f => ⟨o.dst, o.op, o.type, o.pos, o.after.push ⟨f, .data⟩, o.guard⟩ :: l
  | o :: l, m + 1, f => o :: withEdge l m f
theorem withEdge_len : ∀ (l : List Oper) (m f : Nat), (withEdge l m f).length = l.length
  | [], _, _ => rfl
  | _ :: _, 0, _ => rfl
  | _ :: l, m + 1, f => by rw [withEdge, List.length_cons, withEdge_len l m f, List.length_cons]
structure AlikeO (f : Nat) (o' o : Oper) : Prop where
  dst : o'.dst = o.dst
  op : o'.op = o.op
  ty : o'.type = o.type
  pos : o'.pos = o.pos
  guard : o'.guard = o.guard
  after : ∀ e ∈ o'.after, Region.binds .any e = true → e ∈ o.after ∨ e.on = f
theorem withEdge_get : ∀ (l : List Oper) (m f i : Nat) (o : Oper), l[i]? = some o → ∃ o', (withEdge l m f)[i]? = some o' ∧ AlikeO f o' o
  | [], _, _, _, _, h => by simp at h
  | x :: l, 0, f, 0, o, h => by
    simp at h
    subst h
    refine ⟨_, rfl, rfl, rfl, rfl, rfl, rfl, fun e he _ => ?_⟩
    rcases Array.mem_push.1 he with h | h
    · exact .inl h
    · exact .inr (by rw [h])
  | x :: l, 0, f, i + 1, o, h => ⟨o, by simpa [withEdge] using h, rfl, rfl, rfl, rfl, rfl, fun e he _ => .inl he⟩
  | x :: l, m + 1, f, 0, o, h => by
    simp at h
    subst h
    exact ⟨x, rfl, rfl, rfl, rfl, rfl, rfl, fun e he _ => .inl he⟩
  | x :: l, m + 1, f, i + 1, o, h => by simpa [withEdge] using withEdge_get l m f i o (by simpa using h)
section
variable {P : Program} {Q : Exit → Act → World → Prop}
theorem Oper.upon_nrm {o : Oper} {a : Act} {K : Act → World → Prop} {r : Result Next} (h : o.upon P a K (Nrm Q) r) : o.upon P a K Q r := by
  cases r with
  | ok n w' =>
    cases n <;> simp only [Oper.upon] at h ⊢ <;>
      first
        | exact h
        | exact Calls.mono h (fun e w'' he => by
            cases e with
            | returned v => exact he
            | panicked ch => exact he.elim
            | outgrown => obtain ⟨_, _, hh⟩ := he; exact hh.elim)
  | halt x w' => cases x <;> simp only [Oper.upon] at h ⊢ <;> exact h.elim
theorem alike_upon {o o' : Oper} {f : Nat} (h : AlikeO f o' o) {a : Act} {w : World} {K : Act → World → Prop} {Q : Exit → Act → World → Prop} (hh : o'.wp P a w K Q) : o.wp P a w K Q := by
  obtain ⟨d, op, ty, pos, af, g⟩ := o
  obtain ⟨d', op', ty', pos', af', g'⟩ := o'
  obtain ⟨h1, h2, h3, h4, h5, h6⟩ := h
  simp only at h1 h2 h3 h4 h5
  subst h1 h2 h3 h4 h5
  exact hh
theorem alike_asks {o o' : Oper} {f : Nat} (h : AlikeO f o' o) {a : Act} {w : World} (hh : o'.asks P a w) : o.asks P a w := by
  obtain ⟨d, op, ty, pos, af, g⟩ := o
  obtain ⟨d', op', ty', pos', af', g'⟩ := o'
  obtain ⟨h1, h2, h3, h4, h5, h6⟩ := h
  simp only at h1 h2 h3 h4 h5
  subst h1 h2 h3 h4 h5
  exact hh
theorem alike_wpOp {ops ops' : Array Oper} {f i : Nat} {o o' : Oper} (hs : ∀ i : Nat, ((ops'[i]?).bind Oper.dst) = ((ops[i]?).bind Oper.dst)) (hi : ops[i]? = some o) (hi' : ops'[i]? = some o') (h : AlikeO f o' o) {K : Act → World → Prop} {Q : Exit → Act → World → Prop} {a : Act} {w : World} (hh : wpOp P ops' Q i K a w) : wpOp P ops Q i K a w := by
  have hy : ∀ t g, yielded ops' t g = yielded ops t g := fun t g => by unfold yielded; rw [hs g]
  have hyf : yielded ops' a.tmps = yielded ops a.tmps := funext fun g => hy a.tmps g
  have hw : Region.wanted o' (yielded ops' a.tmps) = Region.wanted o (yielded ops a.tmps) := by
    rw [hyf]
    unfold Region.wanted
    rw [h.guard]
  unfold wpOp at *
  rw [hi'] at hh
  rw [hi]
  simp only at hh ⊢
  rw [hw, h.dst] at hh
  split
  · rename_i hq
    rw [if_pos hq] at hh
    exact hh.imp (alike_upon h) fun hl => ⟨alike_asks h hl.1, hl.2⟩
  · rename_i hq
    rw [if_neg hq] at hh
    exact hh
theorem wpOp_nrm {ops : Array Oper} {i : Nat} {K : Act → World → Prop} {a : Act} {w : World} (h : wpOp P ops (Nrm Q) i K a w) : wpOp P ops Q i K a w := by
  unfold wpOp at *
  split
  · rename_i hi
    rw [hi] at h
    exact h
  · rename_i o hi
    rw [hi] at h
    simp only at h
    split
    · rename_i hq
      rw [if_pos hq] at h
      rcases h with h | h
      · exact .inl (Oper.upon_nrm h)
      · obtain ⟨_, _, hh⟩ := h.2
        exact hh.elim
    · rename_i hq
      rw [if_neg hq] at h
      exact h
def floChk (ops : Array Oper) (f : Nat) (fo : Oper) : Bool :=
  ops.toList.zipIdx.all fun (oj, j) => j == f || befHas (Region.before ops) j f || fo.apart ops oj && (match oj.op with | .select .. => false | _ => true)
theorem RegInv.float {l : List Oper} {m f : Nat} {fo : Oper} {d s : Nat} {a : Act} {w : World} (hb : backOK l.toArray = true) (hf : l[f]? = some fo) (hfo : fo.op = .move (.tmp s)) (hfd : fo.dst = some d) (hfg : fo.guard = none) (hfe : (fo.after.all fun e => !Region.binds .any e) = true) (hmf : f ≠ m)
    (hc : floChk l.toArray f fo = true) (h : RegInv P (withEdge l m f).toArray (Nrm Q) a w) : RegInv P l.toArray Q a w := by
  obtain ⟨I, h0, hstep, hend⟩ := h
  have hsz : (withEdge l m f).toArray.size = l.toArray.size := by simp [withEdge_len]
  have hget : ∀ i o, l.toArray[i]? = some o → ∃ o', (withEdge l m f).toArray[i]? = some o' ∧ AlikeO f o' o := fun i o hi => by
    obtain ⟨o', h1, h2⟩ := withEdge_get l m f i o ((List.getElem?_toArray ..).symm.trans hi)
    exact ⟨o', (List.getElem?_toArray ..).trans h1, h2⟩
  have hbnd : ∀ i : Nat, (((withEdge l m f).toArray[i]?).bind Oper.dst) = ((l.toArray[i]?).bind Oper.dst) := fun i => by
    cases hi : l.toArray[i]? with
    | none =>
      have : (withEdge l m f).toArray[i]? = none := by
        rw [Array.getElem?_eq_none_iff] at hi ⊢
        omega
      rw [this]
    | some o =>
      obtain ⟨o', h1, h2⟩ := hget i o hi
      rw [h1]
      exact h2.dst
  have hfA : l.toArray[f]? = some fo := by simpa using hf
  have hfs : f < l.toArray.size := (Array.getElem?_eq_some_iff.1 hfA).1
  have hgd : ∀ (D : Array Bool) (i : Nat), i < D.size → D.getD i true = false → D.getD i false = false := by
    intro D i hi h
    simp only [Array.getD_eq_getD_getElem?, Array.getElem?_eq_getElem hi, Option.getD_some] at h ⊢
    exact h
  have hgd' : ∀ (D : Array Bool) (i : Nat), i < D.size → D.getD i false = false → D.getD i true = false := by
    intro D i hi h
    simp only [Array.getD_eq_getD_getElem?, Array.getElem?_eq_getElem hi, Option.getD_some] at h ⊢
    exact h
  have hrunf : ∀ a : Act, execOp a.eval fo = (pure (.value (a.eval (.tmp s))) : Sem Next) := fun a => by
    cases fo
    simp only at hfo
    subst hfo
    rfl
  obtain ⟨fo', hf', hal⟩ := hget f fo hfA
  have hrf : ∀ D, readyAt (withEdge l m f).toArray D f := fun D o' ho' e he hbe => by
    rw [hf'] at ho'
    injection ho' with ho'
    subst ho'
    rcases Nat.lt_or_ge f m with hlt | hge
    all_goals
      have hsame : fo'.after = fo.after := by
        have gen : ∀ (l : List Oper) (m i g : Nat) (o o' : Oper), i ≠ m → l[i]? = some o → (withEdge l m g)[i]? = some o' → o' = o := by
          intro l
          induction l with
          | nil => intro m i g o o' _ h; simp at h
          | cons x l ih =>
            intro m i g o o' hne h1 h2
            cases m with
            | zero =>
              cases i with
              | zero => exact absurd rfl hne
              | succ i =>
                simp [withEdge] at h1 h2
                rw [h1] at h2
                injection h2 with h2
                exact h2.symm
            | succ m =>
              cases i with
              | zero =>
                simp [withEdge] at h1 h2
                rw [← h1, ← h2]
              | succ i => exact ih m i g o o' (by omega) (by simpa using h1) (by simpa [withEdge] using h2)
        rw [gen l m f f fo fo' hmf hf (by simpa using hf')]
      rw [hsame] at he
      have := Array.all_eq_true_iff_forall_mem.1 hfe e he
      rw [hbe] at this
      cases this
  have hflt : ∀ (D : Array Bool) (a : Act) (w : World), D.size = l.toArray.size → I D a w → D.getD f false = false → I (D.setIfInBounds f true) (a.put (some d) (a.eval (.tmp s))) w := by
    intro D a w hD hI hDf
    have hst := hstep D a w f fo' (by omega) hI hf' (hgd' D f (by omega) hDf) (hrf D)
    have hst := alike_wpOp hbnd hfA hf' hal hst
    unfold wpOp at hst
    rw [hfA] at hst
    have hwt : ∀ y, Region.wanted fo y = true := fun y => by unfold Region.wanted; rw [hfg]
    simp only [hwt, if_true] at hst
    rcases hst with hst | hst
    · unfold Oper.wp at hst
      rw [hrunf, Sem.run_pure, Oper.upon_value, hfd] at hst
      exact hst
    · obtain ⟨_, _, hh⟩ := hst.2
      exact hh.elim
  refine ⟨fun D a w => Closed l.toArray D ∧ (D.getD f false = true → I D a w) ∧ (D.getD f false = false → I (D.setIfInBounds f true) (a.put (some d) (a.eval (.tmp s))) w), ?_, ?_, ?_⟩
  · intro w' hw'
    have hno : ∀ (n j : Nat), (Array.replicate n false).getD j false = false := by
      intro n j
      rw [Array.getD_eq_getD_getElem?, Array.getElem?_replicate]
      split <;> simp
    have hI0 := h0 w' hw'
    rw [hsz] at hI0
    exact ⟨fun j hj => absurd hj (by rw [hno]; simp), fun h => (by rw [hno] at h; cases h), fun hq => hflt _ _ _ (by simp) hI0 (hno _ _)⟩
  · rintro D a w i o hD ⟨hcl, hT, hF⟩ ho hd hr
    have hi : i < l.toArray.size := (Array.getElem?_eq_some_iff.1 ho).1
    have hdf := hgd D i (by omega) hd
    obtain ⟨o', ho', hao⟩ := hget i o ho
    have hgset : ∀ j, (D.setIfInBounds i true).getD j false = true ↔ j = i ∨ D.getD j false = true := fun j => get_set (by omega)
    have hc' : Closed l.toArray (D.setIfInBounds i true) := by
      intro j hj
      rcases (hgset j).1 hj with rfl | hj
      · exact fun o' ho' e he hbe => (hgset e.on).2 (.inr (hr o' ho' e he hbe))
      · exact fun o' ho' e he hbe => (hgset e.on).2 (.inr (hcl j hj o' ho' e he hbe))
    cases hDf : D.getD f false with
    | true =>
      have hst := hstep D a w i o' (by omega) (hT hDf) ho' hd (fun x hx e he hbe => by
        rw [ho'] at hx
        injection hx with hx
        subst hx
        rcases hao.after e he hbe with h1 | h1
        · exact hr o ho e h1 hbe
        · rw [h1]; exact hDf)
      refine wpOp_nrm (wpOp_mono (fun a' w' hI' => ⟨hc', fun _ => hI', fun h => ?_⟩) (alike_wpOp hbnd ho ho' hao hst))
      rw [(hgset f).2 (.inr hDf)] at h
      cases h
    | false =>
      have hI2 := hF hDf
      by_cases hif : i = f
      · subst hif
        have hof : o = fo := by rw [hfA] at ho; injection ho with ho; exact ho.symm
        subst hof
        unfold wpOp
        rw [ho]
        have hwt : ∀ y, Region.wanted o y = true := fun y => by unfold Region.wanted; rw [hfg]
        simp only [hwt, if_true]
        refine .inl ?_
        unfold Oper.wp
        rw [hrunf, Sem.run_pure, Oper.upon_value, hfd]
        exact ⟨hc', fun _ => hI2, fun h => by rw [(hgset i).2 (.inl rfl)] at h; cases h⟩
      · have hDs : (D.setIfInBounds f true).size = l.toArray.size := by simpa using hD
        have hni : (D.setIfInBounds f true).getD i true = false := by
          have hne : f ≠ i := fun e => hif e.symm
          simp only [Array.getD_eq_getD_getElem?, Array.getElem?_setIfInBounds_ne hne]
          simpa only [Array.getD_eq_getD_getElem?] using hd
        have hgf : ∀ j, (D.setIfInBounds f true).getD j false = true ↔ j = f ∨ D.getD j false = true := fun j => get_set (by omega)
        have hst := hstep (D.setIfInBounds f true) _ w i o' (by omega) hI2 ho' hni (fun x hx e he hbe => by
          rw [ho'] at hx
          injection hx with hx
          subst hx
          rcases hao.after e he hbe with h1 | h1
          · exact (hgf e.on).2 (.inr (hr o ho e h1 hbe))
          · exact (hgf e.on).2 (.inl h1))
        have hst2 := alike_wpOp hbnd ho ho' hao hst
        have hck := List.all_eq_true.1 hc (o, i) (by rw [List.mk_mem_zipIdx_iff_getElem?]; simpa using ho)
        simp only [Bool.or_eq_true, beq_iff_eq, hif, false_or, Bool.and_eq_true] at hck
        have hap : fo.apart l.toArray o = true ∧ ∀ cs b, o.op ≠ .select cs b := by
          rcases hck with h1 | h1
          · have := before_done hb hcl i f hr h1
            rw [hDf] at this
            cases this
          · refine ⟨h1.1, fun cs b e => ?_⟩
            have h2 := h1.2
            rw [e] at h2
            cases h2
        have hyl : Yields P l.toArray fo (a.eval (.tmp s)) a := .inl ⟨by unfold Region.wanted; rw [hfg], fun w => by rw [hrunf]; rfl⟩
        have hst2' : wpOp P l.toArray (Nrm Q) i (I ((D.setIfInBounds f true).setIfInBounds i true)) (a.put fo.dst (a.eval (.tmp s))) w := by rw [hfd]; exact hst2
        have hst3 := wpOp_put ho hap.1 (fun cs b e => by rw [hfo] at e; cases e) hap.2 (fun _ _ _ h => h.elim) hyl hst2'
        refine wpOp_nrm (wpOp_mono (fun a' w' ⟨hy', hI'⟩ => ⟨hc', fun h => ?_, fun _ => ?_⟩) hst3)
        · rcases (hgset f).1 h with h | h
          · exact absurd h.symm hif
          · rw [hDf] at h; cases h
        · have hv : a'.eval (.tmp s) = a.eval (.tmp s) := by
            rcases hy' with ⟨_, h1⟩ | ⟨h1, _⟩
            · have := h1 w'
              rw [hrunf, Sem.run_pure] at this
              injection this with this
              injection this
            · unfold Region.wanted at h1
              rw [hfg] at h1
              cases h1
          rw [hv, Array.setIfInBounds_comm _ _ hif, ← hfd]
          exact hI'
  · rintro D a w hD hall ⟨_, hT, _⟩
    exact hend D a w (by omega) (fun i hi => hall i (by omega)) (hT (hall f hfs))
end
section
variable {P : Program} {c : Ctx} {K : List (Nat × Ty)} {L L0 : List Own} {Φ Φ0 : List (World → Prop)} {Q : Exit → Act → World → Prop}
theorem J.regSf {id : Nat} {dr : Bool} {l : List Oper} (m f : Nat) {fo : Oper} {d s : Nat} (hmx : P.follows .mixedOrders = true) (hb : backOK l.toArray = true) (hf : l[f]? = some fo) (hfo : fo.op = .move (.tmp s)) (hfd : fo.dst = some d) (hfg : fo.guard = none) (hfe : (fo.after.all fun e => !Region.binds .any e) = true) (hmf : Nat.beq f m = false)
    (hc : floChk l.toArray f fo = true) (hok : (backOK (withEdge l m f).toArray && syncOK (withEdge l m f).toArray m && regOK ((withEdge l m f).take m).toArray) = true)
    (hdn : (((withEdge l m f).take m).toArray.all fun o => match o.dst with | some d => decide (d < c.n) | none => true) = true)
    (h : RT P ((withEdge l m f).take m).toArray L Φ 0 ((withEdge l m f).take m) K [] [] (FinS P c L Φ (Exit.then (wpList P (withEdge l m f).toArray (Nrm Q) ((withEdge l m f).drop m)) (Nrm Q)))) : J P c K L Φ (.region id l.toArray dr) Q := by
  refine ⟨fun E a w hsa => ?_⟩
  simp only [Bool.and_eq_true] at hok
  obtain ⟨⟨hb', hs⟩, hr⟩ := hok
  obtain ⟨I, h0, h1, h2⟩ := region_inv (ops := ((withEdge l m f).take m).toArray) (Lm := []) hr hdn h hsa
  obtain ⟨I2, g0, g1, g2⟩ := RegInv.float (P := P) (Q := Q) (a := a) (w := w) hb hf hfo hfd hfg hfe (fun e => by subst e; rw [Nat.beq_refl] at hmf; cases hmf) hc (reg_sync (P := P) (Q := Nrm Q) m hb' hs I h0 h1 h2)
  exact wp_region_inv hmx hb I2 g0 g1 g2
theorem JX.nrm (h : JX c K L Φ .normal Q) : JX c K L Φ .normal (Nrm Q) := ⟨h.out⟩
def AllOb (L0 : List Own) : Prop := ∀ o ∈ L0, (∃ V, o.T = .is V) ∨ ∃ x, o.T = .ob x
theorem own_blkOb {m : Own} {E E' : Nat → Prop} {w w' : World} (h0 : (∃ V, m.T = .is V) ∨ ∃ x, m.T = .ob x) (h : m.at E w) (h' : m.at E' w') : w'.heap[m.b]? = w.heap[m.b]? := by
  obtain ⟨b, e, T⟩ := m
  rcases h0 with ⟨V, hV⟩ | ⟨x, hx⟩
  · rw [own_blk h hV, own_blk h' hV]
  · simp only at hx
    subst hx
    rw [own_ob h, own_ob h']
variable {H : Know} {dst : Option Nat} {ty : TypeId} {pos : String} {after : Array Edge} {g : Option (Nat × Bool)} {Z : Type} {Zp : Z → Prop} {f : FuncId} {As : List Ty} {V : Value}
theorem endL_sameOb (h0 : AllOb L0) {E E' : Nat → Prop} {w w' : World} {z : Z} {v : Value} {R : Z → Ty} (hM : ∀ m ∈ L0, m.at E w) (h : EndL L0 Zp (fun _ => L0) R E w z E' v w') : Keeps noX w w' :=
  ⟨h.k.os, h.k.tape, h.k.output, h.k.size, fun b hb _ => by
    by_cases hm : b ∈ L0.map (·.b)
    · obtain ⟨o, ho, rfl⟩ := List.mem_map.1 hm
      exact own_blkOb (h0 o ho) (hM o ho) (h.l o ho)
    · exact h.k.blk b hb hm, h.k.shp⟩
theorem ob_callB {xs : List Operand} {ats : Array TypeId} (hf : H (.func f) (.is (.func (.func f) #[] #[]))) (hc : CallL P f L0 Φ0 As Zp (fun _ => L0) (fun _ => .is V)) (h0 : AllOb L0) (hL : ∀ o ∈ L0, o ∈ L) (hnd : ∀ E w, (∀ o ∈ L, o.at E w) → (L0.map (·.b)).Nodup) (hΦ : ∀ F ∈ Φ0, F ∈ Φ) (ha : Args L Φ H xs As) :
    Ob P L Φ H ⟨dst, .call { callee := .value (.func f), args := xs.toArray, argTypes := ats }, ty, pos, after, g⟩ (.is V) := fun E w ρ hp => by
  have h1 : ρ (.func f) = .func (.func f) #[] #[] := hp.x (.func f) (.is (.func (.func f) #[] #[])) (by simp [Op.operands, Call.operands]) hf
  have hall := ha.all (ρ := ρ) (pre_facts hp) fun x T hx => hp.x x T (by simp [Op.operands, Call.operands, hx])
  have hM : ∀ m ∈ L0, m.at E w := fun m hm => hp.l m (hL m hm)
  have h3 := run_callL hc hΦ hp.wf hp.f hall hM (hnd E w hp.l)
  simp only [execOp, resolve, h1, Deferred.ofValue, invoke, Sem.run_bind, Sem.run_pure, Result.andThen_ok, List.map_toArray]
  refine Runs.mono (by simpa using h3) ?_
  rintro v w' ⟨z, E', he⟩
  exact ⟨endL_sameOb h0 hM he, he.r⟩
end
end Go.Vc
namespace Go.Vc
open Go
section
variable {P : Program} {L : List Own} {Φ : List (World → Prop)} {H : Know} {dst : Option Nat} {ty : TypeId} {pos : String} {after : Array Edge} {g : Option (Nat × Bool)}
theorem ob_mlenI {t kt et : TypeId} {x : Operand} {b : Nat} {e : TypeId} {l : MEs} {cl : Nat} (hu : P.underlying t = some (.map kt et)) (hx : H x (.is (.map (some b)))) [ho : HasOwn L b e (.ob (mObj l cl))] :
    Ob P L Φ H ⟨dst, .call { callee := .builtin .len, args := #[x], argTypes := #[t] }, ty, pos, after, g⟩ (.is (.int .i64 (l.length : Nat))) := ob_mlen hu hx ho.mem
theorem ob_mgetI {mt kt et : TypeId} {m k : Operand} {b : Nat} {e : TypeId} {l : MEs} {cl : Nat} {n : Int} {V z : Value} (hm' : P.underlying mt = some (.map kt et)) (hk' : P.underlying kt = some (.int .i64)) (hz : zeroOf P et = some z) (hm : H m (.is (.map (some b)))) (hk : H k (.is (.int .i64 n)))
    [ho : HasOwn L b e (.ob (mObj l cl))] (hV : (mGet n l).getD z = V) : Ob P L Φ H ⟨dst, .lookup mt m k false, ty, pos, after, g⟩ (.is V) := ob_mget hm' hk' hz hm hk ho.mem hV
end
section
variable {P : Program} {c : Ctx} {K : List (Nat × Ty)} {L : List Own} {Φ : List (World → Prop)} {Q : Exit → Act → World → Prop} {ops : Array Oper} {rest : List Oper} {d : Nat} {ty t : TypeId} {pos : String} {after : Array Edge}
theorem JO.rangeI {kt et : TypeId} {x : Operand} {b : Nat} {e : TypeId} {l : MEs} {cl : Nat} (hu : P.underlying t = some (.map kt et)) (hx : opTy K x = some (.is (.map (some b)))) [ho : HasOwn L b e (.ob (mObj l cl))] (hd : Nat.blt d c.n = true)
    (hn : ∀ r, JO P c ((d, .is (.pointer (some ⟨r, 0, none⟩))) :: K) (⟨r, 0, .ob (.mapIter (some b) cl #[] cl)⟩ :: L) Φ ops rest Q) : JO P c K L Φ ops (⟨some d, .range t x, ty, pos, after, none⟩ :: rest) Q := JO.rangeM hu hx ho.mem hd hn
end
end Go.Vc
namespace Go.Vc
open Go
section
variable {P : Program} {L : List Own} {Φ : List (World → Prop)} {H : Know} {dst : Option Nat} {ty : TypeId} {pos : String} {after : Array Edge} {g : Option (Nat × Bool)}
theorem eqIn_pnil {xt e : TypeId} {a : Option Addr} {w : World} (d : Nat) (hu : P.underlying xt = some (.pointer e)) : (Op.equalIn (d + 1) xt (.pointer a) (.pointer none)).run P w = .ok a.isNone w := by
  unfold Op.equalIn
  cases a <;> simp [run_underlying hu]
theorem ob_pnil {xt yt e : TypeId} {x y : Operand} {a : Option Addr} (hu : P.underlying xt = some (.pointer e)) (hx : H x (.is (.pointer a))) (hy : H y (.is (.pointer none))) : Ob P L Φ H ⟨dst, .binOp .eql xt x y yt, ty, pos, after, g⟩ (.is (.bool a.isNone)) :=
  ob_bin hx hy fun w => by
    have h : (Op.equal xt (.pointer a) (.pointer none)).run P w = .ok a.isNone w := eqIn_pnil 9999 hu
    simp only [eqGuard, binOp, Sem.run_bind, Sem.run_pure, Result.andThen_ok]
    simp [h]
theorem ob_pnnil {xt yt e : TypeId} {x y : Operand} {a : Option Addr} (hu : P.underlying xt = some (.pointer e)) (hx : H x (.is (.pointer a))) (hy : H y (.is (.pointer none))) : Ob P L Φ H ⟨dst, .binOp .neq xt x y yt, ty, pos, after, g⟩ (.is (.bool (!a.isNone))) :=
  ob_bin hx hy fun w => by
    have h : (Op.equal xt (.pointer a) (.pointer none)).run P w = .ok a.isNone w := eqIn_pnil 9999 hu
    simp only [eqGuard, binOp, Sem.run_bind, Sem.run_pure, Result.andThen_ok]
    simp [h]
theorem ob_nnilS {xt yt e : TypeId} {x y : Operand} {a : Option Addr} {n m n' m' : Nat} (hu : P.underlying xt = some (.slice e)) (hx : H x (.is (.slice a n m))) (hy : H y (.is (.slice none n' m'))) : Ob P L Φ H ⟨dst, .binOp .neq xt x y yt, ty, pos, after, g⟩ (.is (.bool (!a.isNone))) :=
  ob_bin hx hy fun w => by
    have h : (Op.equal xt (.slice a n m) (.slice none n' m')).run P w = .ok a.isNone w := eqIn_nil 9999 hu
    simp only [eqGuard, binOp, Sem.run_bind, Sem.run_pure, Result.andThen_ok]
    simp [h]
end
end Go.Vc
namespace Go.Vc
open Go
section
variable {P : Program} {c : Ctx} {K : List (Nat × Ty)} {L Lr L0 : List Own} {Φ : List (World → Prop)} {Q : Exit → Act → World → Prop} {Z : Type} {Zp : Z → Prop} {L1 : Z → List Own} {R : Z → Ty} {fn : Func} {n : Nat} {X : Nat → Prop} {W : World}
theorem J.nodup {x : Code} (h : (L.map (·.b)).Nodup → J P c K L Φ x Q) : J P c K L Φ x Q := ⟨fun E a w hs => (h hs.ld).out E a w hs⟩
theorem JX.retL2 {t u : Nat} {A B : Value} (hres : fn.results = #[.tmp t, .tmp u]) (z : Z) (hz : Zp z) (hL : L.Perm (L1 z ++ Lr)) (hol : (L1 z).all (fun o => o.T.out) = true) (hL0 : ∀ b, b ∈ L0.map (·.b) → X b) (h : look K t = some (.is A)) (h' : look K u = some (.is B)) (hR : R z = .is (.tuple #[A, B])) : JX ⟨n, X, fun q => q ∈ L0.map (·.b), W⟩ K L Φ .ret (bodyPost P fn (PostL X W L0 Zp L1 R)) :=
  JX.retLOf z hz hL hol (by rw [hR]; rfl) hL0 fun a w E hs => ⟨_, results_tmp2 hres _ _ _, by
    have e1 : slotOf a t = A := hs.k t _ h
    have e2 : slotOf a u = B := hs.k u _ h'
    rw [hR]
    show Value.tuple _ = Value.tuple _
    rw [← e1, ← e2]; rfl⟩
end
section
variable {P : Program} {L : List Own} {Φ : List (World → Prop)} {H : Know} {dst : Option Nat} {ty : TypeId} {pos : String} {after : Array Edge} {g : Option (Nat × Bool)}
theorem ob_nilCheckG {x : Operand} {o : Option Addr} {p : Addr} (hx : H x (.is (.pointer o))) (h : o = some p) : Ob P L Φ H ⟨dst, .nilCheck x, ty, pos, after, g⟩ (.is (.pointer (some p))) := by subst h; exact ob_nilCheck hx
end
end Go.Vc

namespace Go.Vc
open Go
def NewMap (N : Nat) (v : Value) (w : World) : Prop := ∃ r, v = .map (some r) ∧ N ≤ r ∧ w.heap[r]? = some (.map #[] 0)
section
variable {P : Program} {L : List Own} {Φ : List (World → Prop)} {H : Know} {dst : Option Nat} {ty t : TypeId} {pos : String} {after : Array Edge} {g : Option (Nat × Bool)}
theorem run_mk (ρ : Operand → Value) (w : World) : (execOp ρ ⟨dst, .makeMap t none, ty, pos, after, g⟩).run P w = .ok (.value (.map (some w.heap.size))) (w.alloc (.map #[] 0)) := by
  simp [execOp, Instr.makeMap]
theorem ob_mapNew {N : Nat} (hN : (fun w : World => N ≤ w.heap.size) ∈ Φ) : Ob P L Φ H ⟨dst, .makeMap t none, ty, pos, after, g⟩ (.rep (NewMap N)) := fun E w ρ hp => by
  rw [run_mk]
  refine ⟨Keeps.alloc w _, fun w' hk => ⟨w.heap.size, rfl, (hp.f _ hN).now, ?_⟩⟩
  exact hk.get (heap_alloc_at w _) fun h => absurd (hp.wf _ h) (Nat.lt_irrefl _)
theorem big_mapMk : BigOb P L Φ H ⟨dst, .makeMap t none, ty, pos, after, none⟩ (G := Nat) (fun r => .is (.map (some r))) (fun r => ⟨r, 0, .ob (mObj [] 0)⟩ :: L) := fun E w ρ hp hnd => by
  rw [run_mk]
  have hk := Keeps.alloc w (.map #[] 0)
  have hev : Ev E w (fun b => E b ∨ b = w.heap.size) (w.alloc (.map #[] 0)) := ⟨hk.of_noX, fun b hb => ⟨fun h => h.elim id (fun e => absurd hb (by omega)), .inl⟩⟩
  refine ⟨w.heap.size, fun b => E b ∨ b = w.heap.size, hk.of_noX, hev, ?_, rfl, ?_, ?_, ?_⟩
  · rintro b (hb | rfl)
    · rw [size_alloc]; have := hp.wf b hb; omega
    · rw [size_alloc]; omega
  · intro m hm
    rcases List.mem_cons.1 hm with rfl | hm
    · exact at_ob (heap_alloc_at w _) (.inr rfl)
    · exact Own.keep0 (hp.l m hm) hev hk
  · rw [List.map_cons, List.nodup_cons]
    refine ⟨fun h => ?_, hnd⟩
    obtain ⟨m, hm, e⟩ := List.mem_map.1 h
    have h1 := hp.wf m.b (hp.l m hm).1
    have e' : m.b = w.heap.size := e
    omega
  · intro m hm
    rcases List.mem_cons.1 hm with rfl | hm
    · exact .inr (Nat.le_refl _)
    · exact .inl (List.mem_map_of_mem hm)
end
section
variable {P : Program} {c : Ctx} {K K' : List (Nat × Ty)} {L : List Own} {Φ Φ0 : List (World → Prop)} {Q : Exit → Act → World → Prop}
end
end Go.Vc

namespace Go.Vc
open Go
theorem RI.retype {P : Program} {ops : Array Oper} {c : Ctx} {K : List (Nat × Ty)} {Lm Lk : List Own} {Φ : List (World → Prop)} {T T' : Nat → Ty} {Mf : Nat → List Own} {Sf : Nat → Sd} {B1 : Nat} {D : Array Bool} {E : Nat → Prop} {a : Act} {w : World}
    (h : RI P ops c K Lm Lk Φ T Mf Sf B1 D E a w) (hT : ∀ (j : Nat) (oj : Oper), ops[j]? = some oj → D.getD j false = true → T j = T' j) : RI P ops c K Lm Lk Φ T' Mf Sf B1 D E a w :=
  { h with t := fun j o d hj hd hdd => by rw [← hT j o hj hd]; exact h.t j o d hj hd hdd }
section
variable {P : Program} {c : Ctx} {K : List (Nat × Ty)} {L Lq : List Own} {Φ : List (World → Prop)} {Q : Exit → Act → World → Prop}
theorem J.regBg {id : Nat} {dr : Bool} {l1 l2 tail : List Oper} {op : Oper} {d0 : Nat} {G : Type} (Tg : G → Ty) (Lg : G → List Own) (Lq : List Own) (hop : op.dst = some d0) (hg : op.guard = none)
    (hmx : P.follows .mixedOrders = true) (hok : (backOK (l1 ++ op :: l2 ++ tail).toArray && syncOK (l1 ++ op :: l2 ++ tail).toArray (l1 ++ op :: l2).length && regOK (l1 ++ op :: l2).toArray && quietOK (l1 ++ op :: l2).toArray (l1 ++ op :: l2).length) = true)
    (hdn : ((l1 ++ op :: l2).toArray.all fun o => match o.dst with | some d => decide (d < c.n) | none => true) = true)
    (hq1 : ∀ o ∈ Lq, o ∈ L) (hq2 : ∀ g, ∀ o ∈ Lq, o ∈ Lg g)
    (haf : ((List.range l2.length).all fun j => befHas (Region.before (l1 ++ op :: l2).toArray) (l1.length + 1 + j) l1.length) = true)
    (h : RT P (l1 ++ op :: l2).toArray Lq Φ 0 l1 K [] [] (fun K1 _ _ => BigOb P L Φ (Kn K1) op Tg Lg ∧ ∀ g, RT P (l1 ++ op :: l2).toArray (Lg g) Φ (l1.length + 1) l2 ((d0, Tg g) :: K1) [] [] (fun K2 _ _ => JO P c K2 (Lg g) Φ (l1 ++ op :: l2 ++ tail).toArray tail Q))) :
    J P c K L Φ (.region id (l1 ++ op :: l2 ++ tail).toArray dr) Q := by
  refine ⟨?_⟩
  intro E a w hsa
  simp only [Bool.and_eq_true] at hok
  obtain ⟨⟨⟨hbk, hsy⟩, hreg⟩, hqu⟩ := hok
  generalize hA : l1 ++ op :: l2 = A at *
  have hlp : (A ++ tail).toArray.toList.take A.length = A := by simp
  have hld : (A ++ tail).toArray.toList.drop A.length = tail := by simp
  have hpA : A[l1.length]? = some op := by rw [← hA]; simp
  have hAlen : A.length = l1.length + 1 + l2.length := by rw [← hA]; simp; omega
  obtain ⟨T1, Mf1, Sf1, kf1, hM1, hS1, hst1, hbig, hrt2⟩ := h.out
  have hrt3 := fun g => (hrt2 g).out
  let T2 : G → Nat → Ty := fun g => Classical.choose (hrt3 g)
  have hrt4 : ∀ g, ∃ (Mf2 : Nat → List Own) (Sf2 : Nat → List (Nat × TypeId × Ty)) (kf2 : Nat → Kind), Mf2 0 = [] ∧ Sf2 0 = [] ∧
      (∀ i o, l2[i]? = some o → St1 P A.toArray (Lg g) Φ (l1.length + 1 + i) o (kAt l2 (T2 g) ((d0, Tg g) :: kAt l1 T1 K l1.length) i) (Mf2 i) (Sf2 i) (T2 g i) (Mf2 (i + 1)) (Sf2 (i + 1)) (kf2 i)) ∧ JO P c (kAt l2 (T2 g) ((d0, Tg g) :: kAt l1 T1 K l1.length) l2.length) (Lg g) Φ (A ++ tail).toArray tail Q := fun g => Classical.choose_spec (hrt3 g)
  have hbk' : backOK A.toArray = true := by unfold regOK at hreg; rw [Bool.and_eq_true] at hreg; exact hreg.1
  have hord' : ordOK A.toArray = true := by unfold regOK at hreg; rw [Bool.and_eq_true] at hreg; exact hreg.2
  let T : Nat → Ty := fun j => if j < l1.length then T1 j else .any
  let TG : G → Nat → Ty := fun g j => if j < l1.length then T1 j else if j = l1.length then Tg g else T2 g (j - (l1.length + 1))
  have hKA1 : ∀ T' : Nat → Ty, (∀ j, j < l1.length → T' j = T1 j) → ∀ n, n ≤ l1.length → kAt A T' K n = kAt l1 T1 K n := by
    intro T' hT' n
    induction n with
    | zero => intro _; rfl
    | succ n ih =>
      intro hn
      rw [kAt, kAt, ih (by omega), ← hA, List.getElem?_append_left (by omega), hT' n (by omega)]
  have hTG1 : ∀ g j, j < l1.length → TG g j = T1 j := fun g j hj => by simp [TG, hj]
  have hKA2 : ∀ g n, kAt A (TG g) K (l1.length + 1 + n) = kAt l2 (T2 g) ((d0, Tg g) :: kAt l1 T1 K l1.length) n := by
    intro g n
    induction n with
    | zero =>
      show putK ((A[l1.length]?).bind (·.dst)) (TG g l1.length) (kAt A (TG g) K l1.length) = _
      rw [hKA1 _ (hTG1 g) _ (Nat.le_refl _), hpA, Option.bind_some, hop, show TG g l1.length = Tg g by simp [TG]]
      rfl
    | succ n ih =>
      show putK ((A[l1.length + 1 + n]?).bind (·.dst)) (TG g (l1.length + 1 + n)) (kAt A (TG g) K (l1.length + 1 + n)) = putK ((l2[n]?).bind (·.dst)) (T2 g n) _
      rw [ih]
      congr 1
      · congr 1
        rw [← hA, List.getElem?_append_right (by omega), show l1.length + 1 + n - l1.length = n + 1 by omega]
        rfl
      · simp [TG, show ¬ l1.length + 1 + n < l1.length by omega, show l1.length + 1 + n ≠ l1.length by omega]
  have hquA : ∀ (j : Nat) (oj : Oper), A[j]? = some oj → isAlloc oj = false ∧ ∀ t p x, oj.op ≠ .store t p x := by
    intro j oj hj
    unfold quietOK at hqu
    have h1 := List.all_eq_true.1 hqu oj (by simp; exact List.mem_of_getElem? hj)
    simp only [Bool.and_eq_true, Bool.not_eq_true'] at h1
    exact ⟨h1.1, fun t p x e => by rw [e] at h1; simp at h1⟩
  have hMS1 : ∀ j, j ≤ l1.length → Mf1 j = [] ∧ Sf1 j = [] := by
    intro j
    induction j with
    | zero => intro _; exact ⟨hM1, hS1⟩
    | succ j ih =>
      intro hj
      obtain ⟨e1, e2⟩ := ih (by omega)
      have ho : l1[j]? = some l1[j] := List.getElem?_eq_getElem (by omega)
      have h1 := hst1 j _ ho
      rw [e1, e2] at h1
      obtain ⟨q1, q2⟩ := hquA j l1[j] (by rw [← hA, List.getElem?_append_left (by omega)]; exact ho)
      obtain ⟨g1, g2, _⟩ := h1.quiet (L := Lq) (K2 := kAt l1 T1 K j) (fun _ h => h) (fun s U h => .inr h) q1 q2
      exact ⟨g1, g2⟩
  have hst2 : ∀ g j o, l2[j]? = some o → ∃ kd, St1 P A.toArray (Lg g) Φ (l1.length + 1 + j) o (kAt l2 (T2 g) ((d0, Tg g) :: kAt l1 T1 K l1.length) j) [] [] (T2 g j) [] [] kd := by
    intro g
    obtain ⟨Mf2, Sf2, kf2, hM2, hS2, hs2, _⟩ := hrt4 g
    have hMS2 : ∀ j, j ≤ l2.length → Mf2 j = [] ∧ Sf2 j = [] := by
      intro j
      induction j with
      | zero => intro _; exact ⟨hM2, hS2⟩
      | succ j ih =>
        intro hj
        obtain ⟨e1, e2⟩ := ih (by omega)
        have ho : l2[j]? = some l2[j] := List.getElem?_eq_getElem (by omega)
        have h1 := hs2 j _ ho
        rw [e1, e2] at h1
        obtain ⟨q1, q2⟩ := hquA (l1.length + 1 + j) l2[j] (by rw [← hA, List.getElem?_append_right (by omega), show l1.length + 1 + j - l1.length = j + 1 by omega]; exact ho)
        obtain ⟨g1, g2, _⟩ := h1.quiet (L := Lg g) (K2 := kAt l2 (T2 g) ((d0, Tg g) :: kAt l1 T1 K l1.length) j) (fun _ h => h) (fun s U h => .inr h) q1 q2
        exact ⟨g1, g2⟩
    intro j o ho
    have hj : j < l2.length := (List.getElem?_eq_some_iff.1 ho).1
    have h1 := hs2 j o ho
    obtain ⟨e1, e2⟩ := hMS2 j (by omega)
    rw [e1, e2] at h1
    obtain ⟨q1, q2⟩ := hquA (l1.length + 1 + j) o (by rw [← hA, List.getElem?_append_right (by omega), show l1.length + 1 + j - l1.length = j + 1 by omega]; exact ho)
    exact (h1.quiet (L := Lg g) (K2 := kAt l2 (T2 g) ((d0, Tg g) :: kAt l1 T1 K l1.length) j) (fun _ h => h) (fun s U h => .inr h) q1 q2).2.2
  have hstA : ∀ (L' : List Own) (T' : Nat → Ty), (∀ m ∈ Lq, m ∈ L') → (∀ j, j < l1.length → T' j = T1 j) → ∀ i o, A.toArray[i]? = some o → i < l1.length → ∃ kd, St1 P A.toArray L' Φ i o (kAt A.toArray.toList T' K i) [] [] (T' i) [] [] kd := by
    intro L' T' hL' hT' i o hi hlt
    have hi' : A[i]? = some o := by simpa using hi
    obtain ⟨q1, q2⟩ := hquA i o hi'
    have ho : l1[i]? = some o := by rw [← hA, List.getElem?_append_left hlt] at hi'; exact hi'
    have h1 := hst1 i o ho
    obtain ⟨e1, e2⟩ := hMS1 i (by omega)
    rw [e1, e2, Nat.zero_add, ← hKA1 T' hT' i (by omega), ← hT' i hlt] at h1
    exact (h1.quiet hL' (fun s U h => .inr h) q1 q2).2.2
  have hstB : ∀ g i o, A.toArray[i]? = some o → l1.length < i → ∃ kd, St1 P A.toArray (Lg g) Φ i o (kAt A.toArray.toList (TG g) K i) [] [] (TG g i) [] [] kd := by
    intro g i o hi hge
    have hi' : A[i]? = some o := by simpa using hi
    have ho : l2[i - (l1.length + 1)]? = some o := by
      rw [← hA, List.getElem?_append_right (by omega)] at hi'
      rw [show i - l1.length = (i - (l1.length + 1)) + 1 by omega] at hi'
      simpa using hi'
    have h1 := hst2 g _ o ho
    rw [← hKA2, show l1.length + 1 + (i - (l1.length + 1)) = i by omega] at h1
    have hTi : TG g i = T2 g (i - (l1.length + 1)) := by simp [TG, show ¬ i < l1.length by omega, show ¬ i = l1.length by omega]
    rw [hTi]
    exact h1
  have hafter : ∀ j, l1.length < j → j < A.length → befHas (Region.before A.toArray) j l1.length = true := fun j h1 h2 => by
    have := List.all_eq_true.1 haf (j - (l1.length + 1)) (List.mem_range.2 (by omega))
    rw [show l1.length + 1 + (j - (l1.length + 1)) = j by omega] at this
    exact this
  have hnn : ∀ (i : Nat) (o : Oper) (d : Nat), A.toArray[i]? = some o → o.dst = some d → d < c.n := by
    intro i o d hi hd
    have := Array.all_eq_true_iff_forall_mem.1 hdn o (Array.mem_of_getElem? hi)
    rw [hd] at this
    simpa using this
  have hnal : ∀ (j : Nat) (oj : Oper) (t : TypeId), A.toArray[j]? = some oj → oj.op ≠ .alloc t := by
    intro j oj t hj e
    have := (hquA j oj (by simpa using hj)).1
    simp [isAlloc, e] at this
  have hpA' : A.toArray[l1.length]? = some op := by simpa using hpA
  refine wp_region_sync (Q := Q) A.length hmx hbk hsy (fun D a w' => (D.getD l1.length false = false ∧ ∃ E, RI P A.toArray c K [] L Φ T (fun _ => []) (fun _ => []) w.heap.size D E a w') ∨
      (D.getD l1.length false = true ∧ ∃ (g : G) (B : Nat) (E : Nat → Prop), Stat0 A.toArray c [] (Lg g) (fun _ => []) (fun _ => []) B ∧ RI P A.toArray c K [] (Lg g) Φ (TG g) (fun _ => []) (fun _ => []) B D E a w')) ?_ ?_ ?_
  · intro w' hw'
    have hs' : SA c K L Φ E a w' := by
      rcases hw' with rfl | rfl
      · exact hsa
      · exact hsa.drew
    have hno : ∀ (n j : Nat), (Array.replicate n false).getD j false = false := by
      intro n j
      rw [Array.getD_eq_getD_getElem?, Array.getElem?_replicate]
      split <;> simp
    refine .inl ⟨hno _ _, E, hs'.n, hs'.d, hs'.wf, fun j hj => absurd hj (by rw [hno]; simp), fun s T' hs _ => hs'.k s T' hs, fun j o d _ hj => absurd hj (by rw [hno]; simp), hs'.l, hs'.f, fun _ _ _ => ⟨(fun _ h => by cases h), (fun _ h => by cases h)⟩, fun j oj d t hj hop => absurd hop (hnal j oj t hj), fun j1 _ o1 _ _ _ t1 _ _ h1 _ p1 => absurd p1 (hnal j1 o1 t1 h1), hs'.x, hs'.keeps, ?_⟩
    rcases hw' with rfl | rfl <;> exact Nat.le_refl _
  · rw [hlp, hld]
    rintro D a' w' i o hs hI hi hd hr
    have hi' : i < A.toArray.size := (Array.getElem?_eq_some_iff.1 hi).1
    have hdf : D.getD i false = false := by
      have hlt : i < D.size := by omega
      simp only [Array.getD_eq_getD_getElem?, Array.getElem?_eq_getElem hlt, Option.getD_some] at hd ⊢
      exact hd
    have hsize : ∀ j, (D.setIfInBounds i true).getD j false = true ↔ j = i ∨ D.getD j false = true := fun j => get_set (by omega)
    have keepP : i ≠ l1.length → (D.setIfInBounds i true).getD l1.length false = D.getD l1.length false := by
      intro hne
      cases hq : D.getD l1.length false with
      | true => exact (hsize _).2 (.inr hq)
      | false =>
        cases hq' : (D.setIfInBounds i true).getD l1.length false with
        | false => rfl
        | true =>
          rcases (hsize _).1 hq' with e | e
          · exact absurd e.symm hne
          · rw [hq] at e; cases e
    have quietAll : ∀ (i : Nat) (o : Oper), A.toArray[i]? = some o → isLoud o = false → (fun _ => ([] : List Own)) (i + 1) = (fun _ => ([] : List Own)) i ∧ (fun _ => ([] : Sd)) (i + 1) = (fun _ => ([] : Sd)) i := fun _ _ _ _ => ⟨rfl, rfl⟩
    rcases hI with ⟨hp, E', hI⟩ | ⟨hp, g, B, E', hS, hI⟩
    · have hS0 : Stat0 A.toArray c [] L (fun _ => []) (fun _ => []) w.heap.size := ⟨fun _ _ => rfl, fun _ _ => List.nodup_nil, hsa.ld, fun m hm => lt_of_get (hsa.l m hm).2.choose_spec.1, hsa.may, hnn, hsa.keeps.size⟩
      by_cases hip : i = l1.length
      · subst hip
        rw [hpA'] at hi
        injection hi with hi
        subst hi
        have hpre := hI.pre hbk' hord' hpA' hdf hr
        have hKeq : kAt A.toArray.toList T K l1.length = kAt l1 T1 K l1.length := hKA1 T (fun j hj => by simp [T, hj]) _ (Nat.le_refl _)
        rw [hKeq] at hpre
        have hrun := hbig E' w' a'.eval hpre hsa.ld
        unfold wpOp
        rw [hpA']
        simp only
        rw [if_pos (by simp [Region.wanted, hg])]
        refine .inl ?_
        unfold Oper.wp
        refine Runs.upon hrun fun v w'' ⟨g, E'', hk, hev, hwf, hT, hl, hnd, hmay⟩ => .inr ⟨(hsize _).2 (.inl rfl), g, w''.heap.size, E'', ?_, ?_⟩
        · refine ⟨fun _ _ => rfl, fun _ _ => List.nodup_nil, hnd, fun m hm => lt_of_get (hl m hm).2.choose_spec.1, fun m hm => ?_, hnn, ?_⟩
          · rcases hmay m hm with h1 | h1
            · obtain ⟨m', hm', e⟩ := List.mem_map.1 h1
              rw [← e]
              exact hsa.may m' hm'
            · have := hI.keeps.size
              exact .inr (by omega)
          · exact Nat.le_trans hI.keeps.size hk.size
        · refine RI.retype (hI.big hs hord' hpA' hdf hr hnal (fun d hd => hnn _ _ d hpA' hd) hk hev hwf hT hl hsa.may) fun j oj hoj hdone => ?_
          rcases (hsize j).1 hdone with rfl | hdone
          · simp [TG]
          · rcases Nat.lt_trichotomy j l1.length with h1 | h1 | h1
            · simp [TG, T, h1, Nat.ne_of_lt h1]
            · rw [h1] at hdone; rw [hdone] at hdf; cases hdf
            · have hjA : j < A.length := by simpa using (Array.getElem?_eq_some_iff.1 hoj).1
              have := before_done hbk' hI.cl j l1.length (hI.cl j hdone) (hafter j h1 hjA)
              rw [this] at hdf; cases hdf
      · refine wpOp_mono (fun a'' w'' hI' => .inl ⟨by rw [keepP hip]; exact hp, hI'⟩) (hI.step1 hS0 quietAll hbk' hord' hs hi hd hr (hstA L T hq1 (fun j hj => by simp [T, hj]) i o hi (by
          rcases Nat.lt_or_ge i l1.length with h1 | h1
          · exact h1
          · have := before_done hbk' hI.cl i l1.length hr (hafter i (by omega) (by simpa using hi'))
            rw [this] at hp; cases hp)))
    · have hip : i ≠ l1.length := fun e => by subst e; rw [hdf] at hp; cases hp
      refine wpOp_mono (fun a'' w'' hI' => .inr ⟨by rw [keepP hip]; exact hp, g, B, ?_⟩) (hI.step1 hS quietAll hbk' hord' hs hi hd hr (by
        rcases Nat.lt_or_ge i l1.length with h1 | h1
        · exact hstA (Lg g) (TG g) (hq2 g) (hTG1 g) i o hi h1
        · exact hstB g i o hi (by omega)))
      obtain ⟨E'', hI'⟩ := hI'
      exact ⟨E'', hS, hI'⟩
  · rw [hlp, hld]
    rintro D a' w' hs hall hI
    have hpd : D.getD l1.length false = true := hall _ (by simp; omega)
    rcases hI with ⟨hp, _⟩ | ⟨_, g, B, E', hS, hI⟩
    · rw [hpd] at hp; cases hp
    · have hlen : A.length = A.toArray.size := by simp
      obtain ⟨_, _, _, _, _, _, hfin⟩ := hrt4 g
      refine hfin.out E' a' w' ⟨hI.n, hI.d, hI.wf, ?_, hI.l, hS.nd, hI.f, hI.x, hsa.xs, hI.keeps, hS.may⟩
      intro s T' hl
      rw [← hKA2 g l2.length, ← hAlen] at hl
      have hl' : look (kAt A.toArray.toList (TG g) K A.toArray.size) s = some T' := by simpa using hl
      rcases kAt_look s A.toArray.size (Nat.le_refl _) T' hl' with ⟨j, oj, hj, hoj, hdj, rfl⟩ | ⟨hn, hk⟩
      · exact hI.t j oj s hoj (hall j (by simpa using hj)) hdj
      · exact hI.k s T' hk fun j oj hoj _ => hn j oj (Array.getElem?_eq_some_iff.1 hoj).1 hoj
theorem J.regBgm {id : Nat} {dr : Bool} {l : List Oper} (p m : Nat) {op : Oper} {d0 : Nat} {G : Type} (Tg : G → Ty) (Lg : G → List Own) (Lq : List Own) (hp : l[p]? = some op) (hpm : Nat.blt p m = true) (hop : op.dst = some d0) (hg : op.guard = none)
    (hmx : P.follows .mixedOrders = true) (hok : (backOK l.toArray && syncOK l.toArray m && regOK (l.take m).toArray && quietOK (l.take m).toArray m) = true) (hml : (l.take m).length = m)
    (hdn : ((l.take m).toArray.all fun o => match o.dst with | some d => decide (d < c.n) | none => true) = true)
    (hq1 : ∀ o ∈ Lq, o ∈ L) (hq2 : ∀ g, ∀ o ∈ Lq, o ∈ Lg g)
    (haf : ((List.range ((l.drop (p + 1)).take (m - (p + 1))).length).all fun j => befHas (Region.before (l.take m).toArray) ((l.take p).length + 1 + j) (l.take p).length) = true)
    (h : RT P (l.take m).toArray Lq Φ 0 (l.take p) K [] [] (fun K1 _ _ => BigOb P L Φ (Kn K1) op Tg Lg ∧ ∀ g, RT P (l.take m).toArray (Lg g) Φ ((l.take p).length + 1) ((l.drop (p + 1)).take (m - (p + 1))) ((d0, Tg g) :: K1) [] [] (fun K2 _ _ => JO P c K2 (Lg g) Φ l.toArray (l.drop m) Q))) :
    J P c K L Φ (.region id l.toArray dr) Q := by
  have hc := cut_at hp (Nat.le_of_ble_eq_true hpm)
  have key := J.regBg (P := P) (c := c) (K := K) (L := L) (Φ := Φ) (Q := Q) (id := id) (dr := dr) (l1 := l.take p) (l2 := (l.drop (p + 1)).take (m - (p + 1))) (tail := l.drop m) (op := op) (d0 := d0) Tg Lg Lq hop hg hmx
  rw [hc, hml, List.take_append_drop] at key
  exact key hok hdn hq1 hq2 haf h
theorem RT.bigg {ops : Array Oper} {op : Oper} {l2 : List Oper} {i : Nat} {d0 : Nat} {G : Type} {Tg : G → Ty} {Lg : G → List Own} {k : G → List (Nat × Ty) → List Own → Sd → Prop}
    (h : BigOb P L Φ (Kn K) op Tg Lg) (n : ∀ g, RT P ops (Lg g) Φ i l2 ((d0, Tg g) :: K) [] [] (k g)) :
    RT P ops Lq Φ i [] K [] [] (fun K1 _ _ => BigOb P L Φ (Kn K1) op Tg Lg ∧ ∀ g, RT P ops (Lg g) Φ i l2 ((d0, Tg g) :: K1) [] [] (k g)) := ⟨h, n⟩
end
end Go.Vc
namespace Go.Vc
open Go
def TxN (N : Nat) (V : Nat → Value) (v : Value) (w : World) : Prop := ∃ r, v = V r ∧ N ≤ r ∧ w.heap[r]? = some (.map #[] 0)
def BoxM (N : Nat) (e : TypeId) (V : Nat → Value) (v : Value) (w : World) : Prop := ∃ b r, v = .pointer (some ⟨b, 0, none⟩) ∧ N ≤ b ∧ N ≤ r ∧ w.heap[b]? = some (.cells (V r).cells e (0, 0)) ∧ w.heap[r]? = some (.map #[] 0)
section
variable {P : Program} {L : List Own} {Φ : List (World → Prop)} {H : Know} {dst : Option Nat} {ty : TypeId} {pos : String} {after : Array Edge} {g : Option (Nat × Bool)}
theorem ob_withMap {x : Operand} {N : Nat} {o : Oper} {V : Nat → Value} (hx : H x (.rep (NewMap N))) (hmem : x ∈ o.op.operands) (h : ∀ r, Ob P L Φ (fun y T => H y T ∨ (y = x ∧ T = .is (.map (some r)))) o (.is (V r))) : Ob P L Φ H o (.rep (TxN N V)) := fun E w ρ hp => by
  have hv : Pers E w (NewMap N (ρ x)) := hp.x x _ hmem hx
  obtain ⟨r, hr, hN, hb⟩ := hv.now
  have h1 := h r E w ρ ⟨hp.wf, hp.l, hp.f, fun y T hy hT => by
    rcases hT with hT | ⟨rfl, rfl⟩
    · exact hp.x y T hy hT
    · exact hr⟩
  refine h1.mono ?_
  rintro v w' ⟨hk, hT⟩
  refine ⟨hk, fun w2 hk2 => ?_⟩
  have := hv w2 (hk.of_noX.trans hk2)
  obtain ⟨r', hr', hN', hb'⟩ := this
  rw [hr] at hr'
  injection hr' with hr'
  injection hr' with hr'
  subst hr'
  exact ⟨r, hT, hN', hb'⟩
theorem ob_boxM {x : Operand} {N : Nat} {e : TypeId} {V : Nat → Value} (hN : (fun w : World => N ≤ w.heap.size) ∈ Φ) (hx : H x (.rep (TxN N V))) : Ob P L Φ H ⟨dst, .box e x, ty, pos, after, g⟩ (.rep (BoxM N e V)) := fun E w ρ hp => by
  have hv : Pers E w (TxN N V (ρ x)) := hp.x x _ (by simp [Op.operands]) hx
  show Keeps noX w (w.alloc (.cells (ρ x).cells e)) ∧ _
  have hk := Keeps.alloc w (.cells (ρ x).cells e)
  refine ⟨hk, fun w2 hk2 => ?_⟩
  obtain ⟨r, hr, hNr, hb⟩ := hv w2 (hk.of_noX.trans hk2)
  refine ⟨w.heap.size, r, rfl, (hp.f _ hN).now, hNr, ?_, hb⟩
  rw [← hr]
  exact hk2.get (heap_alloc_at w _) fun h => absurd (hp.wf _ h) (Nat.lt_irrefl _)
end
section
variable {P : Program} {c : Ctx} {K K' : List (Nat × Ty)} {L : List Own} {Φ Φ0 : List (World → Prop)} {Q : Exit → Act → World → Prop}
theorem SA.claim2 {E E0 : Nat → Prop} {a : Act} {w w0 : World} {o1 o2 : Own} (hsa : SA c K L Φ E a w) (hW : c.W0.heap.size ≤ w0.heap.size) (h0 : ∀ F ∈ Φ0, Pers E0 w0 F) (hKi : K.all (fun p => p.2.isIs) = true) (hLi : AllOb L) (hM : Keeps E0 w0 ∈ Φ)
    (h1 : w.heap[o1.b]? = some (o1.T.obj o1.ety undef) ∨ ∃ v, o1.T = .is v ∧ w.heap[o1.b]? = some (.cells v.cells o1.ety (0, 0))) (hi1 : (∃ x, o1.T = .ob x) ∨ ∃ v, o1.T = .is v ∧ w.heap[o1.b]? = some (.cells v.cells o1.ety (0, 0))) (h2 : w.heap[o2.b]? = some (o2.T.obj o2.ety undef)) (hi2 : ∃ x, o2.T = .ob x) (hne : o1.b ≠ o2.b) (hE1 : ¬ E o1.b) (hE2 : ¬ E o2.b) (hN1 : w0.heap.size ≤ o1.b) (hN2 : w0.heap.size ≤ o2.b) :
    SA c K (o1 :: o2 :: L) (Keeps E0 w0 :: Φ0) (fun q => E q ∨ q = o1.b ∨ q = o2.b) a w := by
  have lt1 : o1.b < w.heap.size := by rcases h1 with h | ⟨_, _, h⟩ <;> exact lt_of_get h
  have lt2 : o2.b < w.heap.size := lt_of_get h2
  have hkp := hsa.f _ hM
  have hkp' : Pers (fun q => E q ∨ q = o1.b ∨ q = o2.b) w (Keeps E0 w0) := by
    have := keeps_claim (keeps_claim hkp hN1) hN2
    exact Pers.weak this fun b _ h => by rcases h with h | h | h; exact .inl (.inl h); exact .inl (.inr h); exact .inr h
  refine ⟨hsa.n, hsa.d, ?_, ?_, ?_, ?_, ?_, fun q hq => .inl (hsa.x q hq), hsa.xs, hsa.keeps, ?_⟩
  · rintro q (hq | rfl | rfl)
    · exact hsa.wf q hq
    · exact lt1
    · exact lt2
  · intro s T hl
    obtain ⟨v, rfl⟩ := look_is hKi s T hl
    exact hsa.k s _ hl
  · intro o ho
    rcases List.mem_cons.1 ho with rfl | ho
    · rcases hi1 with ⟨x, hx⟩ | ⟨v, hv, hb⟩
      · obtain ⟨b, e, T⟩ := o
        simp only at hx
        subst hx
        rcases h1 with h | ⟨_, hv, _⟩
        · exact at_ob h (.inr (.inl rfl))
        · cases hv
      · obtain ⟨b, e, T⟩ := o
        simp only at hv
        subst hv
        exact ⟨.inr (.inl rfl), v, hb, rfl⟩
    rcases List.mem_cons.1 ho with rfl | ho
    · obtain ⟨x, hx⟩ := hi2
      obtain ⟨b, e, T⟩ := o
      simp only at hx
      subst hx
      exact at_ob h2 (.inr (.inr rfl))
    · obtain ⟨h1, v, h2, h3⟩ := hsa.l o ho
      refine ⟨.inl h1, v, h2, ?_⟩
      rcases hLi o ho with ⟨V, e⟩ | ⟨x, e⟩
      · rw [e] at h3 ⊢; exact h3
      · rw [e]; trivial
  · rw [List.map_cons, List.map_cons, List.nodup_cons, List.nodup_cons]
    refine ⟨fun hm => ?_, fun hm => ?_, hsa.ld⟩
    · rcases List.mem_cons.1 hm with e | hm
      · exact hne e
      · obtain ⟨m, hm, e'⟩ := List.mem_map.1 hm
        exact hE1 (e' ▸ (hsa.l m hm).1)
    · obtain ⟨m, hm, e'⟩ := List.mem_map.1 hm
      exact hE2 (e' ▸ (hsa.l m hm).1)
  · intro F hF
    rcases List.mem_cons.1 hF with rfl | hF
    · exact hkp'
    · exact fun w' hk => h0 F hF w' (hkp' w' hk)
  · intro o ho
    rcases List.mem_cons.1 ho with rfl | ho
    · exact .inr (Nat.le_trans hW hN1)
    rcases List.mem_cons.1 ho with rfl | ho
    · exact .inr (Nat.le_trans hW hN2)
    · exact hsa.may o ho
theorem JO.claimBM {ops : Array Oper} {l : List Oper} {E0 : Nat → Prop} {w0 : World} {s : Nat} {e : TypeId} {V : Nat → Value} (hW : c.W0.heap.size ≤ w0.heap.size) (h0 : ∀ F ∈ Φ0, Pers E0 w0 F) (hs : look K s = some (.rep (BoxM w0.heap.size e V))) (hK : ∀ s T, look K' s = some T → look K s = some T) (hKi : K'.all (fun p => p.2.isIs) = true) (hLi : AllOb L)
    (hM : Keeps E0 w0 ∈ Φ) (hV1 : ∀ r n, (V r).cells ≠ Array.replicate n undef) (hV2 : ∀ r r', (V r).cells = (V r').cells → r = r')
    (h : ∀ b r, JO P c ((s, .is (.pointer (some ⟨b, 0, none⟩))) :: K') (⟨b, e, .is (V r)⟩ :: ⟨r, 0, .ob (mObj [] 0)⟩ :: L) (Keeps E0 w0 :: Φ0) ops l Q) : JO P c K L Φ ops l Q := by
  refine ⟨fun E a w hsa => ?_⟩
  have hv : Pers E w (BoxM w0.heap.size e V (slotOf a s)) := hsa.k s _ hs
  obtain ⟨b, r, hb, hNb, hNr, hbb, hrr⟩ := hv.now
  have hbr : b ≠ r := fun e' => by subst e'; rw [hbb] at hrr; cases hrr
  have hEb : ¬ E b := fun hE => by
    have hk : Keeps E w (w.setRow b (Array.replicate (V r).cells.size undef)) := (Keeps.setRow w b _ (V r).cells e hbb (by simp)).mono fun q _ e' => by rw [e']; exact hE
    obtain ⟨b', r', hb', _, _, hbb', _⟩ := hv _ hk
    rw [hb] at hb'
    injection hb' with hb'
    injection hb' with hb'
    injection hb' with hb'
    subst hb'
    rw [heap_setRow w b (Array.replicate (V r).cells.size undef) (V r).cells e (0, 0) hbb] at hbb'
    injection hbb' with hbb'
    injection hbb' with hbb'
    exact hV1 r' _ hbb'.symm
  have hEr : ¬ E r := fun hE => by
    have hk : Keeps E w { w with heap := w.heap.setIfInBounds r (.map #[] 1) } := (Keeps.setOb hrr (fun _ _ _ h => by cases h)).mono fun q _ e' => by rw [e']; exact hE
    obtain ⟨b', r', hb', _, _, hbb', hrr'⟩ := hv _ hk
    rw [hb] at hb'
    injection hb' with hb'
    injection hb' with hb'
    injection hb' with hb'
    subst hb'
    rw [(MapKept.heap_set hrr).2 b hbr, hbb] at hbb'
    injection hbb' with hbb'
    injection hbb' with hbb'
    have := hV2 _ _ hbb'
    subst this
    rw [(MapKept.heap_set hrr).1] at hrr'
    injection hrr' with hrr'
    injection hrr' with _ e'
    cases e'
  have hs2 : SA c ((s, .is (.pointer (some ⟨b, 0, none⟩))) :: K') L Φ E a w := ⟨hsa.n, hsa.d, hsa.wf, fun s' T hl => by
    simp only [look] at hl
    cases hq : Nat.beq s s' with
    | true =>
      rw [hq, cond_true] at hl
      injection hl with hl
      subst hl
      rw [← Nat.eq_of_beq_eq_true hq]
      exact hb
    | false =>
      rw [hq, cond_false] at hl
      exact hsa.k s' _ (hK s' _ hl), hsa.l, hsa.ld, hsa.f, hsa.x, hsa.xs, hsa.keeps, hsa.may⟩
  exact (h b r).out _ a w (hs2.claim2 (Φ0 := Φ0) (o1 := ⟨b, e, .is (V r)⟩) (o2 := ⟨r, 0, .ob (mObj [] 0)⟩) hW h0 (by rw [List.all_cons, hKi]; rfl) hLi hM (.inr ⟨_, rfl, hbb⟩) (.inr ⟨_, rfl, hbb⟩) hrr ⟨_, rfl⟩ hbr hEb hEr hNb hNr)
end
end Go.Vc

namespace Go.Vc
open Go
theorem flat_atS {α : Type} {en : α → List Value} {sz : Nat} (hen : ∀ x, (en x).length = sz) : ∀ (xs : List α) (i : Nat) (v : α), xs[i]? = some v → ((xs.flatMap en).drop (i * sz)).take sz = en v
  | [], _, _, h => by simp at h
  | x :: xs, 0, v, h => by
    simp at h
    subst h
    rw [List.flatMap_cons, Nat.zero_mul, List.drop_zero, List.take_append_of_le_length (by rw [hen]; omega), List.take_of_length_le (by rw [hen]; omega)]
  | x :: xs, i + 1, v, h => by
    have ih := flat_atS hen xs i v (by simpa using h)
    rw [List.flatMap_cons, show (i + 1) * sz = (en x).length + i * sz by rw [hen, Nat.succ_mul]; omega, List.drop_append]
    have : (en x).drop ((en x).length + i * sz) = [] := List.drop_eq_nil_of_le (by omega)
    rw [this, List.nil_append, Nat.add_sub_cancel_left]
    exact ih
theorem flat_lnS {α : Type} {en : α → List Value} {sz : Nat} (hen : ∀ x, (en x).length = sz) : ∀ (xs : List α), (xs.flatMap en).length = xs.length * sz
  | [] => by simp
  | x :: xs => by rw [List.flatMap_cons, List.length_append, hen, flat_lnS hen xs, List.length_cons, Nat.succ_mul]; omega
theorem grows_at {α : Type} {en : α → List Value} {sz : Nat} (hen : ∀ x, (en x).length = sz) {xs : List α} {b cap : Nat} {cs : List Value} (h : Grows en sz xs (some (b, cs)) cap) {i : Nat} {v : α} (hi : xs[i]? = some v) : (cs.drop (i * sz)).take sz = en v := by
  obtain ⟨h1, h2, h3⟩ := h
  have hil : i < xs.length := (List.getElem?_eq_some_iff.1 hi).1
  rw [← flat_atS hen xs i v hi, ← h3, List.drop_take, List.take_take]
  congr 1
  have : (i + 1) * sz ≤ xs.length * sz := Nat.mul_le_mul_right sz hil
  rw [Nat.succ_mul] at this
  omega
theorem grows_some {α : Type} {en : α → List Value} {sz : Nat} {xs : List α} {st : Option (Nat × List Value)} {cap : Nat} (h : Grows en sz xs st cap) (hne : 0 < xs.length) : ∃ b cs, st = some (b, cs) := by
  cases st with
  | none => rw [show xs = [] from h] at hne; exact absurd hne (by simp)
  | some p => exact ⟨p.1, p.2, rfl⟩
section
variable {P : Program} {L L0 : List Own} {Φ Φ0 : List (World → Prop)} {H : Know} {dst : Option Nat} {ty : TypeId} {pos : String} {after : Array Edge} {g : Option (Nat × Bool)} {Z : Type} {Zp : Z → Prop} {f : FuncId} {As : List Ty} {V : Value}
theorem ob_ldGr {α : Type} {en : α → List Value} {sz : Nat} (hen : ∀ x, (en x).length = sz) {xs : List α} {b off i cap : Nat} {e t : TypeId} {x : Operand} {cs : List Value} {v : α} (hs : szOf P t = some (some sz)) (hx : H x (.is (.pointer (some ⟨b, off, none⟩)))) (hm : ⟨b, e, .is (.agg cs.toArray)⟩ ∈ L) (hG : Grows en sz xs (some (b, cs)) cap) (hi : xs[i]? = some v) (ho : off = i * sz) :
    Ob P L Φ H ⟨dst, .load t x, ty, pos, after, g⟩ (.is (.agg (en v).toArray)) := by
  subst ho
  exact ob_load hx (loads_ownN (cs := en v) hs hm (by show (cs.toArray.toList.drop (i * sz)).take sz = _; simpa using grows_at hen hG hi) (hen v))
theorem ob_callBv {cal : Operand} {xs : List Operand} {ats : Array TypeId} {cp : List Value} (hf : H cal (.is (.func (.func f) #[] cp.toArray))) (hc : CallL P f L0 Φ0 (As ++ cp.map Ty.is) Zp (fun _ => L0) (fun _ => .is V)) (h0 : AllOb L0) (hL : ∀ o ∈ L0, o ∈ L) (hnd : ∀ E w, (∀ o ∈ L, o.at E w) → (L0.map (·.b)).Nodup) (hΦ : ∀ F ∈ Φ0, F ∈ Φ) (ha : Args L Φ H xs As) :
    Ob P L Φ H ⟨dst, .call { callee := .value cal, args := xs.toArray, argTypes := ats }, ty, pos, after, g⟩ (.is V) := fun E w ρ hp => by
  have h1 : ρ cal = .func (.func f) #[] cp.toArray := hp.x cal _ (by simp [Op.operands, Call.operands]) hf
  have hall := ha.all (ρ := ρ) (pre_facts hp) fun x T hx => hp.x x T (by simp [Op.operands, Call.operands, hx])
  have hcp : TyAll E w (cp.map Ty.is) cp := by
    clear hf hc h1
    induction cp with
    | nil => trivial
    | cons v cp ih => exact ⟨rfl, ih⟩
  have hM : ∀ m ∈ L0, m.at E w := fun m hm => hp.l m (hL m hm)
  have h3 := run_callL hc hΦ hp.wf hp.f (hall.append hcp) hM (hnd E w hp.l)
  simp only [execOp, resolve, h1, Deferred.ofValue, invoke, Sem.run_bind, Sem.run_pure, Result.andThen_ok, List.map_toArray]
  refine Runs.mono (by simpa using h3) ?_
  rintro v w' ⟨z, E', he⟩
  exact ⟨endL_sameOb h0 hM he, he.r⟩
end
section
variable {P : Program} {c : Ctx} {K : List (Nat × Ty)} {L Lr L0 : List Own} {Φ Φ0 : List (World → Prop)} {Q : Exit → Act → World → Prop} {Z : Type} {Zp : Z → Prop} {L1 : Z → List Own} {R : Z → Ty} {f : FuncId} {As : List Ty}
theorem JO.callLv {ops : Array Oper} {rest : List Oper} {dst : Option Nat} {ty : TypeId} {pos : String} {after : Array Edge} {cal : Operand} {xs : List Operand} {ats : Array TypeId} {cp : List Value} (hf : opTy K cal = some (.is (.func (.func f) #[] cp.toArray))) (hc : CallL P f L0 Φ0 (As ++ cp.map Ty.is) Zp L1 R) (hd : ∀ d, dst = some d → d < c.n) (hL : L.Perm (L0 ++ Lr)) (hΦ : ∀ F ∈ Φ0, F ∈ Φ) (ha : Args L Φ (Kn K) xs As)
    (hn : ∀ z, Zp z → JO P c (putK dst (R z) K) (L1 z ++ Lr) Φ ops rest Q) : JO P c K L Φ ops (⟨dst, .call { callee := .value cal, args := xs.toArray, argTypes := ats }, ty, pos, after, none⟩ :: rest) Q := by
  refine JO.stepL rfl hd hL (fun E w ρ hp hnd => ?_) hn
  have h1 : ρ cal = .func (.func f) #[] cp.toArray := hp.x cal _ (by simp [Op.operands, Call.operands]) hf
  have hall := ha.all (ρ := ρ) (pre_facts hp) fun x T hx => hp.x x T (by simp [Op.operands, Call.operands, hx])
  have hcp : TyAll E w (cp.map Ty.is) cp := by
    clear hf hc h1
    induction cp with
    | nil => trivial
    | cons v cp ih => exact ⟨rfl, ih⟩
  have h3 := run_callL hc hΦ hp.wf hp.f (hall.append hcp) (fun m hm => hp.l m (hL.mem_iff.2 (List.mem_append_left _ hm))) hnd
  simp only [execOp, resolve, h1, Deferred.ofValue, invoke, Sem.run_bind, Sem.run_pure, Result.andThen_ok, List.map_toArray]
  simpa using h3
variable {fn : Func} {n : Nat} {X : Nat → Prop} {W : World}
theorem JX.retLC {s b m : Nat} {t ety : TypeId} {cs : Array Value} (hres : fn.results = #[.cell s t]) (z : Z) (hz : Zp z) (hL : L.Perm (L1 z ++ Lr)) (hol : (L1 z).all (fun o => o.T.out) = true) (hL0 : ∀ b, b ∈ L0.map (·.b) → X b) (h : look K s = some (.is (.pointer (some ⟨b, 0, none⟩)))) (hs' : szOf P t = some (some m)) (hm : ⟨b, ety, .is (.agg cs)⟩ ∈ L) (hn : cs.size = m) (hR : R z = .is (.agg cs)) :
    JX ⟨n, X, fun q => q ∈ L0.map (·.b), W⟩ K L Φ .ret (bodyPost P fn (PostL X W L0 Zp L1 R)) :=
  JX.retLOf z hz hL hol (by rw [hR]; rfl) hL0 fun a w E hs => by
    obtain ⟨v, h1, h2⟩ := res_cell (P := P) hs' (hs.l _ hm) (agg_is hn)
    have e : a.tmps.getD s undef = .pointer (some ⟨b, 0, none⟩) := hs.k s _ h
    rw [Array.getD_eq_getD_getElem?] at e
    rw [hR]
    exact ⟨v, by simp [results, hres, Array.getD_eq_getD_getElem?, e, asAddr, h1], h2⟩
end
end Go.Vc

namespace Go.Vc
open Go
theorem flat_setS {α : Type} {en : α → List Value} {sz : Nat} (hen : ∀ x, (en x).length = sz) : ∀ (xs : List α) (i : Nat) (v : α), i < xs.length → (xs.set i v).flatMap en = splice (xs.flatMap en) (i * sz) (en v)
  | [], _, _, h => absurd h (Nat.not_lt_zero _)
  | x :: xs, 0, v, _ => by
    rw [List.set_cons_zero, List.flatMap_cons, List.flatMap_cons, splice, Nat.zero_mul, List.take_zero, List.nil_append, Nat.zero_add, hen, List.drop_append_of_le_length (by rw [hen]; omega), List.drop_eq_nil_of_le (by rw [hen]; omega), List.nil_append]
  | x :: xs, i + 1, v, h => by
    have ih := flat_setS hen xs i v (by simpa using h)
    have e1 : (i + 1) * sz = (en x).length + i * sz := by rw [hen, Nat.succ_mul]; omega
    rw [List.set_cons_succ, List.flatMap_cons, List.flatMap_cons, ih, splice, splice, e1, List.take_append, Nat.add_sub_cancel_left, List.take_of_length_le (l := en x) (by omega), show (en x).length + i * sz + (en v).length = (en x).length + (i * sz + (en v).length) by omega, List.drop_append, Nat.add_sub_cancel_left, List.drop_eq_nil_of_le (as := en x) (by omega), List.nil_append]
    simp [List.append_assoc]
theorem splice_take {cs ys : List Value} {off n : Nat} (h : off + ys.length ≤ n) (hn : n ≤ cs.length) : (splice cs off ys).take n = splice (cs.take n) off ys := by
  unfold splice
  rw [List.take_append, List.take_append, List.length_append, List.length_take, List.take_take, List.drop_take]
  have e1 : min off cs.length = off := by omega
  have e2 : min n off = min off n := Nat.min_comm _ _
  rw [e1, e2, List.take_of_length_le (l := ys) (by omega), List.take_take]
theorem grows_set {α : Type} {en : α → List Value} {sz : Nat} (hen : ∀ x, (en x).length = sz) {xs : List α} {b cap : Nat} {cs : List Value} (h : Grows en sz xs (some (b, cs)) cap) {i : Nat} (hi : i < xs.length) (v : α) : Grows en sz (xs.set i v) (some (b, splice cs (i * sz) (en v))) cap := by
  obtain ⟨h1, h2, h3⟩ := h
  have h4 : (i + 1) * sz ≤ xs.length * sz := Nat.mul_le_mul_right sz hi
  have h5 : xs.length * sz ≤ cap * sz := Nat.mul_le_mul_right sz h2
  rw [Nat.succ_mul] at h4
  refine ⟨?_, by rw [List.length_set]; exact h2, ?_⟩
  · rw [splice_len (by rw [hen]; omega)]; exact h1
  · rw [List.length_set, flat_setS hen xs i v hi, ← h3, splice_take (by rw [hen]; omega) (by omega)]
theorem grows_fill {α : Type} {en : α → List Value} {sz : Nat} (hen : ∀ x, (en x).length = sz) {xs : List α} {b cap : Nat} {cs : List Value} (h : Grows en sz xs (some (b, cs)) cap) {i : Nat} (hi : i ≤ xs.length) (zs : List α) (hz : i + zs.length = xs.length) : Grows en sz (xs.take i ++ zs) (some (b, splice cs (i * sz) (zs.flatMap en))) cap := by
  obtain ⟨h1, h2, h3⟩ := h
  have h5 : xs.length * sz ≤ cap * sz := Nat.mul_le_mul_right sz h2
  have h6 : (zs.flatMap en).length = zs.length * sz := flat_lnS hen zs
  have h7 : i * sz + zs.length * sz = xs.length * sz := by rw [← Nat.add_mul, hz]
  have hl : (xs.take i ++ zs).length = xs.length := by rw [List.length_append, List.length_take]; omega
  refine ⟨?_, by rw [hl]; exact h2, ?_⟩
  · rw [splice_len (by omega)]; exact h1
  · rw [hl, splice_take (by omega) (by omega), h3, List.flatMap_append, splice]
    have e1 : (xs.flatMap en).take (i * sz) = (xs.take i).flatMap en := by
      conv => lhs; rw [← List.take_append_drop i xs, List.flatMap_append]
      have : ((xs.take i).flatMap en).length = i * sz := by rw [flat_lnS hen, List.length_take]; congr 1; omega
      rw [List.take_append_of_le_length (by omega), List.take_of_length_le (by omega)]
    rw [e1, List.drop_eq_nil_of_le (by rw [flat_lnS hen]; omega), List.append_nil]
theorem grows_take {α : Type} {en : α → List Value} {sz : Nat} (hen : ∀ x, (en x).length = sz) {xs : List α} {b cap : Nat} {cs : List Value} (h : Grows en sz xs (some (b, cs)) cap) {i : Nat} (hi : i ≤ xs.length) : Grows en sz (xs.take i) (some (b, cs)) cap := by
  obtain ⟨h1, h2, h3⟩ := h
  have h7 : i * sz ≤ xs.length * sz := Nat.mul_le_mul_right sz hi
  refine ⟨h1, by rw [List.length_take]; omega, ?_⟩
  have e : min i xs.length = i := by omega
  rw [List.length_take, e]
  have e1 : (xs.flatMap en).take (i * sz) = (xs.take i).flatMap en := by
    conv => lhs; rw [← List.take_append_drop i xs, List.flatMap_append]
    have : ((xs.take i).flatMap en).length = i * sz := by rw [flat_lnS hen, List.length_take, e]
    rw [List.take_append_of_le_length (by omega), List.take_of_length_le (by omega)]
  rw [← e1, ← h3, List.take_take]
  congr 1
  omega
section
variable {P : Program} {L : List Own} {Φ : List (World → Prop)} {H : Know} {dst : Option Nat} {ty : TypeId} {pos : String} {after : Array Edge} {g : Option (Nat × Bool)}
theorem obm_storeGr {α : Type} {en : α → List Value} {sz : Nat} (hen : ∀ x, (en x).length = sz) (hone : ∀ x, (en x).all (·.oneCell') = true) {xs : List α} {M M' : List Own} {t : TypeId} {p x : Operand} {b off i cap : Nat} {e : TypeId} {cs : List Value} {v : α} (hs : (P.info? t).map (·.size) = some sz) (hp' : H p (.is (.pointer (some ⟨b, off, none⟩)))) (hx : H x (.is (.agg (en v).toArray))) (hG : Grows en sz xs (some (b, cs)) cap) (hi : i < xs.length) (ho : off = i * sz)
    (hu : Upd M ⟨b, e, .is (.agg cs.toArray)⟩ ⟨b, e, .is (.agg (splice cs (i * sz) (en v)).toArray)⟩ M') : ObM P L Φ H M ⟨none, .store t p x, ty, pos, after, g⟩ .any M' := by
  subst ho
  obtain ⟨h1, h2, h3⟩ := hG
  have h4 : (i + 1) * sz ≤ cap * sz := Nat.mul_le_mul_right sz (by omega)
  rw [Nat.succ_mul] at h4
  exact obm_storeF (n := sz) hp' hx hu (by simp [Value.cells]) (by simp [Value.cells, hen]) (by simpa [Value.cells] using hone v) (Nat.ble_eq_true_of_le (by omega)) hs
theorem zeroCells_rep {zs : List Value} : ∀ n, (Builtin.zeroCells zs.toArray n).toList = (List.replicate n zs).flatten := by
  intro n
  unfold Builtin.zeroCells
  induction n with
  | zero => simp
  | succ n ih =>
    rw [List.replicate_succ', List.flatten_append, ← ih]
    by_cases h0 : zs.length = 0
    · have : zs = [] := List.length_eq_zero_iff.1 h0
      subst this
      simp
    · have hsz : zs.toArray.size = zs.length := by simp
      apply List.ext_getElem?
      intro i
      simp only [Array.toList_map, List.getElem?_map, hsz]
      rw [List.getElem?_append]
      simp only [Array.toList_range, List.getElem?_range', List.length_map, List.length_range, List.flatten_cons, List.flatten_nil, List.append_nil]
      by_cases h1 : i < n * zs.length
      · rw [if_pos h1]
        simp [List.getElem?_range, h1, show i < (n + 1) * zs.length by rw [Nat.succ_mul]; omega]
      · rw [if_neg h1]
        by_cases h2 : i < (n + 1) * zs.length
        · rw [Nat.succ_mul] at h2
          have h3 : i % zs.length = i - n * zs.length := by
            have : i = (i - n * zs.length) + n * zs.length := by omega
            rw [this, Nat.add_mul_mod_self_right, Nat.mod_eq_of_lt (by omega)]
            omega
          have h4 : i - n * zs.length < zs.length := by omega
          simp [List.getElem?_range, show i < (n + 1) * zs.length by rw [Nat.succ_mul]; omega, h3, h4]
        · rw [Nat.succ_mul] at h2
          rw [List.getElem?_eq_none (l := zs) (by omega)]
          simp [List.getElem?_range, show ¬ i < (n + 1) * zs.length by rw [Nat.succ_mul]; omega]
theorem obm_clear {t e' : TypeId} {x : Operand} {M M' : List Own} {b off n cap' sz : Nat} {e : TypeId} {cs zs : List Value} (hu' : P.underlying t = some (.slice e')) (hz : (zeroOf P e').map (fun v => v.cells.toList) = some zs) (hzl : zs.length = sz) (hone : zs.all (·.oneCell') = true)
    (hx : H x (.is (.slice (some ⟨b, off, none⟩) n cap'))) (hl : off + n * sz ≤ cs.length) (hu : Upd M ⟨b, e, .is (.agg cs.toArray)⟩ ⟨b, e, .is (.agg (splice cs off (List.replicate n zs).flatten).toArray)⟩ M') :
    ObM P L Φ H M ⟨none, .call { callee := .builtin .clear, args := #[x], argTypes := #[t] }, ty, pos, after, g⟩ .any M' := fun E w ρ hp hM hnd => by
  have e1 : ρ x = .slice (some ⟨b, off, none⟩) n cap' := hp.x x _ (by simp [Op.operands, Call.operands]) hx
  have hE := (hM _ hu.mem).1
  have hb0 : w.heap[b]? = some (.cells cs.toArray e (0, 0)) := own_blk (hM _ hu.mem) rfl
  have hlen : ((List.replicate n zs).flatten).length = n * sz := by rw [List.length_flatten, List.map_replicate, List.sum_replicate_nat, hzl]
  have hone' : ∀ u ∈ (List.replicate n zs).flatten, u.oneCell' = true := fun u hu => by
    obtain ⟨l, hl, hm⟩ := List.mem_flatten.1 hu
    rw [(List.mem_replicate.1 hl).2] at hm
    exact List.all_eq_true.1 hone u hm
  have hst := run_storeCells_at (P := P) b off e (List.replicate n zs).flatten 0 cs.toArray w hb0 (by rw [hlen]; simp; omega) hone'
  have hzv : ∃ z, (zeroValue e').run P w = .ok z w ∧ z.cells.toList = zs := by
    unfold zeroOf at hz
    cases hi : P.info? e' with
    | none => rw [hi] at hz; cases hz
    | some i =>
      rw [hi, Option.bind_some] at hz
      cases hq : i.zero with
      | none => rw [hq] at hz; cases hz
      | some z =>
        rw [hq] at hz
        injection hz with hz
        exact ⟨z, by simp [zeroValue, typeInfo, hi, hq], hz⟩
  obtain ⟨z, hzr, hzc⟩ := hzv
  have hinv : ∀ w', (Builtin.clear_ #[t] ty #[.slice (some ⟨b, off, none⟩) n cap']).run P w = .ok (.tuple #[]) w' → (execOp ρ ⟨none, .call { callee := .builtin .clear, args := #[x], argTypes := #[t] }, ty, pos, after, g⟩).run P w = .ok (.value (.tuple #[])) w' := fun w' h => by
    simp [execOp, resolve, invoke, builtin, e1, h]
  cases n with
  | zero =>
    have hcl : (Builtin.clear_ #[t] ty #[.slice (some ⟨b, off, none⟩) 0 cap']).run P w = .ok (.tuple #[]) w := by
      unfold Builtin.clear_
      simp [run_underlying hu']
    rw [hinv _ hcl]
    refine ⟨.refl _ _, trivial, hu.all hnd (fun m hm _ => hM m hm) ?_⟩
    have e2 : splice cs off (List.replicate 0 zs).flatten = cs := by simp [splice]
    exact ⟨hE, .agg cs.toArray, hb0, by rw [e2]; rfl⟩
  | succ n =>
    have hcl : (Builtin.clear_ #[t] ty #[.slice (some ⟨b, off, none⟩) (n + 1) cap']).run P w = .ok (.tuple #[]) (w.setRow b (splice cs off (List.replicate (n + 1) zs).flatten).toArray) := by
      unfold Builtin.clear_
      have hzc' : (Builtin.zeroCells z.cells (n + 1)).toList = (List.replicate (n + 1) zs).flatten := by
        rw [← hzc]
        have := zeroCells_rep (zs := z.cells.toList) (n + 1)
        simpa using this
      simp only [Nat.add_zero] at hst
      simp [run_underlying hu', hzr, hzc', hst, splice]
    rw [hinv _ hcl]
    have hln : (splice cs off (List.replicate (n + 1) zs).flatten).toArray.size = cs.toArray.size := by simp [splice_len (show off + ((List.replicate (n + 1) zs).flatten).length ≤ cs.length by rw [hlen]; exact hl)]
    have hk := Keeps.setRow w b (splice cs off (List.replicate (n + 1) zs).flatten).toArray cs.toArray e hb0 hln
    have hev : Ev E w E (w.setRow b (splice cs off (List.replicate (n + 1) zs).flatten).toArray) := Ev.of_keeps (hk.mono fun q _ e => by rw [e]; exact hE)
    exact ⟨hk.mono fun q _ e => by rw [e]; exact List.mem_map_of_mem hu.mem, trivial, hu.all hnd (fun m hm hne => Own.keep (hM m hm) hev (heap_setRow_ne w b _ hne)) ⟨hE, .agg (splice cs off (List.replicate (n + 1) zs).flatten).toArray, heap_setRow w b _ _ _ _ hb0, rfl⟩⟩
end
end Go.Vc

namespace Go.Vc
open Go
section
variable {α : Type} {en : α → List Value} {sz : Nat} {P : Program} {c : Ctx} {K : List (Nat × Ty)} {L : List Own} {Φ : List (World → Prop)} {Q : Exit → Act → World → Prop}
theorem src_ownG {tx e' e : TypeId} {xs : List α} {st : Option (Nat × List Value)} {cap : Nat} (hsz : ∀ x, (en x).length = sz) (h1 : ∀ x, ∀ u ∈ en x, u.oneCell' = true) (hk : P.underlying tx = some (.slice e')) (hm : ∀ p, st = some p → (⟨p.1, e, .is (.agg p.2.toArray)⟩ : Own) ∈ L) (hG : Grows en sz xs st cap) :
    SrcOf P L Φ sz tx (.is (.slice (adO st) xs.length (capO st cap))) xs.length (xs.flatMap en) := fun E w v hL hΦ h => by
  rw [show v = _ from h]
  have hone : ∀ u ∈ xs.flatMap en, u.oneCell' = true := fun u hu => by
    obtain ⟨y, _, hy⟩ := List.mem_flatMap.1 hu
    exact h1 y u hy
  cases st with
  | none =>
    have : xs = [] := hG
    subst this
    exact Src.ofNil w hk _
  | some p =>
    obtain ⟨b, cs⟩ := p
    have hb := own_blk (hL _ (hm _ rfl)) rfl
    refine Src.ofSlice w hk ⟨b, 0, none⟩ xs.length cap _ (flat_len hsz) (fun j u hj => ?_) hone
    rw [add_at, cell_of_blk hb, Nat.zero_add]
    rw [← hG.2.2, List.getElem?_take] at hj
    split at hj
    · show (cs.toArray)[j]? = some u
      simpa using hj
    · cases hj
theorem JO.apSL {L' : List Own} {d : Nat} {ops : Array Oper} {rest : List Oper} {ty t tx e : TypeId} {pos : String} {after : Array Edge} {s x : Operand} {bytes cap : Nat} {xs : List α} (ys : List α) {p : Nat × List Value} {TX : Ty} {C : Option (Nat × List Value) → List Own}
    (hT : ApTy P t e sz bytes) (hC : Cx e L (some p) C L') (hG : Grows en sz xs (some p) cap) (h0 : opTy K s = some (.is (sliceO (some p) xs.length cap))) (hx : opTy K x = some TX) (hS : SrcOf P (⟨p.1, e, .is (.agg p.2.toArray)⟩ :: L') Φ sz tx TX ys.length (ys.flatMap en)) (hfit : (xs.length + ys.length) * bytes ≤ 140737488355328) (h63 : xs.length + ys.length ≤ 9223372036854775807) (hd : Nat.blt d c.n = true)
    (hn : ∀ (p' : Nat × List Value) (cap' : Nat), Grows en sz (xs ++ ys) (some p') cap' → JO P c ((d, .is (sliceO (some p') (xs ++ ys).length cap')) :: K) (C (some p')) Φ ops rest Q) :
    JO P c K L Φ ops (⟨some d, .call { callee := .builtin .append, args := #[s, x], argTypes := #[t, tx] }, ty, pos, after, none⟩ :: rest) Q := by
  refine JO.subL hC.tl.perm ?_
  obtain ⟨b, cs⟩ := p
  obtain ⟨h1, h2, h3⟩ := hG
  refine JO.ap hT h0 hx hS h1 h2 hfit h63 hd fun b' cap' cs' k1 k2 k3 => ?_
  have := hn (b', cs') cap' ⟨k1, by rw [List.length_append]; exact k2, by rw [List.length_append, k3, h3, List.flatMap_append]⟩
  have h4 := JO.subL (hC.back (some (b', cs'))) this
  simpa [sliceO, ownO] using h4
end
section
variable {P : Program} {L L0 : List Own} {Φ Φ0 : List (World → Prop)} {H : Know} {dst : Option Nat} {ty : TypeId} {pos : String} {after : Array Edge} {g : Option (Nat × Bool)} {Z : Type} {Zp : Z → Prop} {f : FuncId} {As : List Ty}
theorem ob_callR {R : Value → World → Prop} {xs : List Operand} {ats : Array TypeId} (hf : H (.func f) (.is (.func (.func f) #[] #[]))) (hc : CallL P f L0 Φ0 As Zp (fun _ => L0) (fun _ => .rep R)) (h0 : AllOb L0) (hL : ∀ o ∈ L0, o ∈ L) (hnd : ∀ E w, (∀ o ∈ L, o.at E w) → (L0.map (·.b)).Nodup) (hΦ : ∀ F ∈ Φ0, F ∈ Φ) (ha : Args L Φ H xs As) :
    Ob P L Φ H ⟨dst, .call { callee := .value (.func f), args := xs.toArray, argTypes := ats }, ty, pos, after, g⟩ (.rep R) := fun E w ρ hp => by
  have h1 : ρ (.func f) = .func (.func f) #[] #[] := hp.x (.func f) (.is (.func (.func f) #[] #[])) (by simp [Op.operands, Call.operands]) hf
  have hall := ha.all (ρ := ρ) (pre_facts hp) fun x T hx => hp.x x T (by simp [Op.operands, Call.operands, hx])
  have hM : ∀ m ∈ L0, m.at E w := fun m hm => hp.l m (hL m hm)
  have h3 := run_callL hc hΦ hp.wf hp.f hall hM (hnd E w hp.l)
  simp only [execOp, resolve, h1, Deferred.ofValue, invoke, Sem.run_bind, Sem.run_pure, Result.andThen_ok, List.map_toArray]
  refine Runs.mono (by simpa using h3) ?_
  rintro v w' ⟨z, E', he⟩
  refine ⟨endL_sameOb h0 hM he, ?_⟩
  have hr : Pers E' w' (R v) := he.r
  exact Pers.weak hr fun b hb hE => (he.same b (hp.wf b hE)).2 hE
end
end Go.Vc

namespace Go.Vc
open Go
section
variable {P : Program} {L Lr L0 : List Own} {Φ Φ0 : List (World → Prop)} {H : Know} {Z : Type} {Zp : Z → Prop} {L1 : Z → List Own} {R : Z → Ty} {f : FuncId} {As : List Ty}
end
end Go.Vc

namespace Go.Vc
open Go
section
variable {P : Program} {c : Ctx} {K : List (Nat × Ty)} {L : List Own} {Φ : List (World → Prop)} {Q : Exit → Act → World → Prop}
theorem JO.gd {ops : Array Oper} {o : Oper} {rest : List Oper} {g s : Nat} {b : Bool} (hg : o.guard = some (g, b)) (hs : ((ops[g]?).bind (·.dst)) = some s) (hk : look K s = some (.is (.bool b))) (h : JO P c K L Φ ops ({ o with guard := none } :: rest) Q) : JO P c K L Φ ops (o :: rest) Q := by
  refine ⟨fun E a w ha => ?_⟩
  have h1 := h.out E a w ha
  have h2 : slotOf a s = .bool b := ha.k s _ hk
  have h3 := wanted_of hg hs h2
  unfold wpList at h1 ⊢
  rw [h3]
  have h4 : Region.wanted ({ o with guard := none } : Oper) (yielded ops a.tmps) = true := rfl
  rw [h4] at h1
  simp only [beq_self_eq_true, if_true] at h1 ⊢
  exact h1
end
section
variable {P : Program} {f : FuncId} {L0 Lr : List Own} {Φ0 Φ1 : List (World → Prop)} {As : List Ty} {Z Z' : Type} {Zp : Z → Prop} {Zp' : Z' → Prop} {L1 : Z → List Own} {L1' : Z' → List Own} {R : Z → Ty} {R' : Z' → Ty}
theorem CallL.map (h : CallL P f L0 Φ0 As Zp L1 R) (g : Z → Z') (hz : ∀ z, Zp z → Zp' (g z)) (hL : ∀ z, Zp z → L1 z = L1' (g z)) (hR : ∀ z, Zp z → R z = R' (g z)) : CallL P f L0 Φ0 As Zp' L1' R' :=
  ⟨h.enter, fun E w vs hw hM hnd hΦ ht => Calls.mono (h.calls E w vs hw hM hnd hΦ ht) (by
    rintro e w' ⟨v, z, E', rfl, he⟩
    refine ⟨v, g z, E', rfl, hz z he.zp, he.k, he.same, he.wf, ?_, ?_, ?_, ?_⟩
    · rw [← hL z he.zp]; exact he.l
    · rw [← hL z he.zp]; exact he.nd
    · rw [← hL z he.zp]; exact he.inn
    · rw [← hR z he.zp]; exact he.r)⟩
theorem CallL.imp (h : CallL P f L0 Φ0 As Zp L1 R) (hs : ∀ E w, (∀ G ∈ Φ1, Pers E w G) → ∀ F ∈ Φ0, Pers E w F) : CallL P f L0 Φ1 As Zp L1 R :=
  ⟨h.enter, fun E w vs hw hM hnd hΦ ht => h.calls E w vs hw hM hnd (hs E w hΦ) ht⟩
end
section
variable {P : Program} {c : Ctx} {K : List (Nat × Ty)} {L Lr L0 : List Own} {Φ Φ0 : List (World → Prop)} {Q : Exit → Act → World → Prop} {Z : Type} {Zp : Z → Prop} {L1 : Z → List Own} {R : Z → Ty} {f : FuncId} {As : List Ty}
theorem JO.callK {ops : Array Oper} {rest : List Oper} {d : Nat} {ty : TypeId} {pos : String} {after : Array Edge} {xs : List Operand} {ats : Array TypeId} (hc : CallL P f L0 Φ0 As Zp L1 R) (hd : Nat.blt d c.n = true) (hL : L.Perm (L0 ++ Lr)) (hΦ : ∀ F ∈ Φ0, F ∈ Φ) (ha : Args L Φ (Kn K) xs As)
    (hn : ∀ z, Zp z → JO P c ((d, R z) :: K) (L1 z ++ Lr) Φ ops rest Q) : JO P c K L Φ ops (⟨some d, .call { callee := .value (.func f), args := xs.toArray, argTypes := ats }, ty, pos, after, none⟩ :: rest) Q :=
  JO.callL hc (fun d' e => by injection e with e; subst e; exact Nat.blt_eq.mp hd) hL hΦ ha hn
theorem none_in : ∀ F ∈ ([] : List (World → Prop)), F ∈ Φ := fun _ h => by cases h
theorem one_in {F : World → Prop} (h : F ∈ Φ) : ∀ G ∈ [F], G ∈ Φ := fun G hG => by rw [List.mem_singleton.1 hG]; exact h
theorem two_in {F G : World → Prop} (h : F ∈ Φ) (h' : G ∈ Φ) : ∀ H ∈ [F, G], H ∈ Φ := fun H hH => by
  rcases List.mem_cons.1 hH with rfl | hH
  · exact h
  · rw [List.mem_singleton.1 hH]; exact h'
theorem pm_nil (L : List Own) : L.Perm ([] ++ L) := .of_eq (List.nil_append L).symm
theorem pm_app (A X R : List Own) : (A ++ (X ++ R)).Perm (X ++ (A ++ R)) := by
  rw [← List.append_assoc, ← List.append_assoc]; exact List.perm_append_comm.append_right R
end
section
variable {P : Program} {f : FuncId} {L0 L0' F : List Own} {Φ0 : List (World → Prop)} {As : List Ty} {Z : Type} {Zp : Z → Prop} {L1 L1' : Z → List Own} {R : Z → Ty}
theorem CallL.frame (h : CallL P f L0 Φ0 As Zp L1 R) (h0 : L0'.Perm (L0 ++ F)) (h1 : ∀ z, Zp z → (L1' z).Perm (L1 z ++ F)) : CallL P f L0' Φ0 As Zp L1' R :=
  ⟨h.enter, fun E w vs hw hM hnd hΦ ht => by
    have hnd' : ((L0 ++ F).map (·.b)).Nodup := ((h0.map _).nodup_iff).1 hnd
    rw [List.map_append, List.nodup_append] at hnd'
    have hin : ∀ o ∈ L0, o ∈ L0' := fun o ho => h0.mem_iff.2 (List.mem_append_left _ ho)
    have hif : ∀ o ∈ F, o ∈ L0' := fun o ho => h0.mem_iff.2 (List.mem_append_right _ ho)
    refine Calls.mono (h.calls E w vs hw (fun o ho => hM o (hin o ho)) hnd'.1 hΦ ht) ?_
    rintro e w' ⟨v, z, E', rfl, he⟩
    have hsub : ∀ b, b ∈ L0.map (·.b) → E b := fun b hb => by obtain ⟨m, hm, rfl⟩ := List.mem_map.1 hb; exact (hM m (hin m hm)).1
    have hev : Ev E w E' w' := ⟨he.k.mono (fun b _ => hsub b), he.same⟩
    refine ⟨v, z, E', rfl, he.zp, he.k.mono (fun b _ hb => ?_), he.same, he.wf, fun o ho => ?_, ?_, fun o ho => ?_, he.r⟩
    · obtain ⟨m, hm, rfl⟩ := List.mem_map.1 hb; exact List.mem_map_of_mem (hin m hm)
    · rcases List.mem_append.1 ((h1 z he.zp).mem_iff.1 ho) with ho | ho
      · exact he.l o ho
      · have h2 := hM o (hif o ho)
        exact Own.keep h2 hev (he.k.blk _ (hw _ h2.1) fun hm => hnd'.2.2 _ hm _ (List.mem_map_of_mem ho) rfl)
    · refine (((h1 z he.zp).map _).nodup_iff).2 ?_
      rw [List.map_append, List.nodup_append]
      refine ⟨he.nd, hnd'.2.1, fun b hb b' hb' e => ?_⟩
      subst e
      obtain ⟨m, hm, rfl⟩ := List.mem_map.1 hb
      obtain ⟨m', hm', e'⟩ := List.mem_map.1 hb'
      rcases he.inn m hm with h2 | h2
      · exact hnd'.2.2 _ h2 _ hb' rfl
      · have := hw m'.b (hM m' (hif m' hm')).1
        have e2 : m'.b = m.b := e'
        omega
    · rcases List.mem_append.1 ((h1 z he.zp).mem_iff.1 ho) with ho | ho
      · rcases he.inn o ho with h2 | h2
        · obtain ⟨m, hm, e⟩ := List.mem_map.1 h2
          exact .inl (e ▸ List.mem_map_of_mem (hin m hm))
        · exact .inr h2
      · exact .inl (List.mem_map_of_mem (hif o ho))⟩
theorem CallL.toTy {V : Value} (h : CallL P f [] [] As (fun _ : Unit => True) (fun _ => []) (fun _ => .is V)) : CallTy P f As (.is V) :=
  ⟨h.enter, fun E w vs hw ht => Calls.mono (h.calls E w vs hw (fun _ h => by cases h) List.nodup_nil (fun _ h => by cases h) ht) (by
    rintro e w' ⟨v, z, E', rfl, he⟩
    exact ⟨v, rfl, he.k.mono (fun b _ hb => by cases hb), he.r⟩)⟩
end
section
variable {P : Program} {c : Ctx} {K : List (Nat × Ty)} {L : List Own} {Φ : List (World → Prop)} {Q : Exit → Act → World → Prop}
theorem J.loopH {α : Type} {body : Code} (Kf : α → List (Nat × Ty)) (Lf : α → List Own) (Ff : α → World → Prop) (inv : α → Prop) (μ : α → Nat) (x0 : α) (ss : List Nat) (h0 : Sel K ss (Kf x0)) (hL : Lf x0 = L) (hF : ∀ E w, (∀ G ∈ Φ, Pers E w G) → Pers E w (Ff x0)) (hi : inv x0)
    (h : ∀ x, inv x → J P c (Kf x) (Lf x) (Ff x :: Φ) body (Exit.then (fun a w => ∃ x', inv x' ∧ μ x' < μ x ∧ ∃ E, SA c (Kf x') (Lf x') (Ff x' :: Φ) E a w) Q)) : J P c K L Φ (.loop body) Q :=
  J.sel ss h0 (J.fact (Ff x0) (fun E w hG _ => hF E w hG) (J.loop Kf Lf (fun x => Ff x :: Φ) inv μ x0 ⟨rfl, hL, rfl⟩ hi h))
end
end Go.Vc

namespace Go.Vc
open Go
section
variable {P : Program} {L : List Own} {Φ : List (World → Prop)} {H : Know} {dst : Option Nat} {ty : TypeId} {pos : String} {after : Array Edge} {g : Option (Nat × Bool)}
end
section
variable {P : Program} {K : List (Nat × Ty)} {L Lr L0 : List Own} {Φ : List (World → Prop)} {Z : Type} {Zp : Z → Prop} {L1 : Z → List Own} {R : Z → Ty} {fn : Func} {n : Nat} {X : Nat → Prop} {W : World}
end
section
variable {P : Program} {c : Ctx} {K : List (Nat × Ty)} {L : List Own} {Φ : List (World → Prop)} {Q : Exit → Act → World → Prop}
end
section
variable {P : Program} {f : FuncId} {L0 : List Own} {Φ0 : List (World → Prop)} {As : List Ty} {Z Z' : Type} {Zp : Z → Prop} {Zp' : Z' → Prop} {L1 : Z → List Own} {L1' : Z' → List Own} {R : Z → Ty} {R' : Z' → Ty}
end
theorem J.subP {P : Program} {c : Ctx} {K : List (Nat × Ty)} {L L' : List Own} {Φ : List (World → Prop)} {Q : Exit → Act → World → Prop} {x : Code} (hp : L'.Perm L) (h : J P c K L' Φ x Q) : J P c K L Φ x Q :=
  ⟨fun E a w hs => h.out E a w (hs.sub (fun _ _ => id) (fun o ho => hp.mem_iff.1 ho) (((hp.map _).nodup_iff).2 hs.ld) (fun _ => id))⟩
end Go.Vc
