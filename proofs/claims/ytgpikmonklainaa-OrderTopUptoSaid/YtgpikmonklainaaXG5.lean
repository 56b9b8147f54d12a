/- The program logic, part 6. No condition. -/
import Derived.Test.YtgpikmonklainaaXG4
namespace Go.Vc
open Go
structure RV where
  row : List V3
  a : Option Addr
  len : Nat
  cap : Nat
abbrev RV.v (p : RV) : Value := .slice p.a p.len p.cap
def RV.c (p : RV) : List Value := [.slice p.a p.len p.cap]
theorem RV.c_len (p : RV) : p.c.length = 1 := rfl
theorem RV.c_one (p : RV) : ∀ u ∈ p.c, u.oneCell' = true := fun u h => by
  rw [List.mem_singleton.1 h]; rfl
def RV.ok (p : RV) (w : World) : Prop := p.len ≤ p.cap ∧ RowR p.row p.a p.len w
def RVF (ps : List RV) (w : World) : Prop := ∀ p ∈ ps, p.ok w
abbrev RvG := List RV → Option Addr → Nat → Nat → World → Prop
def RowsR (G : RvG) (rows : List (List V3)) (v : Value) (w : World) : Prop := ∃ ps a len cap, ps.map RV.row = rows ∧ v = .slice a len cap ∧ len ≤ cap ∧ RowG RV.c 1 ps a len w ∧ RVF ps w ∧ G ps a len cap w
abbrev noG : RvG := fun _ _ _ _ _ => True
theorem rowG_off {ps : List RV} {b o len : Nat} {w : World} (h : RowG RV.c 1 ps (some ⟨b, o, none⟩) len w) (i : Nat) (p : RV) (hp : ps[i]? = some p) : w.cell? ⟨b, o + i, none⟩ = some p.v := by
  have := rowG_get h hp 0 p.v rfl
  simpa using this
theorem rv_ext {p q : RV} (h1 : p.row = q.row) (h2 : p.v = q.v) : p = q := by
  cases p; cases q
  simp_all
theorem cell_blk {w : World} {b o : Nat} {u : Value} (h : w.cell? ⟨b, o, none⟩ = some u) : ∃ (cs : Array Value) (t : TypeId) (fr : Nat × Nat), w.heap[b]? = some (.cells cs t fr) ∧ cs[o]? = some u := by
  unfold World.cell? at h
  split at h
  · rename_i cs t fr hb
    exact ⟨cs, t, fr, hb, by simpa using h⟩
  · cases h
theorem rows_fix {G : RvG} {rows : List (List V3)} {E : Nat → Prop} {v : Value} {w : World} (h : Pers E w (RowsR G rows v)) :
    ∃ ps a len cap, ps.map RV.row = rows ∧ v = .slice a len cap ∧ len ≤ cap ∧ ps.length = len ∧ (∃ b o, len ≠ 0 → a = some ⟨b, o, none⟩) ∧ Pers E w (RowG RV.c 1 ps a len) ∧ Pers E w (RVF ps) ∧ Pers E w (G ps a len cap) := by
  obtain ⟨ps, a, len, cap, hm, hv, hlc, hR, hF, hG⟩ := h.now
  have hb : ∃ b o, len ≠ 0 → a = some ⟨b, o, none⟩ := by
    by_cases hn : len = 0
    · exact ⟨0, 0, fun h => absurd hn h⟩
    · obtain ⟨b, o, e, _⟩ := hR.2 hn
      exact ⟨b, o, fun _ => e⟩
  have hne : ∀ b o, a = some ⟨b, o, none⟩ → len ≠ 0 → ¬ E b := by
    rintro b o rfl h0 hE
    have hl : 0 < ps.length := by rw [hR.1]; omega
    have h1 := rowG_off hR 0 ps[0] (List.getElem?_eq_getElem hl)
    obtain ⟨cs, t, fr, hb1, hb2⟩ := cell_blk h1
    have hbs := lt_of_get hb1
    have hk : Keeps E w { w with heap := w.heap.setIfInBounds b (.cells (Array.replicate cs.size undef) t fr) } := by
      refine ⟨rfl, rfl, rfl, by simp, fun q hq hx => ?_, fun q cs' t' fr' hq => ?_⟩
      · show (w.heap.setIfInBounds b _)[q]? = _
        rw [Array.getElem?_setIfInBounds_ne (fun e : b = q => hx (by rw [← e]; exact hE))]
      · by_cases e : b = q
        · subst e
          rw [hb1] at hq
          injection hq with hq
          injection hq with e1 e2 e3
          subst e1 e2 e3
          exact ⟨Array.replicate cs.size undef, by show (w.heap.setIfInBounds b _)[b]? = _; simp [hbs], by simp⟩
        · exact ⟨cs', by show (w.heap.setIfInBounds b _)[q]? = _; rw [Array.getElem?_setIfInBounds_ne e]; exact hq, rfl⟩
    obtain ⟨ps', a', len', cap', hm', hv', _, hR', _⟩ := h _ hk
    rw [hv] at hv'
    injection hv' with e1 e2 e3
    subst e1 e2 e3
    have hl' : 0 < ps'.length := by rw [hR'.1]; omega
    have h2 := rowG_off hR' 0 ps'[0] (List.getElem?_eq_getElem hl')
    have hb' : ({ w with heap := w.heap.setIfInBounds b (.cells (Array.replicate cs.size undef) t fr) } : World).heap[b]? = some (.cells (Array.replicate cs.size undef) t fr) := by
      show (w.heap.setIfInBounds b _)[b]? = _
      simp [hbs]
    rw [cell_of_blk hb'] at h2
    have h3 : (o + 0) < cs.size := (Array.getElem?_eq_some_iff.1 hb2).1
    rw [Array.getElem?_eq_getElem (by simpa using h3)] at h2
    simp [undef] at h2
  have key : ∀ w', Keeps E w w' → RowG RV.c 1 ps a len w' ∧ RVF ps w' ∧ G ps a len cap w' := by
    intro w' hk
    obtain ⟨ps', a', len', cap', hm', hv', _, hR', hF', hG'⟩ := h w' hk
    rw [hv] at hv'
    injection hv' with e1 e2 e3
    subst e1 e2 e3
    have e : ps' = ps := by
      refine List.ext_getElem (by rw [hR.1, hR'.1]) fun i h1 h2 => ?_
      have hrow : (ps'.map RV.row)[i]? = (ps.map RV.row)[i]? := by rw [hm, hm']
      simp only [List.getElem?_map, List.getElem?_eq_getElem h1, List.getElem?_eq_getElem h2, Option.map_some, Option.some.injEq] at hrow
      refine rv_ext hrow ?_
      have h0 : len ≠ 0 := by rw [← hR.1]; omega
      obtain ⟨b, o, rfl, _⟩ := hR.2 h0
      have k1 := rowG_off hR i ps[i] (List.getElem?_eq_getElem h2)
      have k2 := rowG_off hR' i ps'[i] (List.getElem?_eq_getElem h1)
      obtain ⟨cs, t, fr, q1, q2⟩ := cell_blk k1
      have q3 := hk.get q1 (hne b o rfl h0)
      rw [cell_of_blk q3, q2] at k2
      injection k2 with k2
      exact k2.symm
    subst e
    exact ⟨hR', hF', hG'⟩
  exact ⟨ps, a, len, cap, hm, hv, hlc, hR.1, hb, fun w' hk => (key w' hk).1, fun w' hk => (key w' hk).2.1, fun w' hk => (key w' hk).2.2⟩
section
variable {P : Program} {c : Ctx} {K : List (Nat × Ty)} {L : List Own} {Φ : List (World → Prop)} {Q : Exit → Act → World → Prop} {H : Know} {dst : Option Nat} {ty : TypeId} {pos : String} {after : Array Edge} {g : Option (Nat × Bool)}
theorem SA.openRows {G : RvG} {s : Nat} {rows : List (List V3)} {E : Nat → Prop} {a : Act} {w : World} (h : look K s = some (.rep (RowsR G rows))) (hs : SA c K L Φ E a w) :
    ∃ ps ad len cap b o, ps.map RV.row = rows ∧ ps.length = len ∧ len ≤ cap ∧ (len ≠ 0 → ad = some ⟨b, o, none⟩) ∧ SA c ((s, .is (.slice ad len cap)) :: K) L (G ps ad len cap :: RowG RV.c 1 ps ad len :: RVF ps :: Φ) E a w := by
  obtain ⟨ps, ad, len, cap, hm, hv, hlc, hl, ⟨b, o, hbo⟩, p1, p2, p3⟩ := rows_fix (hs.k s _ h : Pers E w (RowsR G rows (a.tmps.getD s undef)))
  refine ⟨ps, ad, len, cap, b, o, hm, hl, hlc, hbo, hs.n, hs.d, hs.wf, fun s' T' hl' => ?_, hs.l, hs.ld, fun F hF => ?_, hs.x, hs.xs, hs.keeps, hs.may⟩
  · simp only [look] at hl'
    cases hq : Nat.beq s s' with
    | true =>
      rw [hq, cond_true] at hl'
      injection hl' with hl'
      subst hl'
      rw [← Nat.eq_of_beq_eq_true hq]
      exact hv
    | false => rw [hq, cond_false] at hl'; exact hs.k s' T' hl'
  · rcases List.mem_cons.1 hF with rfl | hF
    · exact p3
    · rcases List.mem_cons.1 hF with rfl | hF
      · exact p1
      · rcases List.mem_cons.1 hF with rfl | hF
        · exact p2
        · exact hs.f F hF
theorem J.openRows {G : RvG} {x : Code} {s : Nat} {rows : List (List V3)} (h : look K s = some (.rep (RowsR G rows)))
    (hj : ∀ ps a len cap b o, ps.map RV.row = rows → ps.length = len → len ≤ cap → (len ≠ 0 → a = some ⟨b, o, none⟩) → J P c ((s, .is (.slice a len cap)) :: K) L (G ps a len cap :: RowG RV.c 1 ps a len :: RVF ps :: Φ) x Q) : J P c K L Φ x Q := by
  refine ⟨fun E a w hs => ?_⟩
  obtain ⟨ps, ad, len, cap, b, o, h1, h2, h3, h4, h5⟩ := hs.openRows h
  exact (hj ps ad len cap b o h1 h2 h3 h4).out E a w h5
theorem JO.openRows {G : RvG} {ops : Array Oper} {l : List Oper} {s : Nat} {rows : List (List V3)} (h : look K s = some (.rep (RowsR G rows)))
    (hj : ∀ ps a len cap b o, ps.map RV.row = rows → ps.length = len → len ≤ cap → (len ≠ 0 → a = some ⟨b, o, none⟩) → JO P c ((s, .is (.slice a len cap)) :: K) L (G ps a len cap :: RowG RV.c 1 ps a len :: RVF ps :: Φ) ops l Q) : JO P c K L Φ ops l Q := by
  refine ⟨fun E a w hs => ?_⟩
  obtain ⟨ps, ad, len, cap, b, o, h1, h2, h3, h4, h5⟩ := hs.openRows h
  exact (hj ps ad len cap b o h1 h2 h3 h4).out E a w h5
theorem Sub.rv {ps : List RV} {p : RV} (hp : p ∈ ps) (hF : RVF ps ∈ Φ) : Sub L Φ (.is p.v) (.rep (SlC V3.cells 3 p.row)) := fun E v w hf e => by
  rw [show v = _ from e]
  exact fun w' hk => ⟨p.a, p.len, p.cap, rfl, (hf.2 _ hF w' hk p hp).1, (hf.2 _ hF w' hk p hp).2⟩
theorem Sub.rvS {ps : List RV} {p : RV} (hp : p ∈ ps) (hF : RVF ps ∈ Φ) : Sub L Φ (.is p.v) (.rep (RowS p.row)) := fun E v w hf e => by
  rw [show v = _ from e]
  exact fun w' hk => ⟨p.a, p.len, p.cap, rfl, (hf.2 _ hF w' hk p hp).2⟩
theorem ob_iface {xt : TypeId} {x : Operand} {v : Value} {d : TypeDesc} (hu : P.underlying xt = some d) (hd : (match d with | .interface _ => false | _ => true) = true) (hx : H x (.is v)) : Ob P L Φ H ⟨dst, .makeInterface xt x, ty, pos, after, g⟩ (.is (.iface xt v)) :=
  ob_is fun E w ρ hp => by
    have h1 : ρ x = v := hp.x x _ (by simp [Op.operands]) hx
    cases d <;> first | (cases hd; done) | simp [execOp, h1, Instr.makeInterface, run_underlying hu]
theorem ob_assert {xt t : TypeId} {x : Operand} {v : Value} {d : TypeDesc} (hu : P.underlying t = some d) (hd : (match d with | .interface _ => false | _ => true) = true) (hx : H x (.is (.iface t v))) : Ob P L Φ H ⟨dst, .typeAssert x xt t false, ty, pos, after, g⟩ (.is v) :=
  ob_is fun E w ρ hp => by
    have h1 : ρ x = .iface t v := hp.x x _ (by simp [Op.operands]) hx
    cases d <;> first | (cases hd; done) | simp [execOp, h1, Instr.typeAssert, run_underlying hu]
end
end Go.Vc

namespace Go.Vc
open Go
section
variable {P : Program} {L L0 : List Own} {Φ Φ0 : List (World → Prop)} {H : Know} {dst : Option Nat} {ty : TypeId} {pos : String} {after : Array Edge} {g : Option (Nat × Bool)} {Z : Type} {Zp : Z → Prop} {f : FuncId} {As : List Ty} {V : Value}
def AllIs (L0 : List Own) : Prop := ∀ o ∈ L0, ∃ V, o.T = .is V
theorem endL_same (h0 : AllIs L0) {E E' : Nat → Prop} {w w' : World} {z : Z} {v : Value} (hM : ∀ m ∈ L0, m.at E w) (h : EndL L0 Zp (fun _ => L0) (fun _ => .is V) E w z E' v w') : Keeps noX w w' ∧ (Ty.is V).p E v w' := by
  refine ⟨⟨h.k.os, h.k.tape, h.k.output, h.k.size, fun b hb _ => ?_, h.k.shp⟩, h.r⟩
  by_cases hm : b ∈ L0.map (·.b)
  · obtain ⟨o, ho, rfl⟩ := List.mem_map.1 hm
    obtain ⟨U, hU⟩ := h0 o ho
    rw [own_blk (hM o ho) hU, own_blk (h.l o ho) hU]
  · exact h.k.blk b hb hm
theorem ob_callO {xs : List Operand} {ats : Array TypeId} (hf : H (.func f) (.is (.func (.func f) #[] #[]))) (hc : CallL P f L0 Φ0 As Zp (fun _ => L0) (fun _ => .is V)) (h0 : AllIs L0) (hL : ∀ o ∈ L0, o ∈ L) (hnd : ∀ E w, (∀ o ∈ L0, o.at E w) → (L0.map (·.b)).Nodup) (hΦ : ∀ F ∈ Φ0, F ∈ Φ) (ha : Args L Φ H xs As) :
    Ob P L Φ H ⟨dst, .call { callee := .value (.func f), args := xs.toArray, argTypes := ats }, ty, pos, after, g⟩ (.is V) := fun E w ρ hp => by
  have h1 : ρ (.func f) = .func (.func f) #[] #[] := hp.x (.func f) (.is (.func (.func f) #[] #[])) (by simp [Op.operands, Call.operands]) hf
  have hall := ha.all (ρ := ρ) (pre_facts hp) fun x T hx => hp.x x T (by simp [Op.operands, Call.operands, hx])
  have hM : ∀ m ∈ L0, m.at E w := fun m hm => hp.l m (hL m hm)
  have h3 := run_callL hc hΦ hp.wf hp.f hall hM (hnd E w hM)
  simp only [execOp, resolve, h1, Deferred.ofValue, invoke, Sem.run_bind, Sem.run_pure, Result.andThen_ok, List.map_toArray]
  refine Runs.mono (by simpa using h3) ?_
  rintro v w' ⟨z, E', he⟩
  exact endL_same h0 hM he
theorem ob_invO {t : TypeId} {name : String} {U : Value} {y : Operand} {xs : List Operand} {ats : Array TypeId} (hy : H y (.is (.iface t U))) (hm : methOf P t name = some f) (hc : CallL P f L0 Φ0 (.is U :: As) Zp (fun _ => L0) (fun _ => .is V)) (h0 : AllIs L0) (hL : ∀ o ∈ L0, o ∈ L) (hnd : ∀ E w, (∀ o ∈ L0, o.at E w) → (L0.map (·.b)).Nodup) (hΦ : ∀ F ∈ Φ0, F ∈ Φ) (ha : Args L Φ H xs As) :
    Ob P L Φ H ⟨dst, .call { callee := .invoke y name, args := xs.toArray, argTypes := ats }, ty, pos, after, g⟩ (.is V) := fun E w ρ hp => by
  have h1 : ρ y = .iface t U := hp.x y (.is (.iface t U)) (by simp [Op.operands, Call.operands]) hy
  have hall := ha.all (ρ := ρ) (pre_facts hp) fun x T hx => hp.x x T (by simp [Op.operands, Call.operands, hx])
  have hM : ∀ m ∈ L0, m.at E w := fun m hm => hp.l m (hL m hm)
  have h3 := run_callL (vs := U :: xs.map ρ) hc hΦ hp.wf hp.f ⟨rfl, hall⟩ hM (hnd E w hM)
  have h2 := Meth.of hm U w
  have h4 : List.take xs.length (List.map ρ xs) = List.map ρ xs := List.take_of_length_le (by simp)
  simp only [execOp, resolve, h1, invoke, Sem.run_bind, Sem.run_pure, Result.andThen_ok, List.map_toArray]
  refine Runs.mono (by simpa [callMethod, h2, h4] using h3) ?_
  rintro v w' ⟨z, E', he⟩
  exact endL_same h0 hM he
theorem own_ne {o o' : Own} {E : Nat → Prop} {w : World} (h : o.at E w) (h' : o'.at E w) (hne : o.ety ≠ o'.ety) : o.b ≠ o'.b := by
  obtain ⟨_, v, h1, _⟩ := h
  obtain ⟨_, v', h2, _⟩ := h'
  intro e
  rw [e, h2] at h1
  injection h1 with h1
  injection h1 with _ h3
  exact hne h3.symm
theorem ob_minN {x y : Operand} {ats : Array TypeId} {k k' : IntKind} {a b : Nat} (hx : H x (.is (.int k (a : Nat)))) (hy : H y (.is (.int k' (b : Nat)))) : Ob P L Φ H ⟨dst, .call { callee := .builtin .min, args := #[x, y], argTypes := ats }, ty, pos, after, g⟩ (.is (.int k (min a b : Nat))) :=
  ob_is fun E w ρ hp => by
    have h1 : ρ x = .int k a := hp.x x _ (by simp [Op.operands, Call.operands]) hx
    have h2 : ρ y = .int k' b := hp.x y _ (by simp [Op.operands, Call.operands]) hy
    have h3 : (if (b : Int) < (a : Int) then (b : Int) else (a : Int)) = ((min a b : Nat) : Int) := by split <;> omega
    simp only [execOp, resolve, invoke, builtin, Builtin.min_, Builtin.min2, h1, h2, List.map_toArray, List.map_cons, List.map_nil]
    simp [Builtin.min2, h1, h2]
    split <;> omega
theorem ob_negv {xt : TypeId} {x : Operand} {a v : Int} (hx : H x (.is (.int .i64 a))) (hv : -a = v) (h1 : -9223372036854775808 ≤ v) (h2 : v < 9223372036854775808) : Ob P L Φ H ⟨dst, .unOp .neg xt x, ty, pos, after, g⟩ (.is (.int .i64 v)) := by
  subst hv
  have h := ob_neg (P := P) (L := L) (Φ := Φ) (dst := dst) (ty := ty) (pos := pos) (after := after) (g := g) (xt := xt) hx
  rwa [Int.zero_sub, wrap64_eq h1 h2] at h
end
end Go.Vc

namespace Go.Vc
open Go
def floatOK (ops : Array Oper) (m f : Nat) : Bool :=
  let B := Region.before ops
  decide (m ≤ ops.size) && ((List.range ops.size).all fun j => decide (j < m) || (List.range j).all fun i => (i == f && j == m) || befHas B j i) &&
  ((ops.toList.take m).all fun o => match o.guard with | some (g, _) => decide (g < m) | none => true)
section
variable {P : Program} {ops : Array Oper} {Q : Exit → Act → World → Prop}
theorem wp_region_float {id : Nat} {dr : Bool} {a : Act} {w : World} (m f : Nat) {fo mo : Oper} {d s : Nat} (hm : P.follows .mixedOrders = true) (hb : backOK ops = true) (hs : floatOK ops m f = true)
    (hfm : f < m) (hf : ops[f]? = some fo) (hfo : fo.op = .move (.tmp s)) (hfd : fo.dst = some d) (hfg : fo.guard = none) (hmo : ops[m]? = some mo) (hmg : mo.guard = none) (hmd : mo.dst = none) (hsel : ∀ cs b, mo.op ≠ .select cs b) (hnd : ∀ x ∈ mo.op.operands, x ≠ .tmp d)
    (I : Array Bool → Act → World → Prop)
    (h0 : ∀ w', (w' = w ∨ w' = w.drew) → I (Array.replicate (ops.toList.take m).toArray.size false) a w')
    (hstep : ∀ D a w i o, D.size = (ops.toList.take m).toArray.size → I D a w → (ops.toList.take m).toArray[i]? = some o → D.getD i true = false → readyAt (ops.toList.take m).toArray D i →
      wpOp P (ops.toList.take m).toArray (Exit.then (fun a w => wpList P ops Q (ops.toList.drop m) a w ∧ ∃ w1, (execOp a.eval mo).run P w = .ok .skip w1 ∧ wpList P ops Q (ops.toList.drop (m + 1)) a w1) Q) i (I (D.setIfInBounds i true)) a w)
    (hend : ∀ D a w, D.size = (ops.toList.take m).toArray.size → (∀ i, i < (ops.toList.take m).toArray.size → D.getD i false = true) → I D a w → wpList P ops Q (ops.toList.drop m) a w ∧ ∃ w1, (execOp a.eval mo).run P w = .ok .skip w1 ∧ wpList P ops Q (ops.toList.drop (m + 1)) a w1) :
    (Code.region id ops dr).wp P Q a w := by
  unfold floatOK at hs
  simp only [Bool.and_eq_true, decide_eq_true_eq] at hs
  obtain ⟨⟨hms, hso⟩, hgs⟩ := hs
  have hsz : (ops.toList.take m).toArray.size = m := by simp; omega
  rw [hsz] at h0 hstep hend
  have hord : ∀ j, m ≤ j → j < ops.size → ∀ i, i < j → ¬ (i = f ∧ j = m) → befHas (Region.before ops) j i = true := by
    intro j hmj hj i hij hex
    have h1 := List.all_eq_true.1 hso j (List.mem_range.2 hj)
    rw [Bool.or_eq_true] at h1
    rcases h1 with h1 | h1
    · exact absurd (of_decide_eq_true h1) (by omega)
    · have h2 := List.all_eq_true.1 h1 i (List.mem_range.2 hij)
      rw [Bool.or_eq_true] at h2
      rcases h2 with h2 | h2
      · simp only [Bool.and_eq_true, beq_iff_eq] at h2
        exact absurd h2 hex
      · exact h2
  have hgd : ∀ (D : Array Bool) (i : Nat), i < D.size → D.getD i true = false → D.getD i false = false := by
    intro D i hi h
    simp only [Array.getD_eq_getD_getElem?, Array.getElem?_eq_getElem hi, Option.getD_some] at h ⊢
    exact h
  have hgd' : ∀ (D : Array Bool) (i : Nat), i < D.size → D.getD i false = false → D.getD i true = false := by
    intro D i hi h
    simp only [Array.getD_eq_getD_getElem?, Array.getElem?_eq_getElem hi, Option.getD_some] at h ⊢
    exact h
  have hedge : ∀ i o, ops[i]? = some o → ∀ e ∈ o.after, Region.binds .any e = true → e.on < i := by
    intro i o ho e he hbe
    have hi : i < ops.size := (Array.getElem?_eq_some_iff.1 ho).1
    have hk := List.all_eq_true.1 hb i (List.mem_range.2 hi)
    rw [ho] at hk
    have hlt := (Array.all_eq_true_iff_forall_mem.1 hk) e he
    rw [hbe] at hlt
    simpa using hlt
  refine wp_region_inv hm hb (fun D a w => Closed ops D ∧ ((∃ D' : Array Bool, D'.size = m ∧ (∀ i, i < m → D'.getD i false = D.getD i false) ∧ (∀ j, m ≤ j → D.getD j false = false) ∧ I D' a w) ∨
      (∃ n, m ≤ n ∧ n ≤ ops.size ∧ (∀ i, i < ops.size → (D.getD i false = true ↔ i < n)) ∧ wpList P ops Q (ops.toList.drop n) a w) ∨ ((∀ i, i < ops.size → (D.getD i false = true ↔ i ≤ m ∧ i ≠ f)) ∧ wpList P ops Q (ops.toList.drop (m + 1)) (a.put (some d) (a.eval (.tmp s))) w))) ?_ ?_ ?_
  · intro w' hw'
    have hno : ∀ (n j : Nat), (Array.replicate n false).getD j false = false := by
      intro n j
      rw [Array.getD_eq_getD_getElem?, Array.getElem?_replicate]
      split <;> simp
    exact ⟨fun j hj => absurd hj (by rw [hno]; simp), .inl ⟨_, by simp, fun i _ => by rw [hno, hno], fun j _ => hno _ _, h0 w' hw'⟩⟩
  · rintro D a w i o hD ⟨hc, hI⟩ ho hd hr
    have hi : i < ops.size := (Array.getElem?_eq_some_iff.1 ho).1
    have hdf := hgd D i (by omega) hd
    have hgset : ∀ j, (D.setIfInBounds i true).getD j false = true ↔ j = i ∨ D.getD j false = true := fun j => get_set (by omega)
    have hc' : Closed ops (D.setIfInBounds i true) := by
      intro j hj
      rcases (hgset j).1 hj with rfl | hj
      · exact fun o' ho' e he hbe => (hgset e.on).2 (.inr (hr o' ho' e he hbe))
      · exact fun o' ho' e he hbe => (hgset e.on).2 (.inr (hc j hj o' ho' e he hbe))
    have row : ∀ n, n = i → m ≤ n → (∀ j, j < i → D.getD j false = true) → (∀ j, i ≤ j → j < ops.size → D.getD j false = false) → wpList P ops Q (ops.toList.drop n) a w →
        wpOp P ops Q i (fun a w => Closed ops (D.setIfInBounds i true) ∧ ((∃ D' : Array Bool, D'.size = m ∧ (∀ k, k < m → D'.getD k false = (D.setIfInBounds i true).getD k false) ∧ (∀ j, m ≤ j → (D.setIfInBounds i true).getD j false = false) ∧ I D' a w) ∨
          (∃ n, m ≤ n ∧ n ≤ ops.size ∧ (∀ k, k < ops.size → ((D.setIfInBounds i true).getD k false = true ↔ k < n)) ∧ wpList P ops Q (ops.toList.drop n) a w) ∨ ((∀ k, k < ops.size → ((D.setIfInBounds i true).getD k false = true ↔ k ≤ m ∧ k ≠ f)) ∧ wpList P ops Q (ops.toList.drop (m + 1)) (a.put (some d) (a.eval (.tmp s))) w))) a w := by
      rintro n rfl hmn hlt hge h
      refine wpOp_mono (K := wpList P ops Q (ops.toList.drop (n + 1))) (fun a' w' h' => ⟨hc', .inr (.inl ⟨n + 1, by omega, by omega, fun k hk => ?_, h'⟩)⟩) ?_
      · rw [hgset]
        constructor
        · rintro (rfl | h)
          · omega
          · rcases Nat.lt_or_ge k n with hk' | hk'
            · omega
            · rw [hge k hk' hk] at h; cases h
        · intro hkn
          rcases Nat.lt_or_ge k n with hk' | hk'
          · exact .inr (hlt k hk')
          · exact .inl (by omega)
      · have hdrop : ops.toList.drop n = o :: ops.toList.drop (n + 1) := by
          have hoe : o = ops.toList[n]'(by simpa using hi) := by
            rw [Array.getElem?_eq_getElem hi] at ho
            injection ho with ho
            rw [← ho]; simp
          rw [hoe]
          exact List.drop_eq_getElem_cons (by simpa using hi)
        rw [hdrop] at h
        unfold wpOp
        rw [ho]
        exact h
    rcases hI with ⟨D', hD', hDD, hDm, hI⟩ | ⟨n, hmn, hns, hDn, hI⟩ | ⟨hDn, hI⟩
    · rcases Nat.lt_or_ge i m with him | him
      · have hgo : (match o.guard with | some (g, _) => decide (g < m) | none => true) = true := by
          refine List.all_eq_true.1 hgs o ?_
          rw [List.mem_take_iff_getElem]
          refine ⟨i, by simp; omega, ?_⟩
          rw [Array.getElem?_eq_getElem hi] at ho
          injection ho with ho
        refine wpOp_take (N := fun a w => wpList P ops Q (ops.toList.drop m) a w ∧ ∃ w1, (execOp a.eval mo).run P w = .ok .skip w1 ∧ wpList P ops Q (ops.toList.drop (m + 1)) a w1) him ho hgo ?_
        refine wpOp_mono (fun a' w' h' => ?_) (hstep D' a w i o hD' hI (by simp [him, ho]) (hgd' D' i (by omega) (by rw [hDD i him]; exact hdf)) fun o' ho' e he hbe => ?_)
        · refine ⟨hc', .inl ⟨D'.setIfInBounds i true, by simpa using hD', fun k hk => ?_, fun j hj => ?_, h'⟩⟩
          · by_cases e : k = i
            · subst e
              rw [(get_set (D := D') (by omega)).2 (.inl rfl), (hgset k).2 (.inl rfl)]
            · have e' : i ≠ k := fun h => e h.symm
              simp only [Array.getD_eq_getD_getElem?, Array.getElem?_setIfInBounds_ne e']
              have := hDD k hk
              simpa only [Array.getD_eq_getD_getElem?] using this
          · cases hq : (D.setIfInBounds i true).getD j false with
            | false => rfl
            | true =>
              rcases (hgset j).1 hq with rfl | hq
              · omega
              · rw [hDm j hj] at hq; cases hq
        · have hoo : ops[i]? = some o' := by simpa [him] using ho'
          have hlt := hedge i o' hoo e he hbe
          rw [hDD e.on (by omega)]
          exact hr o' hoo e he hbe
      · have hie : i = m := by
          rcases Nat.lt_or_ge m i with h | h
          · have := before_done hb hc i m hr (hord i him hi m h (by omega))
            rw [hDm m (Nat.le_refl _)] at this
            cases this
          · omega
        subst hie
        have hall0 : ∀ j, j < i → j ≠ f → D.getD j false = true := fun j hj hne => before_done hb hc i j hr (hord i (Nat.le_refl _) hi j hj (by omega))
        cases hDf : D.getD f false with
        | true =>
          have hall : ∀ j, j < i → D.getD j false = true := fun j hj => by
            by_cases e : j = f
            · rw [e]; exact hDf
            · exact hall0 j hj e
          exact row i rfl (Nat.le_refl _) hall (fun j hj hjs => hDm j (by omega)) (hend D' a w hD' (fun k hk => by rw [hDD k hk]; exact hall k (by omega)) hI).1
        | false =>
          have hfs : f < ops.size := by omega
          have hst := hstep D' a w f fo hD' hI (by simp [hfm, hf]) (hgd' D' f (by omega) (by rw [hDD f hfm]; exact hDf)) (fun o' ho' e he hbe => by
            have hoo : ops[f]? = some o' := by simpa [hfm] using ho'
            have hlt := hedge f o' hoo e he hbe
            rw [hDD e.on (by omega)]
            exact hall0 e.on (by omega) (by omega))
          have hrunf : ∀ a : Act, execOp a.eval fo = (pure (.value (a.eval (.tmp s))) : Sem Next) := fun a => by
            cases fo
            simp only at hfo
            subst hfo
            rfl
          have hI2 : I (D'.setIfInBounds f true) (a.put (some d) (a.eval (.tmp s))) w := by
            unfold wpOp at hst
            have hpf : (ops.toList.take i).toArray[f]? = some fo := by simp [hfm, hf]
            rw [hpf] at hst
            have hwt : ∀ y, Region.wanted fo y = true := fun y => by unfold Region.wanted; rw [hfg]
            simp only [hwt, if_true] at hst
            rcases hst with hst | hst
            · unfold Oper.wp at hst
              rw [hrunf, Sem.run_pure, Oper.upon_value, hfd] at hst
              exact hst
            · have := hst.1.1
              rw [hrunf] at this
              exact absurd this (by show ¬ noRoomEvent ∈ (#[] : Array _); simp)
          obtain ⟨_, w1, hr1, hl1⟩ := hend _ _ w (by simpa using hD') (fun k hk => (get_set (D := D') (by omega)).2 (by
            by_cases e : k = f
            · exact .inl e
            · exact .inr (by rw [hDD k hk]; exact hall0 k hk e))) hI2
          have hcg : execOp (a.put (some d) (a.eval (.tmp s))).eval mo = execOp a.eval mo := execOp_congr mo hsel fun x hx => by
            have hne := hnd x hx
            cases x with
            | tmp t =>
              have ht : t ≠ d := fun e => hne (by rw [e])
              have := slot_put_ne a (some d) (a.eval (.tmp s)) t (fun e => ht (by injection e with e; exact e.symm))
              simpa [Act.eval, slotOf] using this
            | _ => rfl
          rw [hcg] at hr1
          have heo : o = mo := by rw [ho] at hmo; injection hmo
          unfold wpOp
          rw [ho]
          have hwt : ∀ y, Region.wanted o y = true := fun y => by unfold Region.wanted; rw [heo, hmg]
          simp only [hwt, if_true]
          refine .inl ?_
          unfold Oper.wp
          rw [heo, hr1, Oper.upon_skip, hmd]
          refine ⟨hc', .inr (.inr ⟨fun k hk => ?_, hl1⟩)⟩
          rw [hgset]
          constructor
          · rintro (rfl | h)
            · exact ⟨Nat.le_refl _, by omega⟩
            · refine ⟨?_, fun e => by rw [e, hDf] at h; cases h⟩
              rcases Nat.lt_or_ge k i with hk' | hk'
              · omega
              · rw [hDm k hk'] at h; cases h
          · rintro ⟨h1, h2⟩
            rcases Nat.lt_or_eq_of_le h1 with h3 | h3
            · exact .inr (hall0 k h3 h2)
            · exact .inl h3
    · have hin : n ≤ i := by
        rcases Nat.lt_or_ge i n with h | h
        · rw [(hDn i hi).2 h] at hdf; cases hdf
        · exact h
      have hall : ∀ j, j < i → D.getD j false = true := fun j hj => by
        by_cases hex : j = f ∧ i = m
        · exact (hDn j (by omega)).2 (by omega)
        · exact before_done hb hc i j hr (hord i (by omega) hi j hj hex)
      have hie : i = n := by
        rcases Nat.lt_or_ge n i with h | h
        · have := (hDn n (by omega)).1 (hall n h)
          omega
        · omega
      refine row n hie.symm hmn hall (fun j hj hjs => ?_) hI
      cases hq : D.getD j false with
      | false => rfl
      | true => have := (hDn j hjs).1 hq; omega
    · have hif : i = f := by
        by_cases e : i = f
        · exact e
        · have him : m < i := by
            rcases Nat.lt_or_ge m i with h | h
            · exact h
            · rw [(hDn i hi).2 ⟨h, e⟩] at hdf; cases hdf
          have := before_done hb hc i f hr (hord i (by omega) hi f (by omega) (by omega))
          have := ((hDn f (by omega)).1 this).2
          exact absurd rfl this
      subst hif
      have heo : o = fo := by rw [ho] at hf; injection hf
      subst heo
      have hms : m < ops.size := (Array.getElem?_eq_some_iff.1 hmo).1
      unfold wpOp
      rw [ho]
      have hwt : ∀ y, Region.wanted o y = true := fun y => by unfold Region.wanted; rw [hfg]
      simp only [hwt, if_true]
      refine .inl ?_
      have hrunf : execOp a.eval o = (pure (.value (a.eval (.tmp s))) : Sem Next) := by
        cases o
        simp only at hfo
        subst hfo
        rfl
      unfold Oper.wp
      rw [hrunf, Sem.run_pure, Oper.upon_value, hfd]
      refine ⟨hc', .inr (.inl ⟨m + 1, by omega, by omega, fun k hk => ?_, hI⟩)⟩
      rw [hgset, hDn k hk]
      omega
  · rintro D a w hD hall ⟨_, hI⟩
    rcases hI with ⟨D', hD', hDD, hDm, hI⟩ | ⟨n, hmn, hns, hDn, hI⟩ | ⟨hDn, hI⟩
    · have hme : m = ops.size := by
        rcases Nat.lt_or_ge m ops.size with h | h
        · have := hall m h
          rw [hDm m (Nat.le_refl _)] at this
          cases this
        · omega
      have := (hend D' a w hD' (fun k hk => by rw [hDD k hk]; exact hall k (by omega)) hI).1
      rw [List.drop_of_length_le (by simp; omega)] at this
      exact this
    · have hne : n = ops.size := by
        rcases Nat.lt_or_ge n ops.size with h | h
        · have := (hDn n h).1 (hall n h)
          omega
        · omega
      rw [List.drop_of_length_le (by simp; omega)] at hI
      exact hI
    · have hms : m < ops.size := (Array.getElem?_eq_some_iff.1 hmo).1
      have := ((hDn f (by omega)).1 (hall f (by omega))).2
      exact absurd rfl this
end
section
variable {P : Program} {c : Ctx} {K : List (Nat × Ty)} {L L' : List Own} {Φ : List (World → Prop)} {Q : Exit → Act → World → Prop}
theorem J.regF {id : Nat} {dr : Bool} {l : List Oper} (m f : Nat) {fo mo : Oper} {d s : Nat} (hmx : P.follows .mixedOrders = true) (hok : (backOK l.toArray && floatOK l.toArray m f && regOK (l.take m).toArray) = true)
    (hfm : f < m) (hf : l[f]? = some fo) (hfo : fo.op = .move (.tmp s)) (hfd : fo.dst = some d) (hfg : fo.guard = none) (hmo : l[m]? = some mo) (hmg : mo.guard = none) (hmd : mo.dst = none) (hsel : ∀ cs b, mo.op ≠ .select cs b) (hnd : ∀ x ∈ mo.op.operands, x ≠ .tmp d)
    (hdn : ((l.take m).toArray.all fun o => match o.dst with | some d => decide (d < c.n) | none => true) = true)
    (h : RT P (l.take m).toArray L Φ 0 (l.take m) K [] [] (FinS P c L Φ (Exit.then (fun a w => wpList P l.toArray Q (l.drop m) a w ∧ ∃ w1, (execOp a.eval mo).run P w = .ok .skip w1 ∧ wpList P l.toArray Q (l.drop (m + 1)) a w1) Q))) : J P c K L Φ (.region id l.toArray dr) Q := by
  refine ⟨?_⟩
  intro E a w hsa
  simp only [Bool.and_eq_true] at hok
  obtain ⟨⟨hb, hs⟩, hr⟩ := hok
  obtain ⟨I, h0, h1, h2⟩ := region_inv (ops := (l.take m).toArray) (Lm := []) hr hdn h hsa
  exact wp_region_float (ops := l.toArray) m f hmx hb hs hfm (by simpa using hf) hfo hfd hfg (by simpa using hmo) hmg hmd hsel hnd I h0 h1 h2
theorem FinS.tailF {ops : Array Oper} {rest : List Oper} {t : TypeId} {p x : Operand} {ty : TypeId} {pos : String} {after : Array Edge} (hm : L'.map (·.b) = L.map (·.b)) (h : ObM P [] Φ (Kn K) L ⟨none, .store t p x, ty, pos, after, none⟩ .any L') (hn : JO P c K L' Φ ops rest Q) :
    FinS P c L Φ (Exit.then (fun a w => wpList P ops Q (⟨none, .store t p x, ty, pos, after, none⟩ :: rest) a w ∧ ∃ w1, (execOp a.eval ⟨none, .store t p x, ty, pos, after, none⟩).run P w = .ok .skip w1 ∧ wpList P ops Q rest a w1) Q) K [] [] := by
  intro E a w hs
  refine ⟨(JO.chg rfl (fun d e => by cases e) hm h (show JO P c (putK none .any K) L' Φ ops rest Q from hn)).out E a w hs, ?_⟩
  have hsub : ∀ b, b ∈ L.map (·.b) → E b := fun b hb => by obtain ⟨m, hm, rfl⟩ := List.mem_map.1 hb; exact (hs.l m hm).1
  have hmay : ∀ b, b ∈ L.map (·.b) → c.X0 b ∨ c.W0.heap.size ≤ b := fun b hb => by obtain ⟨m, hm, rfl⟩ := List.mem_map.1 hb; exact hs.may m hm
  have hR := h E w a.eval ⟨hs.wf, (fun _ h => (List.not_mem_nil h).elim), hs.f, fun x T' _ hx => opTy_eval hs hx⟩ hs.l hs.ld
  have hrun : ∃ w1, (execOp a.eval ⟨none, .store t p x, ty, pos, after, none⟩).run P w = .ok .skip w1 := by
    cases hq : (Instr.storeAt t (a.eval p) (a.eval x)).run P w with
    | ok u w1 => exact ⟨w1, by simp [execOp, hq]⟩
    | halt hh w1 =>
      have : (execOp a.eval ⟨none, .store t p x, ty, pos, after, none⟩).run P w = .halt hh w1 := by simp [execOp, hq]
      rw [this] at hR
      exact hR.elim
  obtain ⟨w1, hr⟩ := hrun
  rw [hr] at hR
  obtain ⟨hk, hT, hL⟩ := hR
  refine ⟨w1, hr, ?_⟩
  have hev : Ev E w E w1 := Ev.of_keeps (hk.mono fun b _ => hsub b)
  exact hn.out E _ _ (hs.put (dst := none) (T := .any) (v := undef) hev (fun b hb => Nat.lt_of_lt_of_le (hs.wf b hb) hk.size) hT (fun d e => by cases e) hL (by rw [hm]; exact hs.ld) (hs.keeps.step hk hmay) fun o ho => hmay o.b (by rw [← hm]; exact List.mem_map_of_mem ho))
end
end Go.Vc

namespace Go.Vc
open Go
section
variable {P : Program} {L : List Own} {Φ : List (World → Prop)} {H : Know} {dst : Option Nat} {ty : TypeId} {pos : String} {after : Array Edge} {g : Option (Nat × Bool)}
theorem eqIn_nil (d : Nat) {xt e : TypeId} {a : Option Addr} {n m n' m' : Nat} {w : World} (hu : P.underlying xt = some (.slice e)) : (Op.equalIn (d + 1) xt (.slice a n m) (.slice none n' m')).run P w = .ok a.isNone w := by
  unfold Op.equalIn
  cases a <;> simp [run_underlying hu]
theorem ob_nilS {xt yt e : TypeId} {x y : Operand} {a : Option Addr} {n m n' m' : Nat} (hu : P.underlying xt = some (.slice e)) (hx : H x (.is (.slice a n m))) (hy : H y (.is (.slice none n' m'))) : Ob P L Φ H ⟨dst, .binOp .eql xt x y yt, ty, pos, after, g⟩ (.is (.bool a.isNone)) :=
  ob_bin hx hy fun w => by
    have h : (Op.equal xt (.slice a n m) (.slice none n' m')).run P w = .ok a.isNone w := eqIn_nil 9999 hu
    simp only [eqGuard, binOp, Sem.run_bind, Sem.run_pure, Result.andThen_ok]
    simp [h]
def fldSl (P : Program) (t : TypeId) (i : Nat) : Option (Nat × TypeId) :=
  match P.underlying t with
  | some (.struct fs) =>
    match fs[i]? with
    | some f =>
      match P.underlying f.type with
      | some (.slice e) => some (f.offset, e)
      | _ => none
    | none => none
  | _ => none
theorem ob_fieldV {xt e : TypeId} {x : Operand} {cs : Array Value} {i off : Nat} {v : Value} (hs : fldSl P xt i = some (off, e)) (hx : H x (.is (.agg cs))) (hv : cs[off]? = some v) : Ob P L Φ H ⟨dst, .field xt x i, ty, pos, after, g⟩ (.is v) :=
  ob_is fun E w ρ hp => by
    have h1 : ρ x = .agg cs := hp.x x _ (by simp [Op.operands]) hx
    unfold fldSl at hs
    split at hs
    · rename_i fs hu
      split at hs
      · rename_i f hf
        split at hs
        · rename_i e' he
          injection hs with hs
          injection hs with h2 h3
          subst h2 h3
          have hag : (isAgg f.type).run P w = .ok false w := by simp [isAgg, run_underlying he]
          simp [execOp, h1, Instr.field, run_underlying hu, hf, asAgg, part, hag, hv]
        · cases hs
      · cases hs
    · cases hs
end
def SlF {α : Type} (N : Nat) (e : TypeId) (en : α → List Value) (sz : Nat) (xs : List α) (v : Value) (w : World) : Prop := ∃ a len cap, v = .slice a len cap ∧ len ≤ cap ∧ RowG en sz xs a len w ∧ FreshW N e a len cap sz w
section
variable {α : Type} {en : α → List Value} {sz : Nat} {P : Program} {c : Ctx} {K K' : List (Nat × Ty)} {L L' : List Own} {Φ Φ0 : List (World → Prop)} {Q : Exit → Act → World → Prop}
theorem Sub.slF {N : Nat} {e : TypeId} {xs : List α} {st : Option (Nat × List Value)} {cap : Nat} (hG : Grows en sz xs st cap) (hR : RowG en sz xs (adO st) xs.length ∈ Φ) (hF : FreshW N e (adO st) xs.length (capO st cap) sz ∈ Φ) : Sub L Φ (.is (sliceO st xs.length cap)) (.rep (SlF N e en sz xs)) := by
  obtain ⟨h1, h2⟩ := hG.sl
  rw [h1]
  refine fun E v w hf e1 => ?_
  rw [show v = _ from e1]
  exact fun w' hk => ⟨adO st, xs.length, capO st cap, rfl, h2, hf.2 _ hR w' hk, hf.2 _ hF w' hk⟩
theorem Sub.slFNil {N : Nat} {e : TypeId} : Sub L Φ (.is (.slice none 0 0)) (.rep (SlF N e en sz [])) := fun E v w hf e1 => by
  rw [show v = _ from e1]
  exact fun w' _ => ⟨none, 0, 0, rfl, Nat.le_refl _, ⟨rfl, fun h => absurd rfl h⟩, fun h => absurd rfl h⟩
theorem SA.openSlF {s N : Nat} {e : TypeId} {xs : List α} {E : Nat → Prop} {a' : Act} {w : World} (h : look K s = some (.rep (SlF N e en sz xs))) (hs : SA c K L Φ E a' w) :
    ∃ a len cap, xs.length = len ∧ len ≤ cap ∧ SA c ((s, .is (.slice a len cap)) :: K) L (FreshW N e a len cap sz :: RowG en sz xs a len :: Φ) E a' w := by
  have h1 : Pers E w (SlF N e en sz xs (a'.tmps.getD s undef)) := hs.k s _ h
  obtain ⟨a, len, cap, hv, hc, hl, _⟩ := h1.now
  have hk : ∀ w', Keeps E w w' → RowG en sz xs a len w' ∧ FreshW N e a len cap sz w' := fun w' hk => by
    obtain ⟨a', len', cap', e1, _, h3, h4⟩ := h1 w' hk
    rw [hv] at e1
    injection e1 with e1 e2 e3
    subst e1 e2 e3
    exact ⟨h3, h4⟩
  refine ⟨a, len, cap, hl.1, hc, hs.n, hs.d, hs.wf, fun s' T' hl' => ?_, hs.l, hs.ld, fun F hF => ?_, hs.x, hs.xs, hs.keeps, hs.may⟩
  · simp only [look] at hl'
    cases hq : Nat.beq s s' with
    | true =>
      rw [hq, cond_true] at hl'
      injection hl' with hl'
      subst hl'
      rw [← Nat.eq_of_beq_eq_true hq]
      exact hv
    | false => rw [hq, cond_false] at hl'; exact hs.k s' T' hl'
  · rcases List.mem_cons.1 hF with rfl | hF
    · exact fun w' hk' => (hk w' hk').2
    · rcases List.mem_cons.1 hF with rfl | hF
      · exact fun w' hk' => (hk w' hk').1
      · exact hs.f F hF
theorem JO.openSlF {ops : Array Oper} {l : List Oper} {s N : Nat} {e : TypeId} {xs : List α} (h : look K s = some (.rep (SlF N e en sz xs)))
    (hj : ∀ a len cap, xs.length = len → len ≤ cap → JO P c ((s, .is (.slice a len cap)) :: K) L (FreshW N e a len cap sz :: RowG en sz xs a len :: Φ) ops l Q) : JO P c K L Φ ops l Q := by
  refine ⟨fun E a w hs => ?_⟩
  obtain ⟨ad, len, cap, h1, h2, h3⟩ := hs.openSlF h
  exact (hj ad len cap h1 h2).out E a w h3
def Shp (b : Nat) (e : TypeId) (n : Nat) (w : World) : Prop := ∃ cs : Array Value, w.heap[b]? = some (.cells cs e (0, 0)) ∧ cs.size = n
theorem Shp.pers {b n : Nat} {e : TypeId} {w : World} {X : Nat → Prop} (h : Shp b e n w) : Pers X w (Shp b e n) := fun w' hk => by
  obtain ⟨cs, h1, h2⟩ := h
  obtain ⟨cs', h3, h4⟩ := hk.shp b cs e (0, 0) h1
  exact ⟨cs', h3, h4.trans h2⟩
def Stay (e : TypeId) (E0 : Nat → Prop) (w0 : World) (F : World → Prop) : Prop := ∀ E w, Pers E w (Keeps E0 w0) → Pers E w F → ∀ b n, w0.heap.size ≤ b → Shp b e n w → Pers (fun q => E q ∨ q = b) w F
theorem stay_old {e : TypeId} {E0 : Nat → Prop} {w0 : World} {F : World → Prop} (h : Pers E0 w0 F) : Stay e E0 w0 F := fun E w hk0 _ b n hN _ w' hk => h w' (keeps_claim hk0 hN w' hk)
theorem stay_any {e : TypeId} {E0 : Nat → Prop} {w0 : World} {F : World → Prop} (h : ∀ w w' : World, w.heap.size ≤ w'.heap.size → (∀ (b : Nat) (cs : Array Value) (t : TypeId) (fr : Nat × Nat), w.heap[b]? = some (Obj.cells cs t fr) → ∃ cs' : Array Value, w'.heap[b]? = some (Obj.cells cs' t fr) ∧ cs'.size = cs.size) → F w → F w') : Stay e E0 w0 F := fun E w _ hF b n _ _ w' hk => h w w' hk.size hk.shp hF.now
theorem stay_heap {e e' : TypeId} {E0 : Nat → Prop} {w0 : World} {b' : Nat} {cs : List Value} (hne : e ≠ e') : Stay e E0 w0 (HeapIs b' cs e') := fun E w _ hF b n _ hS w' hk => by
  have hn : w.heap[b']? = some (.cells cs.toArray e' (0, 0)) := hF.now
  obtain ⟨cs2, hb, _⟩ := hS
  have hbb : b' ≠ b := fun h => by
    rw [h, hb] at hn
    injection hn with hn
    injection hn with _ h2
    exact hne h2
  by_cases hE : E b'
  ·
    have hlt := lt_of_get hn
    have hsz : cs = [] := by
      cases cs with
      | nil => rfl
      | cons u us =>
        exfalso
        obtain ⟨u', hu'⟩ : ∃ u' : Value, u' ≠ u := by
          by_cases h : u = .bool true
          · exact ⟨.bool false, by rw [h]; simp⟩
          · exact ⟨.bool true, fun e => h e.symm⟩
        have hk' : Keeps E w { w with heap := w.heap.setIfInBounds b' (.cells (u' :: us).toArray e' (0, 0)) } := by
          refine ⟨rfl, rfl, rfl, by simp, fun q hq hx => ?_, fun q cs' t' fr' hq => ?_⟩
          · show (w.heap.setIfInBounds b' _)[q]? = _
            rw [Array.getElem?_setIfInBounds_ne (fun e : b' = q => hx (by rw [← e]; exact hE))]
          · by_cases e1 : b' = q
            · subst e1
              rw [hn] at hq
              injection hq with hq
              injection hq with e1 e2 e3
              subst e1 e2 e3
              exact ⟨(u' :: us).toArray, by show (w.heap.setIfInBounds b' _)[b']? = _; simp [hlt], by simp⟩
            · exact ⟨cs', by show (w.heap.setIfInBounds b' _)[q]? = _; rw [Array.getElem?_setIfInBounds_ne e1]; exact hq, rfl⟩
        have h1 : (w.heap.setIfInBounds b' (.cells (u' :: us).toArray e' (0, 0)))[b']? = some (.cells (u :: us).toArray e' (0, 0)) := hF _ hk'
        simp [hlt] at h1
        exact hu' h1
    subst hsz
    obtain ⟨cs', h1, h2⟩ := hk.shp _ _ _ _ hn
    have : cs' = #[] := Array.eq_empty_of_size_eq_zero (by simpa using h2)
    subst this
    exact h1
  · exact (hk.blk b' (lt_of_get hn) (fun h => h.elim hE hbb)).trans hn
theorem J.claimS {x : Code} {E0 : Nat → Prop} {w0 : World} {e : TypeId} {b n : Nat} (hW : c.W0.heap.size ≤ w0.heap.size) (hN : w0.heap.size ≤ b) (h0 : ∀ F ∈ Φ0, Stay e E0 w0 F) (hΦ : ∀ F ∈ Φ0, F ∈ Φ) (hK : ∀ s T, look K' s = some T → look K s = some T) (hKi : K'.all (fun p => p.2.isIs) = true)
    (hS : Shp b e n ∈ Φ) (hM : Keeps E0 w0 ∈ Φ)
    (h : ∀ cs : List Value, cs.length = n → J P c K' [⟨b, e, .is (.agg cs.toArray)⟩] (Keeps E0 w0 :: Shp b e n :: Φ0) x Q) : J P c K L Φ x Q := by
  refine ⟨fun E a' w hs => ?_⟩
  have hkp := hs.f _ hM
  obtain ⟨cs, hb, hc⟩ := (hs.f _ hS).now
  refine (h cs.toList (by simpa using hc)).out (fun q => E q ∨ q = b) a' w ⟨hs.n, hs.d, ?_, ?_, ?_, ?_, ?_, fun q hq => .inl (hs.x q hq), hs.xs, hs.keeps, ?_⟩
  · rintro q (hq | rfl)
    · exact hs.wf q hq
    · exact lt_of_get hb
  · intro s T hl
    obtain ⟨v, rfl⟩ := look_is hKi s T hl
    exact hs.k s _ (hK s _ hl)
  · intro o ho
    rw [List.mem_singleton.1 ho]
    exact ⟨.inr rfl, .agg cs, by simpa [Value.cells] using hb, rfl⟩
  · simp
  · intro F hF
    rcases List.mem_cons.1 hF with rfl | hF
    · exact keeps_claim hkp hN
    · rcases List.mem_cons.1 hF with rfl | hF
      · exact Shp.pers ⟨cs, hb, hc⟩
      · exact h0 F hF E w hkp (hs.f F (hΦ F hF)) b n hN ⟨cs, hb, hc⟩
  · intro o ho
    rw [List.mem_singleton.1 ho]
    exact .inr (Nat.le_trans hW hN)
end
end Go.Vc

namespace Go.Vc
open Go
def floatsOK (ops : Array Oper) (m : Nat) (fl : List (Nat × Nat × Nat)) : Bool :=
  let B := Region.before ops
  decide (m ≤ ops.size) && ((List.range ops.size).all fun j => decide (j < m) || (List.range j).all fun i => ((fl.map (·.1)).contains i && j == m) || befHas B j i) &&
  ((ops.toList.take m).all fun o => match o.guard with | some (g, _) => decide (g < m) | none => true)
def flOK (ops : Array Oper) (m : Nat) (fl : List (Nat × Nat × Nat)) : Bool :=
  (fl.all fun x => decide (x.1 < m) && match ops[x.1]? with
    | some fo => (match fo.op with | .move (.tmp s) => s == x.2.2 | _ => false) && (fo.dst == some x.2.1) && fo.guard.isNone && (fo.after.all fun e => !Region.binds .any e || !(fl.map (·.1)).contains e.on)
    | none => false) && decide (fl.map (·.1)).Nodup && (fl.all fun x => fl.all fun y => (x.1 == y.1 || x.2.1 != y.2.1) && x.2.2 != y.2.1)
structure FlI (ops : Array Oper) (m : Nat) (fl : List (Nat × Nat × Nat)) (x : Nat × Nat × Nat) : Prop where
  lt : x.1 < m
  op : ∃ fo, ops[x.1]? = some fo ∧ fo.op = .move (.tmp x.2.2) ∧ fo.dst = some x.2.1 ∧ fo.guard = none ∧ ∀ e ∈ fo.after, Region.binds .any e = true → e.on ∉ fl.map (·.1)
theorem flOK_i {ops : Array Oper} {m : Nat} {fl : List (Nat × Nat × Nat)} (h : flOK ops m fl = true) : (∀ x ∈ fl, FlI ops m fl x) ∧ (fl.map (·.1)).Nodup ∧ ∀ x ∈ fl, ∀ y ∈ fl, (x.1 = y.1 ∨ x.2.1 ≠ y.2.1) ∧ x.2.2 ≠ y.2.1 := by
  unfold flOK at h
  simp only [Bool.and_eq_true] at h
  obtain ⟨⟨h1, h2⟩, h3⟩ := h
  refine ⟨fun x hx => ?_, of_decide_eq_true h2, fun x hx y hy => ?_⟩
  · have hh := List.all_eq_true.1 h1 x hx
    rw [Bool.and_eq_true] at hh
    obtain ⟨k1, k2⟩ := hh
    split at k2
    · rename_i fo hfo
      simp only [Bool.and_eq_true] at k2
      obtain ⟨⟨⟨k3, k4⟩, k5⟩, k6⟩ := k2
      refine ⟨of_decide_eq_true k1, fo, hfo, ?_, by simpa using k4, by simpa using k5, fun e he hb hm => ?_⟩
      · split at k3
        · rename_i s hs
          rw [hs, show s = x.2.2 by simpa using k3]
        · cases k3
      · have := (Array.all_eq_true_iff_forall_mem.1 k6) e he
        rw [hb] at this
        simp only [Bool.not_true, Bool.false_or, Bool.not_eq_true'] at this
        rw [List.contains_iff_mem.2 hm] at this
        cases this
    · cases k2
  · have hh := List.all_eq_true.1 (List.all_eq_true.1 h3 x hx) y hy
    simp only [Bool.and_eq_true, Bool.or_eq_true, beq_iff_eq, bne_iff_ne] at hh
    exact hh
def pf (x : Nat × Nat × Nat) (a : Act) : Act := a.put (some x.2.1) (a.eval (.tmp x.2.2))
def putAll : List (Nat × Nat × Nat) → Act → Act
  | [], a => a
  | x :: S, a => putAll S (pf x a)
theorem pf_eval {x : Nat × Nat × Nat} {a : Act} {t : Nat} (h : t ≠ x.2.1) : (pf x a).eval (.tmp t) = a.eval (.tmp t) := by
  have := slot_put_ne a (some x.2.1) (a.eval (.tmp x.2.2)) t (fun e => h (by injection e with e; exact e.symm))
  simpa [pf, Act.eval, slotOf] using this
theorem put_comm (a : Act) {d d' : Nat} (h : d ≠ d') (v v' : Value) : (a.put (some d) v).put (some d') v' = (a.put (some d') v').put (some d) v := by
  simp only [Act.put]
  rw [Array.setIfInBounds_comm _ _ h]
theorem pf_comm {x y : Nat × Nat × Nat} {a : Act} (h : x.2.1 ≠ y.2.1) (h1 : x.2.2 ≠ y.2.1) (h2 : y.2.2 ≠ x.2.1) : pf x (pf y a) = pf y (pf x a) := by
  rw [show pf x (pf y a) = (pf y a).put (some x.2.1) ((pf y a).eval (.tmp x.2.2)) from rfl, pf_eval h1, show pf y (pf x a) = (pf x a).put (some y.2.1) ((pf x a).eval (.tmp y.2.2)) from rfl, pf_eval h2]
  exact put_comm a (fun e => h e.symm) _ _
theorem putAll_pf {fl : List (Nat × Nat × Nat)} (hd : ∀ x ∈ fl, ∀ y ∈ fl, (x.1 = y.1 ∨ x.2.1 ≠ y.2.1) ∧ x.2.2 ≠ y.2.1) {x : Nat × Nat × Nat} (hx : x ∈ fl) : ∀ (S : List (Nat × Nat × Nat)) (a : Act), (∀ y ∈ S, y ∈ fl ∧ y.1 ≠ x.1) → putAll S (pf x a) = pf x (putAll S a)
  | [], _, _ => rfl
  | y :: S, a, h => by
    obtain ⟨hy, hne⟩ := h y List.mem_cons_self
    show putAll S (pf y (pf x a)) = pf x (putAll S (pf y a))
    rw [pf_comm ((hd y hy x hx).1.resolve_left hne) (hd y hy x hx).2 (hd x hx y hy).2]
    exact putAll_pf hd hx S (pf y a) fun z hz => h z (List.mem_cons_of_mem _ hz)
theorem putAll_app (S T : List (Nat × Nat × Nat)) : ∀ a, putAll (S ++ T) a = putAll T (putAll S a) := by
  induction S with
  | nil => exact fun _ => rfl
  | cons x S ih => exact fun a => ih (pf x a)
theorem putAll_first {fl : List (Nat × Nat × Nat)} (hd : ∀ x ∈ fl, ∀ y ∈ fl, (x.1 = y.1 ∨ x.2.1 ≠ y.2.1) ∧ x.2.2 ≠ y.2.1) {S T : List (Nat × Nat × Nat)} {x : Nat × Nat × Nat} {a : Act} (hx : x ∈ fl) (hS : ∀ y ∈ S, y ∈ fl ∧ y.1 ≠ x.1) : putAll (S ++ x :: T) a = putAll (S ++ T) (pf x a) := by
  rw [putAll_app, putAll_app, putAll_pf hd hx S a hS]
  rfl
theorem putAll_eval : ∀ {S : List (Nat × Nat × Nat)} {a : Act} {t : Nat}, (∀ x ∈ S, t ≠ x.2.1) → (putAll S a).eval (.tmp t) = a.eval (.tmp t)
  | [], _, _, _ => rfl
  | x :: S, a, t, h => by
    show (putAll S (pf x a)).eval (.tmp t) = _
    rw [putAll_eval fun y hy => h y (List.mem_cons_of_mem _ hy), pf_eval (h x List.mem_cons_self)]
section
variable {P : Program} {ops : Array Oper} {Q : Exit → Act → World → Prop}
theorem wp_region_floats {id : Nat} {dr : Bool} {a : Act} {w : World} (m : Nat) (fl : List (Nat × Nat × Nat)) {mo : Oper} (hm : P.follows .mixedOrders = true) (hb : backOK ops = true) (hs : floatsOK ops m fl = true) (hfl : flOK ops m fl = true)
    (hmo : ops[m]? = some mo) (hmg : mo.guard = none) (hmd : mo.dst = none) (hsel : ∀ cs b, mo.op ≠ .select cs b) (hnd : ∀ y ∈ fl, ∀ x ∈ mo.op.operands, x ≠ .tmp y.2.1)
    (I : Array Bool → Act → World → Prop)
    (h0 : ∀ w', (w' = w ∨ w' = w.drew) → I (Array.replicate (ops.toList.take m).toArray.size false) a w')
    (hstep : ∀ D a w i o, D.size = (ops.toList.take m).toArray.size → I D a w → (ops.toList.take m).toArray[i]? = some o → D.getD i true = false → readyAt (ops.toList.take m).toArray D i →
      wpOp P (ops.toList.take m).toArray (Exit.then (fun a w => wpList P ops Q (ops.toList.drop m) a w ∧ ∃ w1, (execOp a.eval mo).run P w = .ok .skip w1 ∧ wpList P ops Q (ops.toList.drop (m + 1)) a w1) Q) i (I (D.setIfInBounds i true)) a w)
    (hend : ∀ D a w, D.size = (ops.toList.take m).toArray.size → (∀ i, i < (ops.toList.take m).toArray.size → D.getD i false = true) → I D a w → wpList P ops Q (ops.toList.drop m) a w ∧ ∃ w1, (execOp a.eval mo).run P w = .ok .skip w1 ∧ wpList P ops Q (ops.toList.drop (m + 1)) a w1) :
    (Code.region id ops dr).wp P Q a w := by
  unfold floatsOK at hs
  simp only [Bool.and_eq_true, decide_eq_true_eq] at hs
  obtain ⟨⟨hms, hso⟩, hgs⟩ := hs
  obtain ⟨hfi, hfn, hfd⟩ := flOK_i hfl
  have hsz : (ops.toList.take m).toArray.size = m := by simp; omega
  rw [hsz] at h0 hstep hend
  have hord : ∀ j, m ≤ j → j < ops.size → ∀ i, i < j → ¬ (i ∈ fl.map (·.1) ∧ j = m) → befHas (Region.before ops) j i = true := by
    intro j hmj hj i hij hex
    have h1 := List.all_eq_true.1 hso j (List.mem_range.2 hj)
    rw [Bool.or_eq_true] at h1
    rcases h1 with h1 | h1
    · exact absurd (of_decide_eq_true h1) (by omega)
    · have h2 := List.all_eq_true.1 h1 i (List.mem_range.2 hij)
      rw [Bool.or_eq_true] at h2
      rcases h2 with h2 | h2
      · simp only [Bool.and_eq_true, beq_iff_eq, List.contains_iff_mem] at h2
        exact absurd h2 hex
      · exact h2
  have hgd : ∀ (D : Array Bool) (i : Nat), i < D.size → D.getD i true = false → D.getD i false = false := by
    intro D i hi h
    simp only [Array.getD_eq_getD_getElem?, Array.getElem?_eq_getElem hi, Option.getD_some] at h ⊢
    exact h
  have hgd' : ∀ (D : Array Bool) (i : Nat), i < D.size → D.getD i false = false → D.getD i true = false := by
    intro D i hi h
    simp only [Array.getD_eq_getD_getElem?, Array.getElem?_eq_getElem hi, Option.getD_some] at h ⊢
    exact h
  have hedge : ∀ i o, ops[i]? = some o → ∀ e ∈ o.after, Region.binds .any e = true → e.on < i := by
    intro i o ho e he hbe
    have hi : i < ops.size := (Array.getElem?_eq_some_iff.1 ho).1
    have hk := List.all_eq_true.1 hb i (List.mem_range.2 hi)
    rw [ho] at hk
    have hlt := (Array.all_eq_true_iff_forall_mem.1 hk) e he
    rw [hbe] at hlt
    simpa using hlt
  refine wp_region_inv hm hb (fun D a w => Closed ops D ∧ ((∃ D' : Array Bool, D'.size = m ∧ (∀ i, i < m → D'.getD i false = D.getD i false) ∧ (∀ j, m ≤ j → D.getD j false = false) ∧ I D' a w) ∨
      (∃ n, m ≤ n ∧ n ≤ ops.size ∧ (∀ i, i < ops.size → (D.getD i false = true ↔ i < n)) ∧ wpList P ops Q (ops.toList.drop n) a w) ∨ (∃ S, S ≠ [] ∧ (∀ x ∈ S, x ∈ fl) ∧ (S.map (·.1)).Nodup ∧ (∀ i, i < ops.size → (D.getD i false = true ↔ i ≤ m ∧ i ∉ S.map (·.1))) ∧ wpList P ops Q (ops.toList.drop (m + 1)) (putAll S a) w))) ?_ ?_ ?_
  · intro w' hw'
    have hno : ∀ (n j : Nat), (Array.replicate n false).getD j false = false := by
      intro n j
      rw [Array.getD_eq_getD_getElem?, Array.getElem?_replicate]
      split <;> simp
    exact ⟨fun j hj => absurd hj (by rw [hno]; simp), .inl ⟨_, by simp, fun i _ => by rw [hno, hno], fun j _ => hno _ _, h0 w' hw'⟩⟩
  · rintro D a w i o hD ⟨hc, hI⟩ ho hd hr
    have hi : i < ops.size := (Array.getElem?_eq_some_iff.1 ho).1
    have hdf := hgd D i (by omega) hd
    have hgset : ∀ j, (D.setIfInBounds i true).getD j false = true ↔ j = i ∨ D.getD j false = true := fun j => get_set (by omega)
    have hc' : Closed ops (D.setIfInBounds i true) := by
      intro j hj
      rcases (hgset j).1 hj with rfl | hj
      · exact fun o' ho' e he hbe => (hgset e.on).2 (.inr (hr o' ho' e he hbe))
      · exact fun o' ho' e he hbe => (hgset e.on).2 (.inr (hc j hj o' ho' e he hbe))
    have row : ∀ n, n = i → m ≤ n → (∀ j, j < i → D.getD j false = true) → (∀ j, i ≤ j → j < ops.size → D.getD j false = false) → wpList P ops Q (ops.toList.drop n) a w →
        wpOp P ops Q i (fun a w => Closed ops (D.setIfInBounds i true) ∧ ((∃ D' : Array Bool, D'.size = m ∧ (∀ k, k < m → D'.getD k false = (D.setIfInBounds i true).getD k false) ∧ (∀ j, m ≤ j → (D.setIfInBounds i true).getD j false = false) ∧ I D' a w) ∨
          (∃ n, m ≤ n ∧ n ≤ ops.size ∧ (∀ k, k < ops.size → ((D.setIfInBounds i true).getD k false = true ↔ k < n)) ∧ wpList P ops Q (ops.toList.drop n) a w) ∨ (∃ S, S ≠ [] ∧ (∀ x ∈ S, x ∈ fl) ∧ (S.map (·.1)).Nodup ∧ (∀ k, k < ops.size → ((D.setIfInBounds i true).getD k false = true ↔ k ≤ m ∧ k ∉ S.map (·.1))) ∧ wpList P ops Q (ops.toList.drop (m + 1)) (putAll S a) w))) a w := by
      rintro n rfl hmn hlt hge h
      refine wpOp_mono (K := wpList P ops Q (ops.toList.drop (n + 1))) (fun a' w' h' => ⟨hc', .inr (.inl ⟨n + 1, by omega, by omega, fun k hk => ?_, h'⟩)⟩) ?_
      · rw [hgset]
        constructor
        · rintro (rfl | h)
          · omega
          · rcases Nat.lt_or_ge k n with hk' | hk'
            · omega
            · rw [hge k hk' hk] at h; cases h
        · intro hkn
          rcases Nat.lt_or_ge k n with hk' | hk'
          · exact .inr (hlt k hk')
          · exact .inl (by omega)
      · have hdrop : ops.toList.drop n = o :: ops.toList.drop (n + 1) := by
          have hoe : o = ops.toList[n]'(by simpa using hi) := by
            rw [Array.getElem?_eq_getElem hi] at ho
            injection ho with ho
            rw [← ho]; simp
          rw [hoe]
          exact List.drop_eq_getElem_cons (by simpa using hi)
        rw [hdrop] at h
        unfold wpOp
        rw [ho]
        exact h
    rcases hI with ⟨D', hD', hDD, hDm, hI⟩ | ⟨n, hmn, hns, hDn, hI⟩ | ⟨S, hS0, hSf, hSn, hDn, hI⟩
    · rcases Nat.lt_or_ge i m with him | him
      · have hgo : (match o.guard with | some (g, _) => decide (g < m) | none => true) = true := by
          refine List.all_eq_true.1 hgs o ?_
          rw [List.mem_take_iff_getElem]
          refine ⟨i, by simp; omega, ?_⟩
          rw [Array.getElem?_eq_getElem hi] at ho
          injection ho with ho
        refine wpOp_take (N := fun a w => wpList P ops Q (ops.toList.drop m) a w ∧ ∃ w1, (execOp a.eval mo).run P w = .ok .skip w1 ∧ wpList P ops Q (ops.toList.drop (m + 1)) a w1) him ho hgo ?_
        refine wpOp_mono (fun a' w' h' => ?_) (hstep D' a w i o hD' hI (by simp [him, ho]) (hgd' D' i (by omega) (by rw [hDD i him]; exact hdf)) fun o' ho' e he hbe => ?_)
        · refine ⟨hc', .inl ⟨D'.setIfInBounds i true, by simpa using hD', fun k hk => ?_, fun j hj => ?_, h'⟩⟩
          · by_cases e : k = i
            · subst e
              rw [(get_set (D := D') (by omega)).2 (.inl rfl), (hgset k).2 (.inl rfl)]
            · have e' : i ≠ k := fun h => e h.symm
              simp only [Array.getD_eq_getD_getElem?, Array.getElem?_setIfInBounds_ne e']
              have := hDD k hk
              simpa only [Array.getD_eq_getD_getElem?] using this
          · cases hq : (D.setIfInBounds i true).getD j false with
            | false => rfl
            | true =>
              rcases (hgset j).1 hq with rfl | hq
              · omega
              · rw [hDm j hj] at hq; cases hq
        · have hoo : ops[i]? = some o' := by simpa [him] using ho'
          have hlt := hedge i o' hoo e he hbe
          rw [hDD e.on (by omega)]
          exact hr o' hoo e he hbe
      · have hie : i = m := by
          rcases Nat.lt_or_ge m i with h | h
          · have := before_done hb hc i m hr (hord i him hi m h (by omega))
            rw [hDm m (Nat.le_refl _)] at this
            cases this
          · omega
        subst hie
        have hall0 : ∀ j, j < i → j ∉ fl.map (·.1) → D.getD j false = true := fun j hj hne => before_done hb hc i j hr (hord i (Nat.le_refl _) hi j hj (fun h => hne h.1))
        obtain ⟨S, hSe⟩ : ∃ S, S = fl.filter fun x => !D.getD x.1 false := ⟨_, rfl⟩
        have hSf : ∀ x ∈ S, x ∈ fl := fun x hx => by rw [hSe] at hx; exact (List.mem_filter.1 hx).1
        have hSD : ∀ x ∈ S, D.getD x.1 false = false := fun x hx => by rw [hSe] at hx; simpa using (List.mem_filter.1 hx).2
        have hSn : (S.map (·.1)).Nodup := by rw [hSe]; exact hfn.sublist ((List.filter_sublist).map _)
        have hDn : ∀ j, j < i → (D.getD j false = true ↔ j ∉ S.map (·.1)) := fun j hj => by
          constructor
          · intro h hm
            obtain ⟨x, hx, rfl⟩ := List.mem_map.1 hm
            rw [hSD x hx] at h; cases h
          · intro h
            by_cases hf : j ∈ fl.map (·.1)
            · obtain ⟨x, hx, rfl⟩ := List.mem_map.1 hf
              cases hq : D.getD x.1 false with
              | true => rfl
              | false => exact absurd (List.mem_map_of_mem (by rw [hSe]; exact List.mem_filter.2 ⟨hx, by rw [hq]; rfl⟩)) h
            · exact hall0 j hj hf
        cases hSc : S with
        | nil =>
          have hall : ∀ j, j < i → D.getD j false = true := fun j hj => (hDn j hj).2 (by rw [hSc]; simp)
          exact row i rfl (Nat.le_refl _) hall (fun j hj hjs => hDm j (by omega)) (hend D' a w hD' (fun k hk => by rw [hDD k hk]; exact hall k (by omega)) hI).1
        | cons x0 S0 =>
          have hSne : S ≠ [] := by rw [hSc]; simp
          clear hSc x0 S0
          have many : ∀ (T : List (Nat × Nat × Nat)) (D2 : Array Bool) (a2 : Act), (∀ x ∈ T, x ∈ fl) → (T.map (·.1)).Nodup → D2.size = i → (∀ x ∈ T, D2.getD x.1 false = false) → (∀ j, j < i → j ∉ T.map (·.1) → D2.getD j false = true) → I D2 a2 w → ∃ D3 : Array Bool, D3.size = i ∧ (∀ j, j < i → D3.getD j false = true) ∧ I D3 (putAll T a2) w := by
            intro T
            induction T with
            | nil => exact fun D2 a2 _ _ hs _ hd hI => ⟨D2, hs, fun j hj => hd j hj (by simp), hI⟩
            | cons x T ih =>
              intro D2 a2 hTf hTn hs2 hTD hd2 hI2
              obtain ⟨hxm, fo, hfo1, hfo2, hfo3, hfo4, hfo5⟩ := hfi x (hTf x List.mem_cons_self)
              rw [List.map_cons, List.nodup_cons] at hTn
              have hst := hstep D2 a2 w x.1 fo hs2 hI2 (by simp [hxm, hfo1]) (hgd' D2 x.1 (by omega) (hTD x List.mem_cons_self)) (fun o' ho' e he hbe => by
                have hoo : ops[x.1]? = some o' := by simpa [hxm] using ho'
                have hlt := hedge x.1 o' hoo e he hbe
                have hoe : o' = fo := by rw [hfo1] at hoo; injection hoo with hoo; exact hoo.symm
                subst hoe
                refine hd2 e.on (by omega) fun hm => hfo5 e he hbe ?_
                obtain ⟨y, hy, hye⟩ := List.mem_map.1 hm
                rw [← hye]
                exact List.mem_map_of_mem (hTf y hy))
              have hrunf : execOp a2.eval fo = (pure (.value (a2.eval (.tmp x.2.2))) : Sem Next) := by
                cases fo
                simp only at hfo2
                subst hfo2
                rfl
              have hI3 : I (D2.setIfInBounds x.1 true) (pf x a2) w := by
                unfold wpOp at hst
                have hpf : (ops.toList.take i).toArray[x.1]? = some fo := by simp [hxm, hfo1]
                rw [hpf] at hst
                have hwt : ∀ y, Region.wanted fo y = true := fun y => by unfold Region.wanted; rw [hfo4]
                simp only [hwt, if_true] at hst
                rcases hst with hst | hst
                · unfold Oper.wp at hst
                  rw [hrunf, Sem.run_pure, Oper.upon_value, hfo3] at hst
                  exact hst
                · have := hst.1.1
                  rw [hrunf] at this
                  exact absurd this (by show ¬ noRoomEvent ∈ (#[] : Array _); simp)
              exact ih (D2.setIfInBounds x.1 true) (pf x a2) (fun y hy => hTf y (List.mem_cons_of_mem _ hy)) hTn.2 (by simpa using hs2) (fun y hy => by
                cases hq : (D2.setIfInBounds x.1 true).getD y.1 false with
                | false => rfl
                | true =>
                  rcases (get_set (D := D2) (by omega)).1 hq with e | e
                  · exact absurd (e ▸ List.mem_map_of_mem hy) hTn.1
                  · rw [hTD y (List.mem_cons_of_mem _ hy)] at e; cases e) (fun j hj hnm => (get_set (D := D2) (by omega)).2 (by
                by_cases e : j = x.1
                · exact .inl e
                · exact .inr (hd2 j hj (by rw [List.map_cons, List.mem_cons]; exact fun h => h.elim e hnm)))) hI3
          obtain ⟨D3, hs3, hd3, hI3⟩ := many S D' a hSf hSn hD' (fun x hx => by rw [hDD x.1 (hfi x (hSf x hx)).lt]; exact hSD x hx) (fun j hj hnm => by rw [hDD j hj]; exact (hDn j hj).2 hnm) hI
          obtain ⟨_, w1, hr1, hl1⟩ := hend D3 _ w hs3 hd3 hI3
          have hcg : execOp (putAll S a).eval mo = execOp a.eval mo := execOp_congr mo hsel fun x hx => by
            cases x with
            | tmp t => exact putAll_eval fun y hy e => hnd y (hSf y hy) _ hx (by rw [e])
            | _ => rfl
          rw [hcg] at hr1
          have heo : o = mo := by rw [ho] at hmo; injection hmo
          unfold wpOp
          rw [ho]
          have hwt : ∀ y, Region.wanted o y = true := fun y => by unfold Region.wanted; rw [heo, hmg]
          simp only [hwt, if_true]
          refine .inl ?_
          unfold Oper.wp
          rw [heo, hr1, Oper.upon_skip, hmd]
          refine ⟨hc', .inr (.inr ⟨S, hSne, hSf, hSn, fun k hk => ?_, hl1⟩)⟩
          rw [hgset]
          constructor
          · rintro (rfl | h)
            · refine ⟨Nat.le_refl _, fun hm => ?_⟩
              obtain ⟨x, hx, hxe⟩ := List.mem_map.1 hm
              have := (hfi x (hSf x hx)).lt
              omega
            · rcases Nat.lt_or_ge k i with hk' | hk'
              · exact ⟨by omega, (hDn k hk').1 h⟩
              · rw [hDm k hk'] at h; cases h
          · rintro ⟨h1, h2⟩
            rcases Nat.lt_or_eq_of_le h1 with h3 | h3
            · exact .inr ((hDn k h3).2 h2)
            · exact .inl h3
    · have hin : n ≤ i := by
        rcases Nat.lt_or_ge i n with h | h
        · rw [(hDn i hi).2 h] at hdf; cases hdf
        · exact h
      have hall : ∀ j, j < i → D.getD j false = true := fun j hj => by
        by_cases hex : j ∈ fl.map (·.1) ∧ i = m
        · exact (hDn j (by omega)).2 (by omega)
        · exact before_done hb hc i j hr (hord i (by omega) hi j hj hex)
      have hie : i = n := by
        rcases Nat.lt_or_ge n i with h | h
        · have := (hDn n (by omega)).1 (hall n h)
          omega
        · omega
      refine row n hie.symm hmn hall (fun j hj hjs => ?_) hI
      cases hq : D.getD j false with
      | false => rfl
      | true => have := (hDn j hjs).1 hq; omega
    · have hif : i ∈ S.map (·.1) := by
        by_cases e : i ∈ S.map (·.1)
        · exact e
        · exfalso
          have him : m < i := by
            rcases Nat.lt_or_ge m i with h | h
            · exact h
            · rw [(hDn i hi).2 ⟨h, e⟩] at hdf; cases hdf
          obtain ⟨x, hx⟩ := List.exists_mem_of_ne_nil S hS0
          have hxl := (hfi x (hSf x hx)).lt
          have := before_done hb hc i x.1 hr (hord i (by omega) hi x.1 (by omega) (by omega))
          exact ((hDn x.1 (by omega)).1 this).2 (List.mem_map_of_mem hx)
      obtain ⟨x, hx, rfl⟩ := List.mem_map.1 hif
      obtain ⟨hxm, fo, hfo1, hfo2, hfo3, hfo4, _⟩ := hfi x (hSf x hx)
      have heo : o = fo := by rw [ho] at hfo1; injection hfo1
      subst heo
      have hms2 : m < ops.size := (Array.getElem?_eq_some_iff.1 hmo).1
      obtain ⟨S1, S2, rfl⟩ := List.append_of_mem hx
      have hne : ∀ y ∈ S1 ++ S2, y.1 ≠ x.1 := fun y hy e => by
        rw [List.map_append, List.map_cons] at hSn
        have h1 := (List.perm_middle.nodup_iff).1 hSn
        rw [List.nodup_cons] at h1
        exact h1.1 (by rw [← e, ← List.map_append]; exact List.mem_map_of_mem hy)
      have hsub : ∀ y ∈ S1 ++ S2, y ∈ S1 ++ x :: S2 := fun y hy => by
        rcases List.mem_append.1 hy with h | h
        · exact List.mem_append_left _ h
        · exact List.mem_append_right _ (List.mem_cons_of_mem _ h)
      unfold wpOp
      rw [ho]
      have hwt : ∀ y, Region.wanted o y = true := fun y => by unfold Region.wanted; rw [hfo4]
      simp only [hwt, if_true]
      refine .inl ?_
      have hrunf : execOp a.eval o = (pure (.value (a.eval (.tmp x.2.2))) : Sem Next) := by
        cases o
        simp only at hfo2
        subst hfo2
        rfl
      unfold Oper.wp
      rw [hrunf, Sem.run_pure, Oper.upon_value, hfo3]
      rw [putAll_first hfd (hSf x hx) (fun y hy => ⟨hSf y (List.mem_append_left _ hy), hne y (List.mem_append_left _ hy)⟩)] at hI
      have hD2 : ∀ k, k < ops.size → ((D.setIfInBounds x.1 true).getD k false = true ↔ k ≤ m ∧ k ∉ (S1 ++ S2).map (·.1)) := fun k hk => by
        rw [hgset, hDn k hk]
        constructor
        · rintro (rfl | ⟨h1, h2⟩)
          · refine ⟨by omega, fun hm => ?_⟩
            obtain ⟨y, hy, hye⟩ := List.mem_map.1 hm
            exact hne y hy hye
          · refine ⟨h1, fun hm => h2 ?_⟩
            obtain ⟨y, hy, hye⟩ := List.mem_map.1 hm
            exact List.mem_map.2 ⟨y, hsub y hy, hye⟩
        · rintro ⟨h1, h2⟩
          by_cases e : k = x.1
          · exact .inl e
          · refine .inr ⟨h1, fun hm => h2 ?_⟩
            obtain ⟨y, hy, hye⟩ := List.mem_map.1 hm
            refine List.mem_map.2 ⟨y, ?_, hye⟩
            rcases List.mem_append.1 hy with h | h
            · exact List.mem_append_left _ h
            · rcases List.mem_cons.1 h with rfl | h
              · exact absurd hye.symm e
              · exact List.mem_append_right _ h
      cases hSc : S1 ++ S2 with
      | nil =>
        rw [hSc] at hI hD2
        refine ⟨hc', .inr (.inl ⟨m + 1, by omega, by omega, fun k hk => ?_, hI⟩)⟩
        rw [hD2 k hk]
        simp only [List.map_nil, List.not_mem_nil, not_false_eq_true, and_true]
        omega
      | cons y T =>
        refine ⟨hc', .inr (.inr ⟨S1 ++ S2, by rw [hSc]; simp, fun z hz => hSf z (hsub z hz), ?_, hD2, hI⟩)⟩
        rw [List.map_append, List.map_cons] at hSn
        have h1 := (List.perm_middle.nodup_iff).1 hSn
        rw [List.nodup_cons, ← List.map_append] at h1
        exact h1.2
  · rintro D a w hD hall ⟨_, hI⟩
    rcases hI with ⟨D', hD', hDD, hDm, hI⟩ | ⟨n, hmn, hns, hDn, hI⟩ | ⟨S, hS0, hSf, hSn, hDn, hI⟩
    · have hme : m = ops.size := by
        rcases Nat.lt_or_ge m ops.size with h | h
        · have := hall m h
          rw [hDm m (Nat.le_refl _)] at this
          cases this
        · omega
      have := (hend D' a w hD' (fun k hk => by rw [hDD k hk]; exact hall k (by omega)) hI).1
      rw [List.drop_of_length_le (by simp; omega)] at this
      exact this
    · have hne : n = ops.size := by
        rcases Nat.lt_or_ge n ops.size with h | h
        · have := (hDn n h).1 (hall n h)
          omega
        · omega
      rw [List.drop_of_length_le (by simp; omega)] at hI
      exact hI
    · have hms2 : m < ops.size := (Array.getElem?_eq_some_iff.1 hmo).1
      obtain ⟨x, hx⟩ := List.exists_mem_of_ne_nil S hS0
      have hxl := (hfi x (hSf x hx)).lt
      exact absurd (List.mem_map_of_mem hx) ((hDn x.1 (by omega)).1 (hall x.1 (by omega))).2
end
section
variable {P : Program} {c : Ctx} {K : List (Nat × Ty)} {L L' : List Own} {Φ : List (World → Prop)} {Q : Exit → Act → World → Prop}
theorem J.regFs {id : Nat} {dr : Bool} {l : List Oper} (m : Nat) (fl : List (Nat × Nat × Nat)) {mo : Oper} (hmx : P.follows .mixedOrders = true) (hok : (backOK l.toArray && floatsOK l.toArray m fl && flOK l.toArray m fl && regOK (l.take m).toArray) = true)
    (hmo : l[m]? = some mo) (hmg : mo.guard = none) (hmd : mo.dst = none) (hsel : ∀ cs b, mo.op ≠ .select cs b) (hnd : ∀ y ∈ fl, ∀ x ∈ mo.op.operands, x ≠ .tmp y.2.1)
    (hdn : ((l.take m).toArray.all fun o => match o.dst with | some d => decide (d < c.n) | none => true) = true)
    (h : RT P (l.take m).toArray L Φ 0 (l.take m) K [] [] (FinS P c L Φ (Exit.then (fun a w => wpList P l.toArray Q (l.drop m) a w ∧ ∃ w1, (execOp a.eval mo).run P w = .ok .skip w1 ∧ wpList P l.toArray Q (l.drop (m + 1)) a w1) Q))) : J P c K L Φ (.region id l.toArray dr) Q := by
  refine ⟨?_⟩
  intro E a w hsa
  simp only [Bool.and_eq_true] at hok
  obtain ⟨⟨⟨hb, hs⟩, hf⟩, hr⟩ := hok
  obtain ⟨I, h0, h1, h2⟩ := region_inv (ops := (l.take m).toArray) (Lm := []) hr hdn h hsa
  exact wp_region_floats (ops := l.toArray) m fl hmx hb hs hf (by simpa using hmo) hmg hmd hsel hnd I h0 h1 h2
end
end Go.Vc
