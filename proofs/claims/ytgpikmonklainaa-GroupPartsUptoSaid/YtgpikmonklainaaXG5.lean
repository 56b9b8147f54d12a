/- The program logic, part 6. No condition. -/
import Derived.Test.YtgpikmonklainaaXG4
import Derived.Laws.Externs
namespace Go.Vc
open Go
structure RV where
  row : List V3
  a : Option Addr
  len : Nat
  cap : Nat
abbrev RV.v (p : RV) : Value := .slice p.a p.len p.cap
def RV.c (p : RV) : List Value := [.slice p.a p.len p.cap]
theorem RV.c_len (p : RV) : p.c.length = 1 := rfl
theorem RV.c_one (p : RV) : ∀ u ∈ p.c, u.oneCell' = true := fun u h => by
  rw [List.mem_singleton.1 h]; rfl
def RV.ok (p : RV) (w : World) : Prop := p.len ≤ p.cap ∧ RowR p.row p.a p.len w
def RVF (ps : List RV) (w : World) : Prop := ∀ p ∈ ps, p.ok w
abbrev RvG := List RV → Option Addr → Nat → Nat → World → Prop
def RowsR (G : RvG) (rows : List (List V3)) (v : Value) (w : World) : Prop := ∃ ps a len cap, ps.map RV.row = rows ∧ v = .slice a len cap ∧ len ≤ cap ∧ RowG RV.c 1 ps a len w ∧ RVF ps w ∧ G ps a len cap w
abbrev noG : RvG := fun _ _ _ _ _ => True
theorem rowG_off {ps : List RV} {b o len : Nat} {w : World} (h : RowG RV.c 1 ps (some ⟨b, o, none⟩) len w) (i : Nat) (p : RV) (hp : ps[i]? = some p) : w.cell? ⟨b, o + i, none⟩ = some p.v := by
  have := rowG_get h hp 0 p.v rfl
  simpa using this
theorem rv_ext {p q : RV} (h1 : p.row = q.row) (h2 : p.v = q.v) : p = q := by
  cases p; cases q
  simp_all
theorem cell_blk {w : World} {b o : Nat} {u : Value} (h : w.cell? ⟨b, o, none⟩ = some u) : ∃ (cs : Array Value) (t : TypeId) (fr : Nat × Nat), w.heap[b]? = some (.cells cs t fr) ∧ cs[o]? = some u := by
  unfold World.cell? at h
  split at h
  · rename_i cs t fr hb
    exact ⟨cs, t, fr, hb, by simpa using h⟩
  · cases h
theorem rows_fix {G : RvG} {rows : List (List V3)} {E : Nat → Prop} {v : Value} {w : World} (h : Pers E w (RowsR G rows v)) :
    ∃ ps a len cap, ps.map RV.row = rows ∧ v = .slice a len cap ∧ len ≤ cap ∧ ps.length = len ∧ (∃ b o, len ≠ 0 → a = some ⟨b, o, none⟩) ∧ Pers E w (RowG RV.c 1 ps a len) ∧ Pers E w (RVF ps) ∧ Pers E w (G ps a len cap) := by
  obtain ⟨ps, a, len, cap, hm, hv, hlc, hR, hF, hG⟩ := h.now
  have hb : ∃ b o, len ≠ 0 → a = some ⟨b, o, none⟩ := by
    by_cases hn : len = 0
    · exact ⟨0, 0, fun h => absurd hn h⟩
    · obtain ⟨b, o, e, _⟩ := hR.2 hn
      exact ⟨b, o, fun _ => e⟩
  have hne : ∀ b o, a = some ⟨b, o, none⟩ → len ≠ 0 → ¬ E b := by
    rintro b o rfl h0 hE
    have hl : 0 < ps.length := by rw [hR.1]; omega
    have h1 := rowG_off hR 0 ps[0] (List.getElem?_eq_getElem hl)
    obtain ⟨cs, t, fr, hb1, hb2⟩ := cell_blk h1
    have hbs := lt_of_get hb1
    have hk : Keeps E w { w with heap := w.heap.setIfInBounds b (.cells (Array.replicate cs.size undef) t fr) } := by
      refine ⟨rfl, rfl, rfl, by simp, fun q hq hx => ?_, fun q cs' t' fr' hq => ?_⟩
      · show (w.heap.setIfInBounds b _)[q]? = _
        rw [Array.getElem?_setIfInBounds_ne (fun e : b = q => hx (by rw [← e]; exact hE))]
      · by_cases e : b = q
        · subst e
          rw [hb1] at hq
          injection hq with hq
          injection hq with e1 e2 e3
          subst e1 e2 e3
          exact ⟨Array.replicate cs.size undef, by show (w.heap.setIfInBounds b _)[b]? = _; simp [hbs], by simp⟩
        · exact ⟨cs', by show (w.heap.setIfInBounds b _)[q]? = _; rw [Array.getElem?_setIfInBounds_ne e]; exact hq, rfl⟩
    obtain ⟨ps', a', len', cap', hm', hv', _, hR', _⟩ := h _ hk
    rw [hv] at hv'
    injection hv' with e1 e2 e3
    subst e1 e2 e3
    have hl' : 0 < ps'.length := by rw [hR'.1]; omega
    have h2 := rowG_off hR' 0 ps'[0] (List.getElem?_eq_getElem hl')
    have hb' : ({ w with heap := w.heap.setIfInBounds b (.cells (Array.replicate cs.size undef) t fr) } : World).heap[b]? = some (.cells (Array.replicate cs.size undef) t fr) := by
      show (w.heap.setIfInBounds b _)[b]? = _
      simp [hbs]
    rw [cell_of_blk hb'] at h2
    have h3 : (o + 0) < cs.size := (Array.getElem?_eq_some_iff.1 hb2).1
    rw [Array.getElem?_eq_getElem (by simpa using h3)] at h2
    simp [undef] at h2
  have key : ∀ w', Keeps E w w' → RowG RV.c 1 ps a len w' ∧ RVF ps w' ∧ G ps a len cap w' := by
    intro w' hk
    obtain ⟨ps', a', len', cap', hm', hv', _, hR', hF', hG'⟩ := h w' hk
    rw [hv] at hv'
    injection hv' with e1 e2 e3
    subst e1 e2 e3
    have e : ps' = ps := by
      refine List.ext_getElem (by rw [hR.1, hR'.1]) fun i h1 h2 => ?_
      have hrow : (ps'.map RV.row)[i]? = (ps.map RV.row)[i]? := by rw [hm, hm']
      simp only [List.getElem?_map, List.getElem?_eq_getElem h1, List.getElem?_eq_getElem h2, Option.map_some, Option.some.injEq] at hrow
      refine rv_ext hrow ?_
      have h0 : len ≠ 0 := by rw [← hR.1]; omega
      obtain ⟨b, o, rfl, _⟩ := hR.2 h0
      have k1 := rowG_off hR i ps[i] (List.getElem?_eq_getElem h2)
      have k2 := rowG_off hR' i ps'[i] (List.getElem?_eq_getElem h1)
      obtain ⟨cs, t, fr, q1, q2⟩ := cell_blk k1
      have q3 := hk.get q1 (hne b o rfl h0)
      rw [cell_of_blk q3, q2] at k2
      injection k2 with k2
      exact k2.symm
    subst e
    exact ⟨hR', hF', hG'⟩
  exact ⟨ps, a, len, cap, hm, hv, hlc, hR.1, hb, fun w' hk => (key w' hk).1, fun w' hk => (key w' hk).2.1, fun w' hk => (key w' hk).2.2⟩
section
variable {P : Program} {c : Ctx} {K : List (Nat × Ty)} {L : List Own} {Φ : List (World → Prop)} {Q : Exit → Act → World → Prop} {H : Know} {dst : Option Nat} {ty : TypeId} {pos : String} {after : Array Edge} {g : Option (Nat × Bool)}
theorem SA.openRows {G : RvG} {s : Nat} {rows : List (List V3)} {E : Nat → Prop} {a : Act} {w : World} (h : look K s = some (.rep (RowsR G rows))) (hs : SA c K L Φ E a w) :
    ∃ ps ad len cap b o, ps.map RV.row = rows ∧ ps.length = len ∧ len ≤ cap ∧ (len ≠ 0 → ad = some ⟨b, o, none⟩) ∧ SA c ((s, .is (.slice ad len cap)) :: K) L (G ps ad len cap :: RowG RV.c 1 ps ad len :: RVF ps :: Φ) E a w := by
  obtain ⟨ps, ad, len, cap, hm, hv, hlc, hl, ⟨b, o, hbo⟩, p1, p2, p3⟩ := rows_fix (hs.k s _ h : Pers E w (RowsR G rows (a.tmps.getD s undef)))
  refine ⟨ps, ad, len, cap, b, o, hm, hl, hlc, hbo, hs.n, hs.d, hs.wf, fun s' T' hl' => ?_, hs.l, hs.ld, fun F hF => ?_, hs.x, hs.xs, hs.keeps, hs.may⟩
  · simp only [look] at hl'
    cases hq : Nat.beq s s' with
    | true =>
      rw [hq, cond_true] at hl'
      injection hl' with hl'
      subst hl'
      rw [← Nat.eq_of_beq_eq_true hq]
      exact hv
    | false => rw [hq, cond_false] at hl'; exact hs.k s' T' hl'
  · rcases List.mem_cons.1 hF with rfl | hF
    · exact p3
    · rcases List.mem_cons.1 hF with rfl | hF
      · exact p1
      · rcases List.mem_cons.1 hF with rfl | hF
        · exact p2
        · exact hs.f F hF
theorem J.openRows {G : RvG} {x : Code} {s : Nat} {rows : List (List V3)} (h : look K s = some (.rep (RowsR G rows)))
    (hj : ∀ ps a len cap b o, ps.map RV.row = rows → ps.length = len → len ≤ cap → (len ≠ 0 → a = some ⟨b, o, none⟩) → J P c ((s, .is (.slice a len cap)) :: K) L (G ps a len cap :: RowG RV.c 1 ps a len :: RVF ps :: Φ) x Q) : J P c K L Φ x Q := by
  refine ⟨fun E a w hs => ?_⟩
  obtain ⟨ps, ad, len, cap, b, o, h1, h2, h3, h4, h5⟩ := hs.openRows h
  exact (hj ps ad len cap b o h1 h2 h3 h4).out E a w h5
theorem JO.openRows {G : RvG} {ops : Array Oper} {l : List Oper} {s : Nat} {rows : List (List V3)} (h : look K s = some (.rep (RowsR G rows)))
    (hj : ∀ ps a len cap b o, ps.map RV.row = rows → ps.length = len → len ≤ cap → (len ≠ 0 → a = some ⟨b, o, none⟩) → JO P c ((s, .is (.slice a len cap)) :: K) L (G ps a len cap :: RowG RV.c 1 ps a len :: RVF ps :: Φ) ops l Q) : JO P c K L Φ ops l Q := by
  refine ⟨fun E a w hs => ?_⟩
  obtain ⟨ps, ad, len, cap, b, o, h1, h2, h3, h4, h5⟩ := hs.openRows h
  exact (hj ps ad len cap b o h1 h2 h3 h4).out E a w h5
theorem Sub.rv {ps : List RV} {p : RV} (hp : p ∈ ps) (hF : RVF ps ∈ Φ) : Sub L Φ (.is p.v) (.rep (SlC V3.cells 3 p.row)) := fun E v w hf e => by
  rw [show v = _ from e]
  exact fun w' hk => ⟨p.a, p.len, p.cap, rfl, (hf.2 _ hF w' hk p hp).1, (hf.2 _ hF w' hk p hp).2⟩
theorem Sub.rvS {ps : List RV} {p : RV} (hp : p ∈ ps) (hF : RVF ps ∈ Φ) : Sub L Φ (.is p.v) (.rep (RowS p.row)) := fun E v w hf e => by
  rw [show v = _ from e]
  exact fun w' hk => ⟨p.a, p.len, p.cap, rfl, (hf.2 _ hF w' hk p hp).2⟩
theorem ob_iface {xt : TypeId} {x : Operand} {v : Value} {d : TypeDesc} (hu : P.underlying xt = some d) (hd : (match d with | .interface _ => false | _ => true) = true) (hx : H x (.is v)) : Ob P L Φ H ⟨dst, .makeInterface xt x, ty, pos, after, g⟩ (.is (.iface xt v)) :=
  ob_is fun E w ρ hp => by
    have h1 : ρ x = v := hp.x x _ (by simp [Op.operands]) hx
    cases d <;> first | (cases hd; done) | simp [execOp, h1, Instr.makeInterface, run_underlying hu]
end
end Go.Vc

namespace Go.Vc
open Go
section
variable {P : Program} {L L0 : List Own} {Φ Φ0 : List (World → Prop)} {H : Know} {dst : Option Nat} {ty : TypeId} {pos : String} {after : Array Edge} {g : Option (Nat × Bool)} {Z : Type} {Zp : Z → Prop} {f : FuncId} {As : List Ty} {V : Value}
def AllIs (L0 : List Own) : Prop := ∀ o ∈ L0, ∃ V, o.T = .is V
theorem endL_same (h0 : AllIs L0) {E E' : Nat → Prop} {w w' : World} {z : Z} {v : Value} (hM : ∀ m ∈ L0, m.at E w) (h : EndL L0 Zp (fun _ => L0) (fun _ => .is V) E w z E' v w') : Keeps noX w w' ∧ (Ty.is V).p E v w' := by
  refine ⟨⟨h.k.os, h.k.tape, h.k.output, h.k.size, fun b hb _ => ?_, h.k.shp⟩, h.r⟩
  by_cases hm : b ∈ L0.map (·.b)
  · obtain ⟨o, ho, rfl⟩ := List.mem_map.1 hm
    obtain ⟨U, hU⟩ := h0 o ho
    rw [own_blk (hM o ho) hU, own_blk (h.l o ho) hU]
  · exact h.k.blk b hb hm
theorem ob_invO {t : TypeId} {name : String} {U : Value} {y : Operand} {xs : List Operand} {ats : Array TypeId} (hy : H y (.is (.iface t U))) (hm : methOf P t name = some f) (hc : CallL P f L0 Φ0 (.is U :: As) Zp (fun _ => L0) (fun _ => .is V)) (h0 : AllIs L0) (hL : ∀ o ∈ L0, o ∈ L) (hnd : ∀ E w, (∀ o ∈ L0, o.at E w) → (L0.map (·.b)).Nodup) (hΦ : ∀ F ∈ Φ0, F ∈ Φ) (ha : Args L Φ H xs As) :
    Ob P L Φ H ⟨dst, .call { callee := .invoke y name, args := xs.toArray, argTypes := ats }, ty, pos, after, g⟩ (.is V) := fun E w ρ hp => by
  have h1 : ρ y = .iface t U := hp.x y (.is (.iface t U)) (by simp [Op.operands, Call.operands]) hy
  have hall := ha.all (ρ := ρ) (pre_facts hp) fun x T hx => hp.x x T (by simp [Op.operands, Call.operands, hx])
  have hM : ∀ m ∈ L0, m.at E w := fun m hm => hp.l m (hL m hm)
  have h3 := run_callL (vs := U :: xs.map ρ) hc hΦ hp.wf hp.f ⟨rfl, hall⟩ hM (hnd E w hM)
  have h2 := Meth.of hm U w
  have h4 : List.take xs.length (List.map ρ xs) = List.map ρ xs := List.take_of_length_le (by simp)
  simp only [execOp, resolve, h1, invoke, Sem.run_bind, Sem.run_pure, Result.andThen_ok, List.map_toArray]
  refine Runs.mono (by simpa [callMethod, h2, h4] using h3) ?_
  rintro v w' ⟨z, E', he⟩
  exact endL_same h0 hM he
theorem ob_minN {x y : Operand} {ats : Array TypeId} {k k' : IntKind} {a b : Nat} (hx : H x (.is (.int k (a : Nat)))) (hy : H y (.is (.int k' (b : Nat)))) : Ob P L Φ H ⟨dst, .call { callee := .builtin .min, args := #[x, y], argTypes := ats }, ty, pos, after, g⟩ (.is (.int k (min a b : Nat))) :=
  ob_is fun E w ρ hp => by
    have h1 : ρ x = .int k a := hp.x x _ (by simp [Op.operands, Call.operands]) hx
    have h2 : ρ y = .int k' b := hp.x y _ (by simp [Op.operands, Call.operands]) hy
    have h3 : (if (b : Int) < (a : Int) then (b : Int) else (a : Int)) = ((min a b : Nat) : Int) := by split <;> omega
    simp only [execOp, resolve, invoke, builtin, Builtin.min_, Builtin.min2, h1, h2, List.map_toArray, List.map_cons, List.map_nil]
    simp [Builtin.min2, h1, h2]
    split <;> omega
end
end Go.Vc

namespace Go.Vc
open Go
def floatOK (ops : Array Oper) (m f : Nat) : Bool :=
  let B := Region.before ops
  decide (m ≤ ops.size) && ((List.range ops.size).all fun j => decide (j < m) || (List.range j).all fun i => (i == f && j == m) || befHas B j i) &&
  ((ops.toList.take m).all fun o => match o.guard with | some (g, _) => decide (g < m) | none => true)
section
variable {P : Program} {ops : Array Oper} {Q : Exit → Act → World → Prop}
end
section
variable {P : Program} {c : Ctx} {K : List (Nat × Ty)} {L L' : List Own} {Φ : List (World → Prop)} {Q : Exit → Act → World → Prop}
theorem FinS.tailF {ops : Array Oper} {rest : List Oper} {t : TypeId} {p x : Operand} {ty : TypeId} {pos : String} {after : Array Edge} (hm : L'.map (·.b) = L.map (·.b)) (h : ObM P [] Φ (Kn K) L ⟨none, .store t p x, ty, pos, after, none⟩ .any L') (hn : JO P c K L' Φ ops rest Q) :
    FinS P c L Φ (Exit.then (fun a w => wpList P ops Q (⟨none, .store t p x, ty, pos, after, none⟩ :: rest) a w ∧ ∃ w1, (execOp a.eval ⟨none, .store t p x, ty, pos, after, none⟩).run P w = .ok .skip w1 ∧ wpList P ops Q rest a w1) Q) K [] [] := by
  intro E a w hs
  refine ⟨(JO.chg rfl (fun d e => by cases e) hm h (show JO P c (putK none .any K) L' Φ ops rest Q from hn)).out E a w hs, ?_⟩
  have hsub : ∀ b, b ∈ L.map (·.b) → E b := fun b hb => by obtain ⟨m, hm, rfl⟩ := List.mem_map.1 hb; exact (hs.l m hm).1
  have hmay : ∀ b, b ∈ L.map (·.b) → c.X0 b ∨ c.W0.heap.size ≤ b := fun b hb => by obtain ⟨m, hm, rfl⟩ := List.mem_map.1 hb; exact hs.may m hm
  have hR := h E w a.eval ⟨hs.wf, (fun _ h => (List.not_mem_nil h).elim), hs.f, fun x T' _ hx => opTy_eval hs hx⟩ hs.l hs.ld
  have hrun : ∃ w1, (execOp a.eval ⟨none, .store t p x, ty, pos, after, none⟩).run P w = .ok .skip w1 := by
    cases hq : (Instr.storeAt t (a.eval p) (a.eval x)).run P w with
    | ok u w1 => exact ⟨w1, by simp [execOp, hq]⟩
    | halt hh w1 =>
      have : (execOp a.eval ⟨none, .store t p x, ty, pos, after, none⟩).run P w = .halt hh w1 := by simp [execOp, hq]
      rw [this] at hR
      exact hR.elim
  obtain ⟨w1, hr⟩ := hrun
  rw [hr] at hR
  obtain ⟨hk, hT, hL⟩ := hR
  refine ⟨w1, hr, ?_⟩
  have hev : Ev E w E w1 := Ev.of_keeps (hk.mono fun b _ => hsub b)
  exact hn.out E _ _ (hs.put (dst := none) (T := .any) (v := undef) hev (fun b hb => Nat.lt_of_lt_of_le (hs.wf b hb) hk.size) hT (fun d e => by cases e) hL (by rw [hm]; exact hs.ld) (hs.keeps.step hk hmay) fun o ho => hmay o.b (by rw [← hm]; exact List.mem_map_of_mem ho))
end
end Go.Vc

namespace Go.Vc
open Go
section
variable {P : Program} {L : List Own} {Φ : List (World → Prop)} {H : Know} {dst : Option Nat} {ty : TypeId} {pos : String} {after : Array Edge} {g : Option (Nat × Bool)}
theorem eqIn_nil (d : Nat) {xt e : TypeId} {a : Option Addr} {n m n' m' : Nat} {w : World} (hu : P.underlying xt = some (.slice e)) : (Op.equalIn (d + 1) xt (.slice a n m) (.slice none n' m')).run P w = .ok a.isNone w := by
  unfold Op.equalIn
  cases a <;> simp [run_underlying hu]
theorem ob_nilS {xt yt e : TypeId} {x y : Operand} {a : Option Addr} {n m n' m' : Nat} (hu : P.underlying xt = some (.slice e)) (hx : H x (.is (.slice a n m))) (hy : H y (.is (.slice none n' m'))) : Ob P L Φ H ⟨dst, .binOp .eql xt x y yt, ty, pos, after, g⟩ (.is (.bool a.isNone)) :=
  ob_bin hx hy fun w => by
    have h : (Op.equal xt (.slice a n m) (.slice none n' m')).run P w = .ok a.isNone w := eqIn_nil 9999 hu
    simp only [eqGuard, binOp, Sem.run_bind, Sem.run_pure, Result.andThen_ok]
    simp [h]
def fldSl (P : Program) (t : TypeId) (i : Nat) : Option (Nat × TypeId) :=
  match P.underlying t with
  | some (.struct fs) =>
    match fs[i]? with
    | some f =>
      match P.underlying f.type with
      | some (.slice e) => some (f.offset, e)
      | _ => none
    | none => none
  | _ => none
end
def SlF {α : Type} (N : Nat) (e : TypeId) (en : α → List Value) (sz : Nat) (xs : List α) (v : Value) (w : World) : Prop := ∃ a len cap, v = .slice a len cap ∧ len ≤ cap ∧ RowG en sz xs a len w ∧ FreshW N e a len cap sz w
section
variable {α : Type} {en : α → List Value} {sz : Nat} {P : Program} {c : Ctx} {K K' : List (Nat × Ty)} {L L' : List Own} {Φ Φ0 : List (World → Prop)} {Q : Exit → Act → World → Prop}
def Shp (b : Nat) (e : TypeId) (n : Nat) (w : World) : Prop := ∃ cs : Array Value, w.heap[b]? = some (.cells cs e (0, 0)) ∧ cs.size = n
def Stay (e : TypeId) (E0 : Nat → Prop) (w0 : World) (F : World → Prop) : Prop := ∀ E w, Pers E w (Keeps E0 w0) → Pers E w F → ∀ b n, w0.heap.size ≤ b → Shp b e n w → Pers (fun q => E q ∨ q = b) w F
end
end Go.Vc

namespace Go.Vc
open Go
def floatsOK (ops : Array Oper) (m : Nat) (fl : List (Nat × Nat × Nat)) : Bool :=
  let B := Region.before ops
  decide (m ≤ ops.size) && ((List.range ops.size).all fun j => decide (j < m) || (List.range j).all fun i => ((fl.map (·.1)).contains i && j == m) || befHas B j i) &&
  ((ops.toList.take m).all fun o => match o.guard with | some (g, _) => decide (g < m) | none => true)
def flOK (ops : Array Oper) (m : Nat) (fl : List (Nat × Nat × Nat)) : Bool :=
  (fl.all fun x => decide (x.1 < m) && match ops[x.1]? with
    | some fo => (match fo.op with | .move (.tmp s) => s == x.2.2 | _ => false) && (fo.dst == some x.2.1) && fo.guard.isNone && (fo.after.all fun e => !Region.binds .any e || !(fl.map (·.1)).contains e.on)
    | none => false) && decide (fl.map (·.1)).Nodup && (fl.all fun x => fl.all fun y => (x.1 == y.1 || x.2.1 != y.2.1) && x.2.2 != y.2.1)
structure FlI (ops : Array Oper) (m : Nat) (fl : List (Nat × Nat × Nat)) (x : Nat × Nat × Nat) : Prop where
  lt : x.1 < m
  op : ∃ fo, ops[x.1]? = some fo ∧ fo.op = .move (.tmp x.2.2) ∧ fo.dst = some x.2.1 ∧ fo.guard = none ∧ ∀ e ∈ fo.after, Region.binds .any e = true → e.on ∉ fl.map (·.1)
def pf (x : Nat × Nat × Nat) (a : Act) : Act := a.put (some x.2.1) (a.eval (.tmp x.2.2))
def putAll : List (Nat × Nat × Nat) → Act → Act
  | [], a => a
  | x :: S, a => putAll S (pf x a)
theorem put_comm (a : Act) {d d' : Nat} (h : d ≠ d') (v v' : Value) : (a.put (some d) v).put (some d') v' = (a.put (some d') v').put (some d) v := by
  simp only [Act.put]
  rw [Array.setIfInBounds_comm _ _ h]
section
variable {P : Program} {ops : Array Oper} {Q : Exit → Act → World → Prop}
end
section
variable {P : Program} {c : Ctx} {K : List (Nat × Ty)} {L L' : List Own} {Φ : List (World → Prop)} {Q : Exit → Act → World → Prop}
end
end Go.Vc

namespace Go.Vc
open Go
structure Flo where
  f : Nat
  d : Nat
  deps : List Nat
def flsOK (ops : Array Oper) (m : Nat) (fl : List Flo) (base : List Nat) (n : Nat) : Bool :=
  (fl.all fun x => decide (x.f < m) && decide (x.d < n) && match ops[x.f]? with
    | some fo => (fo.dst == some x.d) && fo.guard.isNone && x.deps.all fun s => base.contains s || fl.any fun y => y.d == s && fo.after.any fun e => Region.binds .any e && e.on == y.f
    | none => false) && decide ((fl.map (·.f)).Pairwise (· < ·)) && decide (fl.map (·.d)).Nodup &&
  ((ops.toList.take m).all fun o => match o.dst with | some d => !base.contains d | none => true) &&
  ((List.range m).all fun i => match ops[i]? with | some o => (match o.dst with | some d => fl.all fun x => x.d != d || x.f == i | none => true) | none => true) &&
  (fl.all fun x => !base.contains x.d)
structure FlsI (ops : Array Oper) (m n : Nat) (fl : List Flo) (base : List Nat) (x : Flo) : Prop where
  lt : x.f < m
  dn : x.d < n
  nb : x.d ∉ base
  op : ∃ fo, ops[x.f]? = some fo ∧ fo.dst = some x.d ∧ fo.guard = none ∧ ∀ s ∈ x.deps, s ∈ base ∨ ∃ y ∈ fl, y.d = s ∧ ∃ e ∈ fo.after, Region.binds .any e = true ∧ e.on = y.f
theorem flsOK_i {ops : Array Oper} {m n : Nat} {fl : List Flo} {base : List Nat} (h : flsOK ops m fl base n = true) : (∀ x ∈ fl, FlsI ops m n fl base x) ∧ (fl.map (·.f)).Pairwise (· < ·) ∧ (fl.map (·.d)).Nodup ∧
    (∀ i o d, i < m → ops[i]? = some o → o.dst = some d → d ∉ base) ∧ ∀ i o d, i < m → ops[i]? = some o → o.dst = some d → ∀ x ∈ fl, x.d = d → x.f = i := by
  unfold flsOK at h
  simp only [Bool.and_eq_true] at h
  obtain ⟨⟨⟨⟨⟨h1, h2⟩, h3⟩, h4⟩, h5⟩, h6⟩ := h
  refine ⟨fun x hx => ?_, of_decide_eq_true h2, of_decide_eq_true h3, fun i o d hi ho hd hb => ?_, fun i o d hi ho hd x hx hxd => ?_⟩
  · have hh := List.all_eq_true.1 h1 x hx
    simp only [Bool.and_eq_true] at hh
    obtain ⟨⟨k1, k0⟩, k2⟩ := hh
    have hnb := List.all_eq_true.1 h6 x hx
    split at k2
    · rename_i fo hfo
      simp only [Bool.and_eq_true] at k2
      obtain ⟨⟨k4, k5⟩, k6⟩ := k2
      refine ⟨of_decide_eq_true k1, of_decide_eq_true k0, fun hb => ?_, fo, hfo, by simpa using k4, by simpa using k5, fun s hs => ?_⟩
      · rw [List.contains_iff_mem.2 hb] at hnb
        cases hnb
      · have h7 := List.all_eq_true.1 k6 s hs
        rw [Bool.or_eq_true] at h7
        rcases h7 with h7 | h7
        · exact .inl (List.contains_iff_mem.1 h7)
        · obtain ⟨y, hy, h8⟩ := List.any_eq_true.1 h7
          rw [Bool.and_eq_true, beq_iff_eq] at h8
          obtain ⟨e, he, h9⟩ := Array.any_eq_true.1 h8.2
          rw [Bool.and_eq_true, beq_iff_eq] at h9
          exact .inr ⟨y, hy, h8.1, _, Array.getElem_mem he, h9.1, h9.2⟩
    · cases k2
  · have hm : o ∈ ops.toList.take m := by
      rw [List.mem_take_iff_getElem]
      have hlt := (Array.getElem?_eq_some_iff.1 ho).1
      exact ⟨i, by simp; omega, by rw [Array.getElem?_eq_getElem hlt] at ho; injection ho⟩
    have h7 := List.all_eq_true.1 h4 o hm
    rw [hd] at h7
    simp only [Bool.not_eq_true'] at h7
    rw [List.contains_iff_mem.2 hb] at h7
    cases h7
  · have h7 := List.all_eq_true.1 h5 i (List.mem_range.2 hi)
    rw [ho] at h7
    simp only [hd] at h7
    have h8 := List.all_eq_true.1 h7 x hx
    simp only [Bool.or_eq_true, bne_iff_ne, beq_iff_eq] at h8
    exact h8.resolve_left (fun h => h hxd)
def FlS (P : Program) (ops : Array Oper) (σ : Nat → Value) : List Flo → Prop
  | [] => True
  | x :: fl => (∀ fo, ops[x.f]? = some fo → ∀ (a : Act), (∀ s ∈ x.deps, a.eval (.tmp s) = σ s) → execOp a.eval fo = (pure (.value (σ x.d)) : Sem Next)) ∧ FlS P ops σ fl
theorem FlS.mem {P : Program} {ops : Array Oper} {σ : Nat → Value} : ∀ {fl : List Flo}, FlS P ops σ fl → ∀ x ∈ fl, ∀ fo, ops[x.f]? = some fo → ∀ (a : Act), (∀ s ∈ x.deps, a.eval (.tmp s) = σ s) → execOp a.eval fo = (pure (.value (σ x.d)) : Sem Next)
  | [], _, _, hx => absurd hx List.not_mem_nil
  | _ :: _, h, x, hx => by
    rcases List.mem_cons.1 hx with rfl | hx
    · exact h.1
    · exact h.2.mem x hx
theorem eval_put_ne {a : Act} {d' : Option Nat} {v : Value} {t : Nat} (h : d' ≠ some t) : (a.put d' v).eval (.tmp t) = a.eval (.tmp t) := by
  have := slot_put_ne a d' v t h
  simpa [Act.eval, slotOf] using this
theorem eval_put_eq {a : Act} {d : Nat} {v : Value} (h : d < a.tmps.size) : (a.put (some d) v).eval (.tmp d) = v := by
  simp [Act.put, Act.eval, h]
theorem noAsk {P : Program} {o : Oper} {a : Act} {w : World} {v : Value} (h : execOp a.eval o = (pure (.value v) : Sem Next)) (hk : o.asks P a w) : False := by
  have := hk.1
  rw [h] at this
  exact absurd this (by show ¬ noRoomEvent ∈ (#[] : Array _); simp)
theorem wpOp_frame {P : Program} {ops : Array Oper} {Q : Exit → Act → World → Prop} {i : Nat} {o : Oper} {N : Act → World → Prop} {a : Act} {w : World} {ss : List Nat} {σ : Nat → Value} {n : Nat} (ho : ops[i]? = some o) (hd : ∀ s ∈ ss, o.dst ≠ some s) (hs : ∀ s ∈ ss, a.eval (.tmp s) = σ s) (hn : a.tmps.size = n) (h : wpOp P ops Q i N a w) :
    wpOp P ops Q i (fun a w => N a w ∧ (∀ s ∈ ss, a.eval (.tmp s) = σ s) ∧ a.tmps.size = n) a w := by
  have hp : ∀ (a2 : Act) (v : Value), (∀ t, a2.eval (.tmp t) = a.eval (.tmp t)) → a2.tmps.size = n → (∀ s ∈ ss, (a2.put o.dst v).eval (.tmp s) = σ s) ∧ (a2.put o.dst v).tmps.size = n := fun a2 v h2 h3 => ⟨fun s hss => by rw [eval_put_ne (hd s hss), h2]; exact hs s hss, by rw [size_put]; exact h3⟩
  unfold wpOp at *
  rw [ho] at h ⊢
  simp only at h ⊢
  split
  · rename_i hw
    simp only [hw, if_true] at h
    rcases h with h | h
    · refine .inl ?_
      unfold Oper.wp at *
      generalize (execOp a.eval o).run P w = r at *
      cases r with
      | ok q w' =>
        cases q with
        | value v => exact ⟨h, hp a v (fun _ => rfl) hn⟩
        | skip => exact ⟨h, hp a undef (fun _ => rfl) hn⟩
        | defer d => exact ⟨h, hp { a with defers := d :: a.defers } undef (fun _ => rfl) hn⟩
        | enter f args =>
          simp only [Oper.upon] at h ⊢
          exact Calls.mono h (fun e w'' he => by cases e <;> first | exact ⟨he, hp a _ (fun _ => rfl) hn⟩ | exact he)
        | row rw args =>
          simp only [Oper.upon] at h ⊢
          exact Rows.mono h (fun v _ he => ⟨he, hp a v (fun _ => rfl) hn⟩)
        | _ => simp only [Oper.upon] at h
      | halt x w' => cases x <;> simp only [Oper.upon] at h ⊢ <;> exact h
    · exact .inr h
  · rename_i hw
    simp only [hw] at h
    exact ⟨h, hp a undef (fun _ => rfl) hn⟩
def putC (σ : Nat → Value) : List Flo → Act → Act
  | [], a => a
  | x :: S, a => putC σ S (a.put (some x.d) (σ x.d))
theorem putC_ne {σ : Nat → Value} : ∀ {S : List Flo} {a : Act} {t : Nat}, (∀ x ∈ S, t ≠ x.d) → (putC σ S a).eval (.tmp t) = a.eval (.tmp t)
  | [], _, _, _ => rfl
  | x :: S, a, t, h => by
    show (putC σ S _).eval (.tmp t) = _
    rw [putC_ne fun y hy => h y (List.mem_cons_of_mem _ hy), eval_put_ne (fun e => h x List.mem_cons_self (by injection e with e; exact e.symm))]
theorem putC_put {σ : Nat → Value} {d : Nat} : ∀ (S : List Flo) (a : Act), (∀ y ∈ S, y.d ≠ d) → putC σ S (a.put (some d) (σ d)) = (putC σ S a).put (some d) (σ d)
  | [], _, _ => rfl
  | y :: S, a, h => by
    show putC σ S ((a.put (some d) (σ d)).put (some y.d) (σ y.d)) = (putC σ S (a.put (some y.d) (σ y.d))).put (some d) (σ d)
    rw [put_comm a (fun e => h y List.mem_cons_self e.symm)]
    exact putC_put S _ fun z hz => h z (List.mem_cons_of_mem _ hz)
theorem putC_app {σ : Nat → Value} (S T : List Flo) : ∀ a, putC σ (S ++ T) a = putC σ T (putC σ S a) := by
  induction S with
  | nil => exact fun _ => rfl
  | cons x S ih => exact fun a => ih _
theorem putC_first {σ : Nat → Value} {S T : List Flo} {x : Flo} {a : Act} (hS : ∀ y ∈ S, y.d ≠ x.d) : putC σ (S ++ x :: T) a = putC σ (S ++ T) (a.put (some x.d) (σ x.d)) := by
  rw [putC_app, putC_app, putC_put S a hS]
  rfl
structure FlA (σ : Nat → Value) (fl : List Flo) (base : List Nat) (n : Nat) (a : Act) (dn : Nat → Prop) : Prop where
  b : ∀ s ∈ base, a.eval (.tmp s) = σ s
  v : ∀ x ∈ fl, dn x.f → a.eval (.tmp x.d) = σ x.d
  n : a.tmps.size = n
section
variable {P : Program} {ops : Array Oper} {Q : Exit → Act → World → Prop}
theorem wp_region_fls {id : Nat} {dr : Bool} {a : Act} {w : World} (m : Nat) (fl : List Flo) (base : List Nat) (nT : Nat) (σ : Nat → Value) {mo : Oper} (hm : P.follows .mixedOrders = true) (hb : backOK ops = true) (hs : floatsOK ops m (fl.map fun x => (x.f, 0, 0)) = true) (hfl : flsOK ops m fl base nT = true) (hFl : FlS P ops σ fl) (hA0 : FlA σ fl base nT a fun _ => False)
    (hmo : ops[m]? = some mo) (hmg : mo.guard = none) (hmd : mo.dst = none) (hsel : ∀ cs b, mo.op ≠ .select cs b) (hnd : ∀ y ∈ fl, ∀ x ∈ mo.op.operands, x ≠ .tmp y.d)
    (I : Array Bool → Act → World → Prop)
    (h0 : ∀ w', (w' = w ∨ w' = w.drew) → I (Array.replicate (ops.toList.take m).toArray.size false) a w')
    (hstep : ∀ D a w i o, D.size = (ops.toList.take m).toArray.size → I D a w → (ops.toList.take m).toArray[i]? = some o → D.getD i true = false → readyAt (ops.toList.take m).toArray D i →
      wpOp P (ops.toList.take m).toArray (Exit.then (fun a w => wpList P ops Q (ops.toList.drop m) a w ∧ ∃ w1, (execOp a.eval mo).run P w = .ok .skip w1 ∧ wpList P ops Q (ops.toList.drop (m + 1)) a w1) Q) i (I (D.setIfInBounds i true)) a w)
    (hend : ∀ D a w, D.size = (ops.toList.take m).toArray.size → (∀ i, i < (ops.toList.take m).toArray.size → D.getD i false = true) → I D a w → wpList P ops Q (ops.toList.drop m) a w ∧ ∃ w1, (execOp a.eval mo).run P w = .ok .skip w1 ∧ wpList P ops Q (ops.toList.drop (m + 1)) a w1) :
    (Code.region id ops dr).wp P Q a w := by
  unfold floatsOK at hs
  simp only [Bool.and_eq_true, decide_eq_true_eq] at hs
  obtain ⟨⟨hms, hso⟩, hgs⟩ := hs
  obtain ⟨hfi, hfs, hdd, hdb, hdf⟩ := flsOK_i hfl
  have hmm : ((fl.map fun x => (x.f, 0, 0)).map (·.1) : List Nat) = fl.map (·.f) := by rw [List.map_map]; rfl
  rw [hmm] at hso
  have hdne : ∀ x ∈ fl, ∀ y ∈ fl, x.f ≠ y.f → x.d ≠ y.d := fun x hx y hy hne he => by
    obtain ⟨fo, h1, h2, _⟩ := (hfi x hx).op
    exact hne ((hdf x.f fo x.d (hfi x hx).lt h1 h2 y hy he.symm)).symm
  have hsz : (ops.toList.take m).toArray.size = m := by simp; omega
  rw [hsz] at h0 hstep hend
  have hord : ∀ j, m ≤ j → j < ops.size → ∀ i, i < j → ¬ (i ∈ fl.map (·.f) ∧ j = m) → befHas (Region.before ops) j i = true := by
    intro j hmj hj i hij hex
    have h1 := List.all_eq_true.1 hso j (List.mem_range.2 hj)
    rw [Bool.or_eq_true] at h1
    rcases h1 with h1 | h1
    · exact absurd (of_decide_eq_true h1) (by omega)
    · have h2 := List.all_eq_true.1 h1 i (List.mem_range.2 hij)
      rw [Bool.or_eq_true] at h2
      rcases h2 with h2 | h2
      · simp only [Bool.and_eq_true, beq_iff_eq, List.contains_iff_mem] at h2
        exact absurd h2 hex
      · exact h2
  have hgd : ∀ (D : Array Bool) (i : Nat), i < D.size → D.getD i true = false → D.getD i false = false := by
    intro D i hi h
    simp only [Array.getD_eq_getD_getElem?, Array.getElem?_eq_getElem hi, Option.getD_some] at h ⊢
    exact h
  have hgd' : ∀ (D : Array Bool) (i : Nat), i < D.size → D.getD i false = false → D.getD i true = false := by
    intro D i hi h
    simp only [Array.getD_eq_getD_getElem?, Array.getElem?_eq_getElem hi, Option.getD_some] at h ⊢
    exact h
  have hedge : ∀ i o, ops[i]? = some o → ∀ e ∈ o.after, Region.binds .any e = true → e.on < i := by
    intro i o ho e he hbe
    have hi : i < ops.size := (Array.getElem?_eq_some_iff.1 ho).1
    have hk := List.all_eq_true.1 hb i (List.mem_range.2 hi)
    rw [ho] at hk
    have hlt := (Array.all_eq_true_iff_forall_mem.1 hk) e he
    rw [hbe] at hlt
    simpa using hlt
  have step2 : ∀ (D' : Array Bool) (a : Act) (w : World) (i : Nat) (o : Oper), D'.size = m → I D' a w → FlA σ fl base nT a (fun j => D'.getD j false = true) → i < m → ops[i]? = some o → D'.getD i true = false → readyAt (ops.toList.take m).toArray D' i →
      wpOp P (ops.toList.take m).toArray (Exit.then (fun a w => wpList P ops Q (ops.toList.drop m) a w ∧ ∃ w1, (execOp a.eval mo).run P w = .ok .skip w1 ∧ wpList P ops Q (ops.toList.drop (m + 1)) a w1) Q) i (fun a w => I (D'.setIfInBounds i true) a w ∧ FlA σ fl base nT a (fun j => (D'.setIfInBounds i true).getD j false = true)) a w := by
    intro D' a w i o hs' hI hA him ho hd hr
    have hpo : (ops.toList.take m).toArray[i]? = some o := by simp [him, ho]
    have hst := hstep D' a w i o hs' hI hpo hd hr
    by_cases hf : ∃ x ∈ fl, x.f = i
    · obtain ⟨x, hx, rfl⟩ := hf
      obtain ⟨hxm, hxn, hxb, fo, h1, h2, h3, h4⟩ := hfi x hx
      have hoe : o = fo := by rw [ho] at h1; injection h1
      subst hoe
      have hrun := hFl.mem x hx o ho a fun s hs => by
        rcases h4 s hs with h | ⟨y, hy, rfl, e, he, hbe, hon⟩
        · exact hA.b s h
        · exact hA.v y hy (by rw [← hon]; exact hr o hpo e he hbe)
      have hwt : ∀ y, Region.wanted o y = true := fun y => by unfold Region.wanted; rw [h3]
      have hI2 : I (D'.setIfInBounds x.f true) (a.put (some x.d) (σ x.d)) w := by
        unfold wpOp at hst
        rw [hpo] at hst
        simp only [hwt, if_true] at hst
        rcases hst with hst | hst
        · unfold Oper.wp at hst
          rw [hrun, Sem.run_pure, Oper.upon_value, h2] at hst
          exact hst
        · exact (noAsk hrun hst.1).elim
      unfold wpOp
      rw [hpo]
      simp only [hwt, if_true]
      refine .inl ?_
      unfold Oper.wp
      rw [hrun, Sem.run_pure, Oper.upon_value, h2]
      refine ⟨hI2, fun s hs => by rw [eval_put_ne (fun e => hxb (by injection e with e; rw [e]; exact hs))]; exact hA.b s hs, fun y hy hdn => ?_, by rw [size_put]; exact hA.n⟩
      by_cases hyx : y.f = x.f
      · obtain ⟨fo', k1, k2, _⟩ := (hfi y hy).op
        rw [hyx, ho] at k1
        injection k1 with k1
        subst k1
        rw [h2] at k2
        injection k2 with k2
        rw [← k2]
        exact eval_put_eq (by rw [hA.n]; exact hxn)
      · rw [eval_put_ne (fun e => hdne x hx y hy (fun h => hyx h.symm) (by injection e))]
        exact hA.v y hy (((get_set (by omega)).1 hdn).resolve_left hyx)
    · have hfr := wpOp_frame (ss := base ++ (fl.filter fun x => D'.getD x.f false).map (·.d)) (σ := σ) (n := nT) hpo (fun s hs he => ?_) (fun s hs => ?_) hA.n hst
      · refine wpOp_mono (fun a' w' h' => ⟨h'.1, fun s hs => h'.2.1 s (List.mem_append_left _ hs), fun x hx hdn => h'.2.1 x.d (List.mem_append_right _ (List.mem_map_of_mem (List.mem_filter.2 ⟨hx, ?_⟩))), h'.2.2⟩) hfr
        exact ((get_set (by omega)).1 hdn).resolve_left fun e => hf ⟨x, hx, e⟩
      · rcases List.mem_append.1 hs with hs | hs
        · exact hdb i o s him ho he hs
        · obtain ⟨x, hx, rfl⟩ := List.mem_map.1 hs
          exact hf ⟨x, (List.mem_filter.1 hx).1, hdf i o _ him ho he x (List.mem_filter.1 hx).1 rfl⟩
      · rcases List.mem_append.1 hs with hs | hs
        · exact hA.b s hs
        · obtain ⟨x, hx, rfl⟩ := List.mem_map.1 hs
          exact hA.v x (List.mem_filter.1 hx).1 (List.mem_filter.1 hx).2
  refine wp_region_inv hm hb (fun D a w => Closed ops D ∧ ((∃ D' : Array Bool, D'.size = m ∧ (∀ i, i < m → D'.getD i false = D.getD i false) ∧ (∀ j, m ≤ j → D.getD j false = false) ∧ I D' a w ∧ FlA σ fl base nT a (fun j => D'.getD j false = true)) ∨
      (∃ n, m ≤ n ∧ n ≤ ops.size ∧ (∀ i, i < ops.size → (D.getD i false = true ↔ i < n)) ∧ wpList P ops Q (ops.toList.drop n) a w) ∨ (∃ S, S ≠ [] ∧ (∀ x ∈ S, x ∈ fl) ∧ (S.map (·.f)).Nodup ∧ (∀ i, i < ops.size → (D.getD i false = true ↔ i ≤ m ∧ i ∉ S.map (·.f))) ∧ FlA σ fl base nT a (fun j => D.getD j false = true) ∧ wpList P ops Q (ops.toList.drop (m + 1)) (putC σ S a) w))) ?_ ?_ ?_
  · intro w' hw'
    have hno : ∀ (n j : Nat), (Array.replicate n false).getD j false = false := by
      intro n j
      rw [Array.getD_eq_getD_getElem?, Array.getElem?_replicate]
      split <;> simp
    exact ⟨fun j hj => absurd hj (by rw [hno]; simp), .inl ⟨_, by simp, fun i _ => by rw [hno, hno], fun j _ => hno _ _, h0 w' hw', hA0.b, (fun x _ h => by rw [hno] at h; cases h), hA0.n⟩⟩
  · rintro D a w i o hD ⟨hc, hI⟩ ho hd hr
    have hi : i < ops.size := (Array.getElem?_eq_some_iff.1 ho).1
    have hdf := hgd D i (by omega) hd
    have hgset : ∀ j, (D.setIfInBounds i true).getD j false = true ↔ j = i ∨ D.getD j false = true := fun j => get_set (by omega)
    have hc' : Closed ops (D.setIfInBounds i true) := by
      intro j hj
      rcases (hgset j).1 hj with rfl | hj
      · exact fun o' ho' e he hbe => (hgset e.on).2 (.inr (hr o' ho' e he hbe))
      · exact fun o' ho' e he hbe => (hgset e.on).2 (.inr (hc j hj o' ho' e he hbe))
    have row : ∀ n, n = i → m ≤ n → (∀ j, j < i → D.getD j false = true) → (∀ j, i ≤ j → j < ops.size → D.getD j false = false) → wpList P ops Q (ops.toList.drop n) a w →
        wpOp P ops Q i (fun a w => Closed ops (D.setIfInBounds i true) ∧ ((∃ D' : Array Bool, D'.size = m ∧ (∀ k, k < m → D'.getD k false = (D.setIfInBounds i true).getD k false) ∧ (∀ j, m ≤ j → (D.setIfInBounds i true).getD j false = false) ∧ I D' a w ∧ FlA σ fl base nT a (fun j => D'.getD j false = true)) ∨
          (∃ n, m ≤ n ∧ n ≤ ops.size ∧ (∀ k, k < ops.size → ((D.setIfInBounds i true).getD k false = true ↔ k < n)) ∧ wpList P ops Q (ops.toList.drop n) a w) ∨ (∃ S, S ≠ [] ∧ (∀ x ∈ S, x ∈ fl) ∧ (S.map (·.f)).Nodup ∧ (∀ k, k < ops.size → ((D.setIfInBounds i true).getD k false = true ↔ k ≤ m ∧ k ∉ S.map (·.f))) ∧ FlA σ fl base nT a (fun j => (D.setIfInBounds i true).getD j false = true) ∧ wpList P ops Q (ops.toList.drop (m + 1)) (putC σ S a) w))) a w := by
      rintro n rfl hmn hlt hge h
      refine wpOp_mono (K := wpList P ops Q (ops.toList.drop (n + 1))) (fun a' w' h' => ⟨hc', .inr (.inl ⟨n + 1, by omega, by omega, fun k hk => ?_, h'⟩)⟩) ?_
      · rw [hgset]
        constructor
        · rintro (rfl | h)
          · omega
          · rcases Nat.lt_or_ge k n with hk' | hk'
            · omega
            · rw [hge k hk' hk] at h; cases h
        · intro hkn
          rcases Nat.lt_or_ge k n with hk' | hk'
          · exact .inr (hlt k hk')
          · exact .inl (by omega)
      · have hdrop : ops.toList.drop n = o :: ops.toList.drop (n + 1) := by
          have hoe : o = ops.toList[n]'(by simpa using hi) := by
            rw [Array.getElem?_eq_getElem hi] at ho
            injection ho with ho
            rw [← ho]; simp
          rw [hoe]
          exact List.drop_eq_getElem_cons (by simpa using hi)
        rw [hdrop] at h
        unfold wpOp
        rw [ho]
        exact h
    rcases hI with ⟨D', hD', hDD, hDm, hI, hA⟩ | ⟨n, hmn, hns, hDn, hI⟩ | ⟨S, hS0, hSf, hSn, hDn, hA, hI⟩
    · rcases Nat.lt_or_ge i m with him | him
      · have hgo : (match o.guard with | some (g, _) => decide (g < m) | none => true) = true := by
          refine List.all_eq_true.1 hgs o ?_
          rw [List.mem_take_iff_getElem]
          refine ⟨i, by simp; omega, ?_⟩
          rw [Array.getElem?_eq_getElem hi] at ho
          injection ho with ho
        refine wpOp_take (N := fun a w => wpList P ops Q (ops.toList.drop m) a w ∧ ∃ w1, (execOp a.eval mo).run P w = .ok .skip w1 ∧ wpList P ops Q (ops.toList.drop (m + 1)) a w1) him ho hgo ?_
        refine wpOp_mono (fun a' w' h' => ?_) (step2 D' a w i o hD' hI hA him ho (hgd' D' i (by omega) (by rw [hDD i him]; exact hdf)) fun o' ho' e he hbe => ?_)
        · refine ⟨hc', .inl ⟨D'.setIfInBounds i true, by simpa using hD', fun k hk => ?_, fun j hj => ?_, h'⟩⟩
          · by_cases e : k = i
            · subst e
              rw [(get_set (D := D') (by omega)).2 (.inl rfl), (hgset k).2 (.inl rfl)]
            · have e' : i ≠ k := fun h => e h.symm
              simp only [Array.getD_eq_getD_getElem?, Array.getElem?_setIfInBounds_ne e']
              have := hDD k hk
              simpa only [Array.getD_eq_getD_getElem?] using this
          · cases hq : (D.setIfInBounds i true).getD j false with
            | false => rfl
            | true =>
              rcases (hgset j).1 hq with rfl | hq
              · omega
              · rw [hDm j hj] at hq; cases hq
        · have hoo : ops[i]? = some o' := by simpa [him] using ho'
          have hlt := hedge i o' hoo e he hbe
          rw [hDD e.on (by omega)]
          exact hr o' hoo e he hbe
      · have hie : i = m := by
          rcases Nat.lt_or_ge m i with h | h
          · have := before_done hb hc i m hr (hord i him hi m h (by omega))
            rw [hDm m (Nat.le_refl _)] at this
            cases this
          · omega
        subst hie
        have hall0 : ∀ j, j < i → j ∉ fl.map (·.f) → D.getD j false = true := fun j hj hne => before_done hb hc i j hr (hord i (Nat.le_refl _) hi j hj (fun h => hne h.1))
        obtain ⟨S, hSe⟩ : ∃ S, S = fl.filter fun x => !D.getD x.f false := ⟨_, rfl⟩
        have hSf : ∀ x ∈ S, x ∈ fl := fun x hx => by rw [hSe] at hx; exact (List.mem_filter.1 hx).1
        have hSD : ∀ x ∈ S, D.getD x.f false = false := fun x hx => by rw [hSe] at hx; simpa using (List.mem_filter.1 hx).2
        have hSs : (S.map (·.f)).Pairwise (· < ·) := by rw [hSe]; exact hfs.sublist ((List.filter_sublist).map _)
        have hSn : (S.map (·.f)).Nodup := hSs.imp fun h => Nat.ne_of_lt h
        have hDn : ∀ j, j < i → (D.getD j false = true ↔ j ∉ S.map (·.f)) := fun j hj => by
          constructor
          · intro h hm
            obtain ⟨x, hx, rfl⟩ := List.mem_map.1 hm
            rw [hSD x hx] at h; cases h
          · intro h
            by_cases hf : j ∈ fl.map (·.f)
            · obtain ⟨x, hx, rfl⟩ := List.mem_map.1 hf
              cases hq : D.getD x.f false with
              | true => rfl
              | false => exact absurd (List.mem_map_of_mem (by rw [hSe]; exact List.mem_filter.2 ⟨hx, by rw [hq]; rfl⟩)) h
            · exact hall0 j hj hf
        cases hSc : S with
        | nil =>
          have hall : ∀ j, j < i → D.getD j false = true := fun j hj => (hDn j hj).2 (by rw [hSc]; simp)
          exact row i rfl (Nat.le_refl _) hall (fun j hj hjs => hDm j (by omega)) (hend D' a w hD' (fun k hk => by rw [hDD k hk]; exact hall k (by omega)) hI).1
        | cons x0 S0 =>
          have hSne : S ≠ [] := by rw [hSc]; simp
          clear hSc x0 S0
          have many : ∀ (T : List Flo) (D2 : Array Bool) (a2 : Act), (∀ x ∈ T, x ∈ fl) → (T.map (·.f)).Pairwise (· < ·) → D2.size = i → (∀ x ∈ T, D2.getD x.f false = false) → (∀ j, j < i → j ∉ T.map (·.f) → D2.getD j false = true) → I D2 a2 w → FlA σ fl base nT a2 (fun j => D2.getD j false = true) → ∃ D3 : Array Bool, D3.size = i ∧ (∀ j, j < i → D3.getD j false = true) ∧ I D3 (putC σ T a2) w := by
            intro T
            induction T with
            | nil => exact fun D2 a2 _ _ hs _ hd hI _ => ⟨D2, hs, fun j hj => hd j hj (by simp), hI⟩
            | cons x T ih =>
              intro D2 a2 hTf hTn hs2 hTD hd2 hI2 hA2
              obtain ⟨hxm, hxn, hxb, fo, hfo1, hfo3, hfo4, hfo5⟩ := hfi x (hTf x List.mem_cons_self)
              rw [List.map_cons, List.pairwise_cons] at hTn
              have hrdy : readyAt (ops.toList.take i).toArray D2 x.f := fun o' ho' e he hbe => by
                have hoo : ops[x.f]? = some o' := by simpa [hxm] using ho'
                have hlt := hedge x.f o' hoo e he hbe
                refine hd2 e.on (by omega) fun hm => ?_
                rw [List.map_cons, List.mem_cons] at hm
                rcases hm with hm | hm
                · omega
                · have := hTn.1 _ hm
                  omega
              have hst := step2 D2 a2 w x.f fo hs2 hI2 hA2 hxm hfo1 (hgd' D2 x.f (by omega) (hTD x List.mem_cons_self)) hrdy
              have hpf : (ops.toList.take i).toArray[x.f]? = some fo := by simp [hxm, hfo1]
              have hrunf := hFl.mem x (hTf x List.mem_cons_self) fo hfo1 a2 fun s hs => by
                rcases hfo5 s hs with h | ⟨y, hy, rfl, e, he, hbe, hon⟩
                · exact hA2.b s h
                · exact hA2.v y hy (by rw [← hon]; exact hrdy fo hpf e he hbe)
              have hI3 : I (D2.setIfInBounds x.f true) (a2.put (some x.d) (σ x.d)) w ∧ FlA σ fl base nT (a2.put (some x.d) (σ x.d)) (fun j => (D2.setIfInBounds x.f true).getD j false = true) := by
                unfold wpOp at hst
                rw [hpf] at hst
                have hwt : ∀ y, Region.wanted fo y = true := fun y => by unfold Region.wanted; rw [hfo4]
                simp only [hwt, if_true] at hst
                rcases hst with hst | hst
                · unfold Oper.wp at hst
                  rw [hrunf, Sem.run_pure, Oper.upon_value, hfo3] at hst
                  exact hst
                · exact (noAsk hrunf hst.1).elim
              exact ih (D2.setIfInBounds x.f true) (a2.put (some x.d) (σ x.d)) (fun y hy => hTf y (List.mem_cons_of_mem _ hy)) hTn.2 (by simpa using hs2) (fun y hy => by
                cases hq : (D2.setIfInBounds x.f true).getD y.f false with
                | false => rfl
                | true =>
                  rcases (get_set (D := D2) (by omega)).1 hq with e | e
                  · have := hTn.1 _ (List.mem_map_of_mem hy)
                    omega
                  · rw [hTD y (List.mem_cons_of_mem _ hy)] at e; cases e) (fun j hj hnm => (get_set (D := D2) (by omega)).2 (by
                by_cases e : j = x.f
                · exact .inl e
                · exact .inr (hd2 j hj (by rw [List.map_cons, List.mem_cons]; exact fun h => h.elim e hnm)))) hI3.1 hI3.2
          obtain ⟨D3, hs3, hd3, hI3⟩ := many S D' a hSf hSs hD' (fun x hx => by rw [hDD x.f (hfi x (hSf x hx)).lt]; exact hSD x hx) (fun j hj hnm => by rw [hDD j hj]; exact (hDn j hj).2 hnm) hI hA
          obtain ⟨_, w1, hr1, hl1⟩ := hend D3 _ w hs3 hd3 hI3
          have hcg : execOp (putC σ S a).eval mo = execOp a.eval mo := execOp_congr mo hsel fun x hx => by
            cases x with
            | tmp t => exact putC_ne fun y hy e => hnd y (hSf y hy) _ hx (by rw [e])
            | _ => rfl
          rw [hcg] at hr1
          have heo : o = mo := by rw [ho] at hmo; injection hmo
          unfold wpOp
          rw [ho]
          have hwt : ∀ y, Region.wanted o y = true := fun y => by unfold Region.wanted; rw [heo, hmg]
          simp only [hwt, if_true]
          refine .inl ?_
          unfold Oper.wp
          rw [heo, hr1, Oper.upon_skip, hmd]
          refine ⟨hc', .inr (.inr ⟨S, hSne, hSf, hSn, fun k hk => ?_, ⟨hA.b, fun x hx hdn => hA.v x hx ?_, hA.n⟩, hl1⟩)⟩
          rotate_left
          · have hxl := (hfi x hx).lt
            rcases (hgset x.f).1 hdn with h | h
            · omega
            · rw [hDD x.f hxl]; exact h
          rw [hgset]
          constructor
          · rintro (rfl | h)
            · refine ⟨Nat.le_refl _, fun hm => ?_⟩
              obtain ⟨x, hx, hxe⟩ := List.mem_map.1 hm
              have := (hfi x (hSf x hx)).lt
              omega
            · rcases Nat.lt_or_ge k i with hk' | hk'
              · exact ⟨by omega, (hDn k hk').1 h⟩
              · rw [hDm k hk'] at h; cases h
          · rintro ⟨h1, h2⟩
            rcases Nat.lt_or_eq_of_le h1 with h3 | h3
            · exact .inr ((hDn k h3).2 h2)
            · exact .inl h3
    · have hin : n ≤ i := by
        rcases Nat.lt_or_ge i n with h | h
        · rw [(hDn i hi).2 h] at hdf; cases hdf
        · exact h
      have hall : ∀ j, j < i → D.getD j false = true := fun j hj => by
        by_cases hex : j ∈ fl.map (·.f) ∧ i = m
        · exact (hDn j (by omega)).2 (by omega)
        · exact before_done hb hc i j hr (hord i (by omega) hi j hj hex)
      have hie : i = n := by
        rcases Nat.lt_or_ge n i with h | h
        · have := (hDn n (by omega)).1 (hall n h)
          omega
        · omega
      refine row n hie.symm hmn hall (fun j hj hjs => ?_) hI
      cases hq : D.getD j false with
      | false => rfl
      | true => have := (hDn j hjs).1 hq; omega
    · have hif : i ∈ S.map (·.f) := by
        by_cases e : i ∈ S.map (·.f)
        · exact e
        · exfalso
          have him : m < i := by
            rcases Nat.lt_or_ge m i with h | h
            · exact h
            · rw [(hDn i hi).2 ⟨h, e⟩] at hdf; cases hdf
          obtain ⟨x, hx⟩ := List.exists_mem_of_ne_nil S hS0
          have hxl := (hfi x (hSf x hx)).lt
          have := before_done hb hc i x.f hr (hord i (by omega) hi x.f (by omega) (by omega))
          exact ((hDn x.f (by omega)).1 this).2 (List.mem_map_of_mem hx)
      obtain ⟨x, hx, rfl⟩ := List.mem_map.1 hif
      obtain ⟨hxm, hxn, hxb, fo, hfo1, hfo3, hfo4, hfo5⟩ := hfi x (hSf x hx)
      have heo : o = fo := by rw [ho] at hfo1; injection hfo1
      subst heo
      have hms2 : m < ops.size := (Array.getElem?_eq_some_iff.1 hmo).1
      obtain ⟨S1, S2, rfl⟩ := List.append_of_mem hx
      have hne : ∀ y ∈ S1 ++ S2, y.f ≠ x.f := fun y hy e => by
        rw [List.map_append, List.map_cons] at hSn
        have h1 := (List.perm_middle.nodup_iff).1 hSn
        rw [List.nodup_cons] at h1
        exact h1.1 (by rw [← e, ← List.map_append]; exact List.mem_map_of_mem hy)
      have hsub : ∀ y ∈ S1 ++ S2, y ∈ S1 ++ x :: S2 := fun y hy => by
        rcases List.mem_append.1 hy with h | h
        · exact List.mem_append_left _ h
        · exact List.mem_append_right _ (List.mem_cons_of_mem _ h)
      unfold wpOp
      rw [ho]
      have hwt : ∀ y, Region.wanted o y = true := fun y => by unfold Region.wanted; rw [hfo4]
      simp only [hwt, if_true]
      refine .inl ?_
      have hrunf := hFl.mem x (hSf x hx) o ho a fun s hs => by
        rcases hfo5 s hs with h | ⟨y, hy, rfl, e, he, hbe, hon⟩
        · exact hA.b s h
        · exact hA.v y hy (by rw [← hon]; exact hr o ho e he hbe)
      have hA3 : FlA σ fl base nT (a.put (some x.d) (σ x.d)) (fun j => (D.setIfInBounds x.f true).getD j false = true) := by
        refine ⟨fun s hs => by rw [eval_put_ne (fun e => hxb (by injection e with e; rw [e]; exact hs))]; exact hA.b s hs, fun y hy hdn => ?_, by rw [size_put]; exact hA.n⟩
        by_cases hyx : y.f = x.f
        · obtain ⟨fo', k1, k2, _⟩ := (hfi y hy).op
          rw [hyx, ho] at k1
          injection k1 with k1
          subst k1
          rw [hfo3] at k2
          injection k2 with k2
          rw [← k2]
          exact eval_put_eq (by rw [hA.n]; exact hxn)
        · rw [eval_put_ne (fun e => hdne x (hSf x hx) y hy (fun h => hyx h.symm) (by injection e))]
          exact hA.v y hy (((hgset y.f).1 hdn).resolve_left hyx)
      unfold Oper.wp
      rw [hrunf, Sem.run_pure, Oper.upon_value, hfo3]
      rw [putC_first (fun y hy => hdne y (hSf y (List.mem_append_left _ hy)) x (hSf x hx) (hne y (List.mem_append_left _ hy)))] at hI
      have hD2 : ∀ k, k < ops.size → ((D.setIfInBounds x.f true).getD k false = true ↔ k ≤ m ∧ k ∉ (S1 ++ S2).map (·.f)) := fun k hk => by
        rw [hgset, hDn k hk]
        constructor
        · rintro (rfl | ⟨h1, h2⟩)
          · refine ⟨by omega, fun hm => ?_⟩
            obtain ⟨y, hy, hye⟩ := List.mem_map.1 hm
            exact hne y hy hye
          · refine ⟨h1, fun hm => h2 ?_⟩
            obtain ⟨y, hy, hye⟩ := List.mem_map.1 hm
            exact List.mem_map.2 ⟨y, hsub y hy, hye⟩
        · rintro ⟨h1, h2⟩
          by_cases e : k = x.f
          · exact .inl e
          · refine .inr ⟨h1, fun hm => h2 ?_⟩
            obtain ⟨y, hy, hye⟩ := List.mem_map.1 hm
            refine List.mem_map.2 ⟨y, ?_, hye⟩
            rcases List.mem_append.1 hy with h | h
            · exact List.mem_append_left _ h
            · rcases List.mem_cons.1 h with rfl | h
              · exact absurd hye.symm e
              · exact List.mem_append_right _ h
      cases hSc : S1 ++ S2 with
      | nil =>
        rw [hSc] at hI hD2
        refine ⟨hc', .inr (.inl ⟨m + 1, by omega, by omega, fun k hk => ?_, hI⟩)⟩
        rw [hD2 k hk]
        simp only [List.map_nil, List.not_mem_nil, not_false_eq_true, and_true]
        omega
      | cons y T =>
        refine ⟨hc', .inr (.inr ⟨S1 ++ S2, by rw [hSc]; simp, fun z hz => hSf z (hsub z hz), ?_, hD2, hA3, hI⟩)⟩
        rw [List.map_append, List.map_cons] at hSn
        have h1 := (List.perm_middle.nodup_iff).1 hSn
        rw [List.nodup_cons, ← List.map_append] at h1
        exact h1.2
  · rintro D a w hD hall ⟨_, hI⟩
    rcases hI with ⟨D', hD', hDD, hDm, hI, hA⟩ | ⟨n, hmn, hns, hDn, hI⟩ | ⟨S, hS0, hSf, hSn, hDn, hA, hI⟩
    · have hme : m = ops.size := by
        rcases Nat.lt_or_ge m ops.size with h | h
        · have := hall m h
          rw [hDm m (Nat.le_refl _)] at this
          cases this
        · omega
      have := (hend D' a w hD' (fun k hk => by rw [hDD k hk]; exact hall k (by omega)) hI).1
      rw [List.drop_of_length_le (by simp; omega)] at this
      exact this
    · have hne : n = ops.size := by
        rcases Nat.lt_or_ge n ops.size with h | h
        · have := (hDn n h).1 (hall n h)
          omega
        · omega
      rw [List.drop_of_length_le (by simp; omega)] at hI
      exact hI
    · have hms2 : m < ops.size := (Array.getElem?_eq_some_iff.1 hmo).1
      obtain ⟨x, hx⟩ := List.exists_mem_of_ne_nil S hS0
      have hxl := (hfi x (hSf x hx)).lt
      exact absurd (List.mem_map_of_mem hx) ((hDn x.f (by omega)).1 (hall x.f (by omega))).2
end
def sgv : List (Nat × Value) → Nat → Value
  | [], _ => undef
  | (t, v) :: r, s => cond (Nat.beq t s) v (sgv r s)
def FlB (K : List (Nat × Ty)) (σ : Nat → Value) : List Nat → Prop
  | [] => True
  | s :: r => look K s = some (.is (σ s)) ∧ FlB K σ r
theorem FlB.mem {K : List (Nat × Ty)} {σ : Nat → Value} : ∀ {b : List Nat}, FlB K σ b → ∀ s ∈ b, look K s = some (.is (σ s))
  | [], _, s, hs => absurd hs List.not_mem_nil
  | _ :: _, h, s, hs => by
    rcases List.mem_cons.1 hs with rfl | hs
    · exact h.1
    · exact h.2.mem s hs
section
variable {P : Program} {ops : Array Oper} {σ : Nat → Value} {x : Flo} {fo : Oper}
theorem fl_mv {s : Nat} (h : ops[x.f]? = some fo) (ho : fo.op = .move (.tmp s)) (hs : s ∈ x.deps) (hv : σ s = σ x.d) : ∀ fo, ops[x.f]? = some fo → ∀ (a : Act), (∀ s ∈ x.deps, a.eval (.tmp s) = σ s) → execOp a.eval fo = (pure (.value (σ x.d)) : Sem Next) := fun fo' h' a hd => by
  rw [h] at h'
  injection h' with h'
  subst h'
  cases fo
  simp only at ho
  subst ho
  simp only [execOp, hd s hs, hv]
theorem fl_subc {s : Nat} {xt yt : TypeId} {p q r : Int} (h : ops[x.f]? = some fo) (ho : fo.op = .binOp .sub xt (.tmp s) (.const (.int .i64 q)) yt) (hs : s ∈ x.deps) (hp : σ s = .int .i64 p) (hv : σ x.d = .int .i64 r) (he : p - q = r) (h1 : -9223372036854775808 ≤ r) (h2 : r < 9223372036854775808) : ∀ fo, ops[x.f]? = some fo → ∀ (a : Act), (∀ s ∈ x.deps, a.eval (.tmp s) = σ s) → execOp a.eval fo = (pure (.value (σ x.d)) : Sem Next) := fun fo' h' a hd => by
  rw [h] at h'
  injection h' with h'
  subst h'
  cases fo
  simp only at ho
  subst ho he
  have e1 : a.eval (.tmp s) = .int .i64 p := (hd s hs).trans hp
  have e2 : a.eval (.const (.int .i64 q)) = .int .i64 q := rfl
  simp [execOp, e1, e2, hv, eqGuard, binOp, Op.intArith, wrap64_eq h1 h2]
theorem fl_addc {s : Nat} {xt yt : TypeId} {p q r : Int} (h : ops[x.f]? = some fo) (ho : fo.op = .binOp .add xt (.tmp s) (.const (.int .i64 q)) yt) (hs : s ∈ x.deps) (hp : σ s = .int .i64 p) (hv : σ x.d = .int .i64 r) (he : p + q = r) (h1 : -9223372036854775808 ≤ r) (h2 : r < 9223372036854775808) : ∀ fo, ops[x.f]? = some fo → ∀ (a : Act), (∀ s ∈ x.deps, a.eval (.tmp s) = σ s) → execOp a.eval fo = (pure (.value (σ x.d)) : Sem Next) := fun fo' h' a hd => by
  rw [h] at h'
  injection h' with h'
  subst h'
  cases fo
  simp only at ho
  subst ho he
  have e1 : a.eval (.tmp s) = .int .i64 p := (hd s hs).trans hp
  have e2 : a.eval (.const (.int .i64 q)) = .int .i64 q := rfl
  simp [execOp, e1, e2, hv, eqGuard, binOp, Op.intArith, wrap64_eq h1 h2]
theorem fl_add {s t : Nat} {xt yt : TypeId} {p q r : Int} (h : ops[x.f]? = some fo) (ho : fo.op = .binOp .add xt (.tmp s) (.tmp t) yt) (hs : s ∈ x.deps) (ht : t ∈ x.deps) (hp : σ s = .int .i64 p) (hq : σ t = .int .i64 q) (hv : σ x.d = .int .i64 r) (he : p + q = r) (h1 : -9223372036854775808 ≤ r) (h2 : r < 9223372036854775808) : ∀ fo, ops[x.f]? = some fo → ∀ (a : Act), (∀ s ∈ x.deps, a.eval (.tmp s) = σ s) → execOp a.eval fo = (pure (.value (σ x.d)) : Sem Next) := fun fo' h' a hd => by
  rw [h] at h'
  injection h' with h'
  subst h'
  cases fo
  simp only at ho
  subst ho he
  have e1 : a.eval (.tmp s) = .int .i64 p := (hd s hs).trans hp
  have e2 : a.eval (.tmp t) = .int .i64 q := (hd t ht).trans hq
  simp [execOp, e1, e2, hv, eqGuard, binOp, Op.intArith, wrap64_eq h1 h2]
end
section
variable {P : Program} {c : Ctx} {K : List (Nat × Ty)} {L L' : List Own} {Φ : List (World → Prop)} {Q : Exit → Act → World → Prop}
theorem J.regFl {id : Nat} {dr : Bool} {l : List Oper} (m : Nat) (fl : List Flo) (base : List Nat) (σ : Nat → Value) {mo : Oper} (hmx : P.follows .mixedOrders = true) (hok : (backOK l.toArray && floatsOK l.toArray m (fl.map fun x => (x.f, 0, 0)) && flsOK l.toArray m fl base c.n && regOK (l.take m).toArray) = true)
    (hmo : l[m]? = some mo) (hmg : mo.guard = none) (hmd : mo.dst = none) (hsel : ∀ cs b, mo.op ≠ .select cs b) (hnd : ∀ y ∈ fl, ∀ x ∈ mo.op.operands, x ≠ .tmp y.d)
    (hdn : ((l.take m).toArray.all fun o => match o.dst with | some d => decide (d < c.n) | none => true) = true) (hB : FlB K σ base) (hFl : FlS P l.toArray σ fl)
    (h : RT P (l.take m).toArray L Φ 0 (l.take m) K [] [] (FinS P c L Φ (Exit.then (fun a w => wpList P l.toArray Q (l.drop m) a w ∧ ∃ w1, (execOp a.eval mo).run P w = .ok .skip w1 ∧ wpList P l.toArray Q (l.drop (m + 1)) a w1) Q))) : J P c K L Φ (.region id l.toArray dr) Q := by
  refine ⟨?_⟩
  intro E a w hsa
  simp only [Bool.and_eq_true] at hok
  obtain ⟨⟨⟨hb, hs⟩, hf⟩, hr⟩ := hok
  obtain ⟨I, h0, h1, h2⟩ := region_inv (ops := (l.take m).toArray) (Lm := []) hr hdn h hsa
  exact wp_region_fls (ops := l.toArray) m fl base c.n σ hmx hb hs hf hFl ⟨fun s hs => by
    have := hsa.k s _ (hB.mem s hs)
    exact this, fun _ _ h => h.elim, hsa.n⟩ (by simpa using hmo) hmg hmd hsel hnd I h0 h1 h2
end
end Go.Vc

namespace Go.Vc
open Go
section
variable {P : Program} {L L0 Lr : List Own} {Φ Φ0 : List (World → Prop)} {H : Know} {dst : Option Nat} {ty : TypeId} {pos : String} {after : Array Edge} {g : Option (Nat × Bool)} {f : FuncId} {As : List Ty}
theorem ob_ext0 {t : Operand} {a b : Value} (h : H t (.is (.tuple #[a, b]))) : Ob P L Φ H ⟨dst, .extract t 0, ty, pos, after, g⟩ (.is a) := ob_is fun E w ρ hp => by
  have e : ρ t = .tuple #[a, b] := hp.x t _ (by simp [Op.operands]) h
  simp [execOp, e, Instr.extract]
theorem ob_ext1 {t : Operand} {a b : Value} (h : H t (.is (.tuple #[a, b]))) : Ob P L Φ H ⟨dst, .extract t 1, ty, pos, after, g⟩ (.is b) := ob_is fun E w ρ hp => by
  have e : ρ t = .tuple #[a, b] := hp.x t _ (by simp [Op.operands]) h
  simp [execOp, e, Instr.extract]
theorem ob_call3V {x y z : Operand} {a b c v : Value} {ats : Array TypeId} (hf : H (.func f) (.is (.func (.func f) #[] #[]))) (hc : ∀ w, (callFunc f #[a, b, c]).run P w = .ok (.value v) w) (hx : H x (.is a)) (hy : H y (.is b)) (hz : H z (.is c)) :
    Ob P L Φ H ⟨dst, .call { callee := .value (.func f), args := #[x, y, z], argTypes := ats }, ty, pos, after, g⟩ (.is v) := ob_is fun E w ρ hp => by
  have h1 : ρ (.func f) = .func (.func f) #[] #[] := hp.x (.func f) (.is (.func (.func f) #[] #[])) (by simp [Op.operands, Call.operands]) hf
  have e1 : ρ x = a := hp.x x _ (by simp [Op.operands, Call.operands]) hx
  have e2 : ρ y = b := hp.x y _ (by simp [Op.operands, Call.operands]) hy
  have e3 : ρ z = c := hp.x z _ (by simp [Op.operands, Call.operands]) hz
  simp only [execOp, resolve, h1, Deferred.ofValue, invoke, Sem.run_bind, Sem.run_pure, Result.andThen_ok]
  simpa [e1, e2, e3] using hc w
def MadeR {Z : Type} (Zp : Z → Prop) (N : Nat) (bz : Z → Nat) (ez : Z → TypeId) (cz : Z → List Value) (vz : Z → Value) (v : Value) (w : World) : Prop := ∃ z, Zp z ∧ v = vz z ∧ N ≤ bz z ∧ HeapIs (bz z) (cz z) (ez z) w
theorem ob_callN {Z : Type} {Zp : Z → Prop} {N : Nat} {bz : Z → Nat} {ez : Z → TypeId} {cz : Z → List Value} {vz : Z → Value} {xs : List Operand} {ats : Array TypeId} (hf : H (.func f) (.is (.func (.func f) #[] #[]))) (hc : CallL P f [] [] As Zp (fun z => [⟨bz z, ez z, .is (.agg (cz z).toArray)⟩]) (fun z => .is (vz z))) (hN : (fun w : World => N ≤ w.heap.size) ∈ Φ) (ha : Args L Φ H xs As) :
    Ob P L Φ H ⟨dst, .call { callee := .value (.func f), args := xs.toArray, argTypes := ats }, ty, pos, after, g⟩ (.rep (MadeR Zp N bz ez cz vz)) := fun E w ρ hp => by
  have h1 : ρ (.func f) = .func (.func f) #[] #[] := hp.x (.func f) (.is (.func (.func f) #[] #[])) (by simp [Op.operands, Call.operands]) hf
  have hall := ha.all (ρ := ρ) (pre_facts hp) fun x T hx => hp.x x T (by simp [Op.operands, Call.operands, hx])
  have h3 := run_callL hc (fun F hF => absurd hF List.not_mem_nil) hp.wf hp.f hall (fun m hm => absurd hm List.not_mem_nil) .nil
  simp only [execOp, resolve, h1, Deferred.ofValue, invoke, Sem.run_bind, Sem.run_pure, Result.andThen_ok, List.map_toArray]
  refine Runs.mono (by simpa using h3) ?_
  rintro v w' ⟨z, E', he⟩
  have hv : v = vz z := he.r
  subst hv
  have hs : w.heap.size ≤ bz z := (he.inn _ List.mem_cons_self).resolve_left (by simp)
  obtain ⟨_, V, h4, h5⟩ := he.l _ List.mem_cons_self
  have hV : V = .agg (cz z).toArray := h5
  subst hV
  have hE : ¬ E (bz z) := fun h => by have := hp.wf _ h; omega
  refine ⟨he.k.mono fun b _ h => by simp at h, fun w2 hk => ⟨z, he.zp, rfl, Nat.le_trans ((hp.f _ hN).now) hs, ?_⟩⟩
  have h4' : w'.heap[bz z]? = some (.cells (cz z).toArray (ez z) (0, 0)) := by simpa [Value.cells] using h4
  exact hk.get h4' hE
def OneR (R : Value → World → Prop) (e : TypeId) (v : Value) (w : World) : Prop := ∃ b v', v = .slice (some ⟨b, 0, none⟩) 1 1 ∧ R v' w ∧ HeapIs b [v'] e w
theorem ob_build1R {t e : TypeId} {x : Operand} {z0 : Value} {R : Value → World → Prop} (hsh : SlShape P t e 1 [z0]) (hR : ∀ v w, R v w → ∃ t u, v = .iface t u) (hx : H x (.rep R)) : Ob P L Φ H ⟨dst, .buildSlice t 1 #[(0, x)], ty, pos, after, g⟩ (.rep (OneR R e)) := fun E w ρ hp => by
  have k0 : Pers E w (R (ρ x)) := hp.x x _ (by simp [Op.operands]) hx
  obtain ⟨t0, u, e0⟩ := hR _ _ k0.now
  rw [e0] at k0
  have hb := run_buildSlice' (P := P) 1 (vs := [(0, .iface t0 u)]) (cs := [.iface t0 u]) w hsh (by omega) (by omega) rfl rfl rfl
  have hr : (execOp ρ ⟨dst, .buildSlice t 1 #[(0, x)], ty, pos, after, g⟩).run P w = .ok (.value (.slice (some ⟨w.heap.size, 0, none⟩) 1 1)) (w.alloc (.cells ([.iface t0 u] : List Value).toArray e)) := by
    simp only [execOp]
    have hb' : (Instr.buildSlice t 1 #[(0, Value.iface t0 u)]).run P w = _ := hb
    simp [e0, hb']
  rw [hr]
  refine ⟨Keeps.alloc w _, fun w2 hk => ⟨w.heap.size, _, rfl, k0 w2 ((Keeps.of_noX (Keeps.alloc w _)).trans hk), ?_⟩⟩
  exact hk.get (heap_alloc_at w _) (fun he => absurd (hp.wf _ he) (by omega))
abbrev vC (v : Value) : List Value := [v]
theorem big_apR {R : Value → World → Prop} {L' : List Own} {C : Option (Nat × List Value) → List Own} {xs : List Value} {st : Option (Nat × List Value)} {cap d bytes : Nat} {t tx e e' : TypeId} {s x : Operand} (hT : ApTy P t e 1 bytes) (hC : Cx e L st C L') (hG : Grows vC 1 xs st cap) (h0 : H s (.is (sliceO st xs.length cap))) (hR : ∀ v w, R v w → ∃ t u, v = .iface t u) (hk : P.underlying tx = some (.slice e')) (hx : H x (.rep (OneR R e))) (hfit : (xs.length + 1) * bytes ≤ 140737488355328) (h63 : xs.length + 1 ≤ 9223372036854775807) :
    BigOb P L Φ H ⟨some d, .call { callee := .builtin .append, args := #[s, x], argTypes := #[t, tx] }, ty, pos, after, none⟩ (G := (v' : Value) × GrG vC 1 (xs ++ [v'])) (fun g => .rep (fun v w => v = sliceO g.2.1.1 (xs ++ [g.1]).length g.2.1.2 ∧ R g.1 w)) (fun g => C g.2.1.1) := fun E w ρ hp hnd => by
  have hO : Pers E w (OneR R e (ρ x)) := hp.x x _ (by simp [Op.operands, Call.operands]) hx
  obtain ⟨b, v', e1, r1, hh⟩ := hO.now
  have hbs := lt_of_get hh
  have hnE : ¬ E b := fun hE => by
    have hkp : Keeps E w { w with heap := w.heap.setIfInBounds b (.cells #[.bool true] e (0, 0)) } := by
      refine ⟨rfl, rfl, rfl, by simp, fun q hq hx => ?_, fun q cs' t' fr' hq => ?_⟩
      · show (w.heap.setIfInBounds b _)[q]? = _
        rw [Array.getElem?_setIfInBounds_ne (fun e : b = q => hx (by rw [← e]; exact hE))]
      · by_cases e2 : b = q
        · subst e2
          have hh' : w.heap[b]? = some (.cells [v'].toArray e (0, 0)) := hh
          rw [hh'] at hq
          injection hq with hq
          injection hq with q1 q2 q3
          subst q1 q2 q3
          exact ⟨#[.bool true], by show (w.heap.setIfInBounds b _)[b]? = _; simp [hbs], by simp⟩
        · exact ⟨cs', by show (w.heap.setIfInBounds b _)[q]? = _; rw [Array.getElem?_setIfInBounds_ne e2]; exact hq, rfl⟩
    obtain ⟨b2, v2, e2, r2, h2⟩ := hO _ hkp
    rw [e1] at e2
    injection e2 with e2
    injection e2 with e2
    injection e2 with e2
    subst e2
    obtain ⟨t2, u2, rfl⟩ := hR _ _ r2
    have h3 : (w.heap.setIfInBounds b (.cells #[.bool true] e (0, 0)))[b]? = some (.cells [Value.iface t2 u2].toArray e (0, 0)) := h2
    simp [hbs] at h3
  have hRp : Pers E w (R v') := fun w2 hk2 => by
    obtain ⟨b2, v2, e2, r2, h2⟩ := hO w2 hk2
    rw [e1] at e2
    injection e2 with e2
    injection e2 with e2
    injection e2 with e2
    subst e2
    have h3 := hk2.get hh hnE
    rw [show w2.heap[b]? = some (.cells [v2].toArray e (0, 0)) from h2] at h3
    injection h3 with h3
    injection h3 with h3
    simp at h3
    rw [← h3]; exact r2
  obtain ⟨t1, u1, hv'⟩ := hR _ _ r1
  have key := big_ap (P := P) (L := L) (Φ := Φ) (H := fun y T => H y T ∨ (y = x ∧ T = .newSl (.cells [v'].toArray e (0, 0)) 1 1)) (d := d) (ty := ty) (pos := pos) (after := after) (s := s) (x := x) (en := vC) (xs := xs) (e := e) (tx := tx) [v'] hT hC hG (.inl h0) (.inr ⟨rfl, rfl⟩) (fun L => src_new hk rfl (by subst hv'; rfl)) (by simp) (by simpa using hfit) (by simpa using h63) E w ρ ⟨hp.wf, hp.l, hp.f, fun y T hy hT => by
    rcases hT with hT | ⟨rfl, rfl⟩
    · exact hp.x y T hy hT
    · exact ⟨b, e1, hnE, hh⟩⟩ hnd
  refine Runs.mono key ?_
  rintro v w' ⟨gg, E', k1, k2, k3, k4, k5, k6, k7⟩
  refine ⟨⟨v', gg⟩, E', k1, k2, k3, fun w2 hk2 => ⟨?_, hRp w2 (k2.trans (Ev.of_keeps hk2)).keeps⟩, k5, k6, k7⟩
  exact k4
variable {c : Ctx} {K K' : List (Nat × Ty)} {L' : List Own} {Q : Exit → Act → World → Prop} {Z : Type} {Zp : Z → Prop} {L1 : Z → List Own} {R : Z → Ty}
theorem JO.openV {ops : Array Oper} {l : List Oper} {s : Nat} {V : Value} {F : World → Prop} (h : look K s = some (.rep (fun v w => v = V ∧ F w))) (hj : JO P c ((s, .is V) :: K) L (F :: Φ) ops l Q) : JO P c K L Φ ops l Q := by
  refine ⟨fun E a w hs => ?_⟩
  have h1 : Pers E w (fun w => a.tmps.getD s undef = V ∧ F w) := hs.k s _ h
  refine hj.out E a w ⟨hs.n, hs.d, hs.wf, fun s' T' hl' => ?_, hs.l, hs.ld, fun G hG => ?_, hs.x, hs.xs, hs.keeps, hs.may⟩
  · simp only [look] at hl'
    cases hq : Nat.beq s s' with
    | true =>
      rw [hq, cond_true] at hl'
      injection hl' with hl'
      subst hl'
      rw [← Nat.eq_of_beq_eq_true hq]
      exact h1.now.1
    | false => rw [hq, cond_false] at hl'; exact hs.k s' T' hl'
  · rcases List.mem_cons.1 hG with rfl | hG
    · exact fun w' hk => (h1 w' hk).2
    · exact hs.f G hG
theorem J.claimT {x : Code} {E0 : Nat → Prop} {w0 : World} {e : TypeId} {b : Nat} {cs : List Value} (hW : c.W0.heap.size ≤ w0.heap.size) (hN : w0.heap.size ≤ b) (h0 : ∀ F ∈ Φ0, Pers E0 w0 F) (hne : cs ≠ []) (hKi : K.all (fun p => p.2.isIs) = true) (hLi : L.all (fun o => o.T.isIs) = true)
    (hS : HeapIs b cs e ∈ Φ) (hM : Keeps E0 w0 ∈ Φ) (h : J P c K (⟨b, e, .is (.agg cs.toArray)⟩ :: L) (Keeps E0 w0 :: Φ0) x Q) : J P c K L Φ x Q := by
  refine ⟨fun E a' w hs => ?_⟩
  have hkp := hs.f _ hM
  have hb : w.heap[b]? = some (.cells cs.toArray e (0, 0)) := (hs.f _ hS).now
  have hlt := lt_of_get hb
  have hnE : ¬ E b := fun hE => by
    obtain ⟨u, us, rfl⟩ : ∃ u us, cs = u :: us := by
      cases cs with
      | nil => exact absurd rfl hne
      | cons u us => exact ⟨u, us, rfl⟩
    obtain ⟨u', hu'⟩ : ∃ u' : Value, u' ≠ u := by
      by_cases h : u = .bool true
      · exact ⟨.bool false, by rw [h]; simp⟩
      · exact ⟨.bool true, fun e => h e.symm⟩
    have hk' : Keeps E w { w with heap := w.heap.setIfInBounds b (.cells (u' :: us).toArray e (0, 0)) } := by
      refine ⟨rfl, rfl, rfl, by simp, fun q hq hx => ?_, fun q cs' t' fr' hq => ?_⟩
      · show (w.heap.setIfInBounds b _)[q]? = _
        rw [Array.getElem?_setIfInBounds_ne (fun e : b = q => hx (by rw [← e]; exact hE))]
      · by_cases e1 : b = q
        · subst e1
          rw [hb] at hq
          injection hq with hq
          injection hq with e1 e2 e3
          subst e1 e2 e3
          exact ⟨(u' :: us).toArray, by show (w.heap.setIfInBounds b _)[b]? = _; simp [hlt], by simp⟩
        · exact ⟨cs', by show (w.heap.setIfInBounds b _)[q]? = _; rw [Array.getElem?_setIfInBounds_ne e1]; exact hq, rfl⟩
    have h1 : (w.heap.setIfInBounds b (.cells (u' :: us).toArray e (0, 0)))[b]? = some (.cells (u :: us).toArray e (0, 0)) := hs.f _ hS _ hk'
    simp [hlt] at h1
    exact hu' h1
  refine h.out (fun q => E q ∨ q = b) a' w ⟨hs.n, hs.d, ?_, ?_, ?_, ?_, ?_, fun q hq => .inl (hs.x q hq), hs.xs, hs.keeps, ?_⟩
  · rintro q (hq | rfl)
    · exact hs.wf q hq
    · exact hlt
  · intro s T hl
    obtain ⟨v, rfl⟩ := look_is hKi s T hl
    exact hs.k s _ hl
  · intro o ho
    rcases List.mem_cons.1 ho with rfl | ho
    · exact ⟨.inr rfl, .agg cs.toArray, by simpa [Value.cells] using hb, rfl⟩
    · obtain ⟨h1, v, h2, h3⟩ := hs.l o ho
      have := List.all_eq_true.1 hLi o ho
      cases hT : o.T with
      | is u => rw [hT] at h3; exact ⟨.inl h1, v, h2, by rw [hT]; exact h3⟩
      | _ => rw [hT] at this; simp [Ty.isIs] at this
  · rw [List.map_cons, List.nodup_cons]
    refine ⟨fun hm => ?_, hs.ld⟩
    obtain ⟨m, hm, e'⟩ := List.mem_map.1 hm
    have e'' : m.b = b := e'
    exact hnE (e'' ▸ (hs.l m hm).1)
  · intro F hF
    have hkp' := keeps_claim hkp hN
    rcases List.mem_cons.1 hF with rfl | hF
    · exact hkp'
    · exact fun w' hk => h0 F hF w' (hkp' w' hk)
  · intro o ho
    rcases List.mem_cons.1 ho with rfl | ho
    · exact .inr (Nat.le_trans hW hN)
    · exact hs.may o ho
theorem JO.callvL {ops : Array Oper} {rest : List Oper} {pos : String} {after : Array Edge} {cal : Operand} {xs : List Operand} {cs : List Value} {AX TC : List Ty} {ats : Array TypeId} (hcal : opTy K cal = some (.is (.func (.func f) #[] cs.toArray))) (hc : CallL P f L0 Φ0 (AX ++ TC) Zp L1 R) (hC : ∀ E w, TyAll E w TC cs) (hd : ∀ d, dst = some d → d < c.n) (hL : L.Perm (L0 ++ Lr)) (hΦ : ∀ F ∈ Φ0, F ∈ Φ) (ha : Args L Φ (Kn K) xs AX)
    (hn : ∀ z, Zp z → JO P c (putK dst (R z) K) (L1 z ++ Lr) Φ ops rest Q) : JO P c K L Φ ops (⟨dst, .call { callee := .value cal, args := xs.toArray, argTypes := ats }, ty, pos, after, none⟩ :: rest) Q := by
  refine JO.stepL rfl hd hL (fun E w ρ hp hnd => ?_) hn
  have h1 : ρ cal = .func (.func f) #[] cs.toArray := hp.x cal _ (by simp [Op.operands, Call.operands]) hcal
  have hall := ha.all (ρ := ρ) (pre_facts hp) fun x T hx => hp.x x T (by simp [Op.operands, Call.operands, hx])
  have h3 := run_callL hc hΦ hp.wf hp.f (hall.append (hC E w)) (fun m hm => hp.l m (hL.mem_iff.2 (List.mem_append_left _ hm))) hnd
  simp only [execOp, resolve, h1, Deferred.ofValue, invoke, Sem.run_bind, Sem.run_pure, Result.andThen_ok, List.map_toArray]
  simpa using h3
variable {fn : Func} {n : Nat} {X : Nat → Prop} {W : World}
theorem JX.retLC1 {s u b' m : Nat} {t ety' : TypeId} {cs : Array Value} {B : Value} (hres : fn.results = #[.cell s t, .tmp u]) (z : Z) (hz : Zp z) (hL : L.Perm (L1 z ++ Lr)) (hol : (L1 z).all (fun o => o.T.out) = true) (hL0 : ∀ b, b ∈ L0.map (·.b) → X b) (h : look K s = some (.is (.pointer (some ⟨b', 0, none⟩)))) (hs' : szOf P t = some (some m)) (hm' : ⟨b', ety', .is (.agg cs)⟩ ∈ L) (hn : cs.size = m) (h' : look K u = some (.is B)) (hR : R z = .is (.tuple #[.agg cs, B])) :
    JX ⟨n, X, fun q => q ∈ L0.map (·.b), W⟩ K L Φ .ret (bodyPost P fn (PostL X W L0 Zp L1 R)) :=
  JX.retLOf z hz hL hol (by rw [hR]; rfl) hL0 fun a w E hs => by
    obtain ⟨v, h1, h2⟩ := res_cell (P := P) hs' (hs.l _ hm') (agg_is hn)
    have e : a.tmps.getD s undef = .pointer (some ⟨b', 0, none⟩) := hs.k s _ h
    have e2 : a.tmps.getD u undef = B := hs.k u _ h'
    rw [Array.getD_eq_getD_getElem?] at e e2
    have h2' : v = .agg cs := h2
    subst h2'
    exact ⟨.tuple #[.agg cs, B], by simp [results, hres, Array.getD_eq_getD_getElem?, e, e2, asAddr, h1], by rw [hR]; rfl⟩
end
end Go.Vc

namespace Go.Vc
open Go
theorem Ob.moreI {P : Program} {L L' : List Own} {Φ : List (World → Prop)} {H H' : Know} {o : Oper} {T : Ty} (hL : ∀ E w, (∀ m ∈ L', m.at E w) → ∀ m ∈ L, m.at E w) (hH : ∀ x U, H x U → U = .any ∨ H' x U) (h : Ob P L Φ H o T) : Ob P L' Φ H' o T := fun E w ρ hp =>
  h E w ρ ⟨hp.wf, hL E w hp.l, hp.f, fun x U hx hU => by
    rcases hH x U hU with rfl | h'
    · trivial
    · exact hp.x x U hx h'⟩
section
variable {P : Program} {ops : Array Oper} {c : Ctx} {K : List (Nat × Ty)} {L Lq : List Own} {Φ : List (World → Prop)} {D : Array Bool} {E : Nat → Prop} {a : Act} {w : World} {i : Nat} {o : Oper} {T : Ty} {kd : Kind}
theorem St1.quietI {K1 K2 : List (Nat × Ty)} {S' : Sd} {M' : List Own} (hL : ∀ E w, (∀ m ∈ L, m.at E w) → ∀ m ∈ Lq, m.at E w) (hK : KLe K1 K2) (hna : isAlloc o = false) (hns : ∀ t p x, o.op ≠ .store t p x) (h : St1 P ops Lq Φ i o K1 [] [] T M' S' kd) :
    M' = [] ∧ S' = [] ∧ ∃ kd, St1 P ops L Φ i o K2 [] [] T [] [] kd := by
  cases h with
  | typed hg h => exact ⟨rfl, rfl, _, .typed hg (h.moreI hL hK.op)⟩
  | gated π g b d hg hd hk hna h =>
    refine ⟨rfl, rfl, _, .gated π g b d hg hd ?_ hna fun hπ => (h hπ).moreI hL (hK.opG π)⟩
    rcases hk with ⟨c', hk, e⟩ | ⟨π₀, c', hk, e⟩
    · rcases hK d _ hk with h' | h'
      · cases h'
      · exact .inl ⟨c', h', e⟩
    · rcases hK d _ hk with h' | h'
      · cases h'
      · exact .inr ⟨π₀, c', h', e⟩
  | new t n d hd hg ho hz => simp [isAlloc, ho] at hna
  | sto s ety ty n x hg hdst g hgi hal ho => exact absurd ho (hns _ _ _)
  | chg hg hl hm h =>
    have hM : M' = [] := List.map_eq_nil_iff.1 (by rw [hm]; rfl)
    subst hM
    refine ⟨rfl, rfl, _, .typed hg ?_⟩
    refine Ob.moreI hL hK.op fun E w ρ hp => ?_
    exact (h E w ρ hp (fun _ h => by cases h) (by simp)).mono fun v w' ⟨hk, hT, _⟩ => ⟨hk.mono fun _ _ h => by simp at h, hT⟩
end
def quietOK1 (ops : Array Oper) (p : Nat) : Bool := (List.range ops.size).all fun j => match ops[j]? with | some o => !isAlloc o && (j == p || match o.op with | .store .. => false | _ => true) | none => true
section
variable {P : Program} {c : Ctx} {K : List (Nat × Ty)} {L : List Own} {Φ : List (World → Prop)} {Q : Exit → Act → World → Prop}
theorem J.regS1 {id : Nat} {dr : Bool} {l1 l2 tail : List Oper} {op : Oper} (L2 Lq : List Own) (hop : op.dst = none) (hg : op.guard = none)
    (hmx : P.follows .mixedOrders = true) (hok : (backOK (l1 ++ op :: l2 ++ tail).toArray && syncOK (l1 ++ op :: l2 ++ tail).toArray (l1 ++ op :: l2).length && regOK (l1 ++ op :: l2).toArray && quietOK1 (l1 ++ op :: l2).toArray l1.length) = true)
    (hdn : ((l1 ++ op :: l2).toArray.all fun o => match o.dst with | some d => decide (d < c.n) | none => true) = true)
    (hq1 : ∀ E w, (∀ m ∈ L, m.at E w) → ∀ m ∈ Lq, m.at E w) (hq2 : ∀ E w, (∀ m ∈ L2, m.at E w) → ∀ m ∈ Lq, m.at E w)
    (h : RT P (l1 ++ op :: l2).toArray Lq Φ 0 l1 K [] [] (fun K1 _ _ => BigOb P L Φ (Kn K1) op (G := Unit) (fun _ => .any) (fun _ => L2) ∧ RT P (l1 ++ op :: l2).toArray Lq Φ (l1.length + 1) l2 K1 [] [] (fun K2 _ _ => JO P c K2 L2 Φ (l1 ++ op :: l2 ++ tail).toArray tail Q))) :
    J P c K L Φ (.region id (l1 ++ op :: l2 ++ tail).toArray dr) Q := by
  refine ⟨?_⟩
  intro E a w hsa
  simp only [Bool.and_eq_true] at hok
  obtain ⟨⟨⟨hbk, hsy⟩, hreg⟩, hqu⟩ := hok
  generalize hA : l1 ++ op :: l2 = A at *
  have hlp : (A ++ tail).toArray.toList.take A.length = A := by simp
  have hld : (A ++ tail).toArray.toList.drop A.length = tail := by simp
  have hpA : A[l1.length]? = some op := by rw [← hA]; simp
  have hAlen : A.length = l1.length + 1 + l2.length := by rw [← hA]; simp; omega
  obtain ⟨T1, Mf1, Sf1, kf1, hM1, hS1, hst1, hbig, hrt2⟩ := h.out
  obtain ⟨T2, Mf2, Sf2, kf2, hM2, hS2, hst2, hfin⟩ := hrt2.out
  have hbk' : backOK A.toArray = true := by unfold regOK at hreg; rw [Bool.and_eq_true] at hreg; exact hreg.1
  have hord' : ordOK A.toArray = true := by unfold regOK at hreg; rw [Bool.and_eq_true] at hreg; exact hreg.2
  let T : Nat → Ty := fun j => if j < l1.length then T1 j else if j = l1.length then .any else T2 (j - (l1.length + 1))
  have hTp : T l1.length = .any := by simp [T]
  have hKA1 : ∀ n, n ≤ l1.length → kAt A T K n = kAt l1 T1 K n := by
    intro n
    induction n with
    | zero => intro _; rfl
    | succ n ih =>
      intro hn
      rw [kAt, kAt, ih (by omega), ← hA, List.getElem?_append_left (by omega)]
      congr 1
      simp [T, show n < l1.length by omega]
  have hKA2 : ∀ n, kAt A T K (l1.length + 1 + n) = kAt l2 T2 (kAt l1 T1 K l1.length) n := by
    intro n
    induction n with
    | zero =>
      show putK ((A[l1.length]?).bind (·.dst)) (T l1.length) (kAt A T K l1.length) = _
      rw [hKA1 _ (Nat.le_refl _), hpA, Option.bind_some, hop, hTp]
      rfl
    | succ n ih =>
      show putK ((A[l1.length + 1 + n]?).bind (·.dst)) (T (l1.length + 1 + n)) (kAt A T K (l1.length + 1 + n)) = putK ((l2[n]?).bind (·.dst)) (T2 n) _
      rw [ih]
      congr 1
      · congr 1
        rw [← hA, List.getElem?_append_right (by omega), show l1.length + 1 + n - l1.length = n + 1 by omega]
        rfl
      · simp [T, show ¬ l1.length + 1 + n < l1.length by omega, show l1.length + 1 + n ≠ l1.length by omega]
  have hquA : ∀ (j : Nat) (oj : Oper), A[j]? = some oj → isAlloc oj = false ∧ (j ≠ l1.length → ∀ t p x, oj.op ≠ .store t p x) := by
    intro j oj hj
    unfold quietOK1 at hqu
    have hjl : j < A.length := (List.getElem?_eq_some_iff.1 hj).1
    have h1 := List.all_eq_true.1 hqu j (List.mem_range.2 (by simpa using hjl))
    rw [show A.toArray[j]? = some oj by simpa using hj] at h1
    simp only [Bool.and_eq_true, Bool.not_eq_true', Bool.or_eq_true, beq_iff_eq] at h1
    exact ⟨h1.1, fun hne t p x e => by rw [e] at h1; simp [hne] at h1⟩
  have hMS1 : ∀ j, j ≤ l1.length → Mf1 j = [] ∧ Sf1 j = [] := by
    intro j
    induction j with
    | zero => intro _; exact ⟨hM1, hS1⟩
    | succ j ih =>
      intro hj
      obtain ⟨e1, e2⟩ := ih (by omega)
      have ho : l1[j]? = some l1[j] := List.getElem?_eq_getElem (by omega)
      have h1 := hst1 j _ ho
      rw [e1, e2] at h1
      obtain ⟨q1, q2⟩ := hquA j l1[j] (by rw [← hA, List.getElem?_append_left (by omega)]; exact ho)
      obtain ⟨g1, g2, _⟩ := h1.quietI (L := Lq) (K2 := kAt l1 T1 K j) (fun _ _ h => h) (fun s U h => .inr h) q1 (q2 (by omega))
      exact ⟨g1, g2⟩
  have hMS2 : ∀ j, j ≤ l2.length → Mf2 j = [] ∧ Sf2 j = [] := by
    intro j
    induction j with
    | zero => intro _; exact ⟨hM2, hS2⟩
    | succ j ih =>
      intro hj
      obtain ⟨e1, e2⟩ := ih (by omega)
      have ho : l2[j]? = some l2[j] := List.getElem?_eq_getElem (by omega)
      have h1 := hst2 j _ ho
      rw [e1, e2] at h1
      obtain ⟨q1, q2⟩ := hquA (l1.length + 1 + j) l2[j] (by rw [← hA, List.getElem?_append_right (by omega), show l1.length + 1 + j - l1.length = j + 1 by omega]; exact ho)
      obtain ⟨g1, g2, _⟩ := h1.quietI (L := Lq) (K2 := kAt l2 T2 (kAt l1 T1 K l1.length) j) (fun _ _ h => h) (fun s U h => .inr h) q1 (q2 (by omega))
      exact ⟨g1, g2⟩
  have hst : ∀ (L' : List Own) (T' : Nat → Ty), (∀ E w, (∀ m ∈ L', m.at E w) → ∀ m ∈ Lq, m.at E w) → (∀ j, j ≠ l1.length → T' j = T j) → ∀ i o, A.toArray[i]? = some o → i ≠ l1.length → ∃ kd, St1 P A.toArray L' Φ i o (kAt A.toArray.toList T' K i) [] [] (T' i) [] [] kd := by
    intro L' T' hL' hT' i o hi hne
    have hi' : A[i]? = some o := by simpa using hi
    obtain ⟨q1, q2⟩ := hquA i o hi'
    rw [hT' i hne]
    have hle : KLe (kAt A T K i) (kAt A T' K i) := kAt_le hTp hT' i
    rcases Nat.lt_or_ge i l1.length with hlt | hge
    · have ho : l1[i]? = some o := by rw [← hA, List.getElem?_append_left hlt] at hi'; exact hi'
      have h1 := hst1 i o ho
      obtain ⟨e1, e2⟩ := hMS1 i (by omega)
      obtain ⟨e3, e4⟩ := hMS1 (i + 1) (by omega)
      rw [e1, e2, Nat.zero_add, ← hKA1 i (by omega)] at h1
      have hTi : T i = T1 i := by simp [T, hlt]
      rw [hTi]
      exact (h1.quietI hL' hle q1 (q2 hne)).2.2
    · have ho : l2[i - (l1.length + 1)]? = some o := by
        rw [← hA, List.getElem?_append_right hge] at hi'
        rw [show i - l1.length = (i - (l1.length + 1)) + 1 by omega] at hi'
        simpa using hi'
      have hl2 : i - (l1.length + 1) < l2.length := (List.getElem?_eq_some_iff.1 ho).1
      have h1 := hst2 _ o ho
      obtain ⟨e1, e2⟩ := hMS2 (i - (l1.length + 1)) (by omega)
      rw [e1, e2, ← hKA2, show l1.length + 1 + (i - (l1.length + 1)) = i by omega] at h1
      have hTi : T i = T2 (i - (l1.length + 1)) := by simp [T, show ¬ i < l1.length by omega, hne]
      rw [hTi]
      exact (h1.quietI hL' hle q1 (q2 hne)).2.2
  have hnn : ∀ (i : Nat) (o : Oper) (d : Nat), A.toArray[i]? = some o → o.dst = some d → d < c.n := by
    intro i o d hi hd
    have := Array.all_eq_true_iff_forall_mem.1 hdn o (Array.mem_of_getElem? hi)
    rw [hd] at this
    simpa using this
  have hnal : ∀ (j : Nat) (oj : Oper) (t : TypeId), A.toArray[j]? = some oj → oj.op ≠ .alloc t := by
    intro j oj t hj e
    have := (hquA j oj (by simpa using hj)).1
    simp [isAlloc, e] at this
  have hpA' : A.toArray[l1.length]? = some op := by simpa using hpA
  refine wp_region_sync (Q := Q) A.length hmx hbk hsy (fun D a w' => (D.getD l1.length false = false ∧ ∃ E, RI P A.toArray c K [] L Φ T (fun _ => []) (fun _ => []) w.heap.size D E a w') ∨
      (D.getD l1.length false = true ∧ ∃ (B : Nat) (E : Nat → Prop), Stat0 A.toArray c [] L2 (fun _ => []) (fun _ => []) B ∧ RI P A.toArray c K [] L2 Φ (fun j => if j = l1.length then .any else T j) (fun _ => []) (fun _ => []) B D E a w')) ?_ ?_ ?_
  · intro w' hw'
    have hs' : SA c K L Φ E a w' := by
      rcases hw' with rfl | rfl
      · exact hsa
      · exact hsa.drew
    have hno : ∀ (n j : Nat), (Array.replicate n false).getD j false = false := by
      intro n j
      rw [Array.getD_eq_getD_getElem?, Array.getElem?_replicate]
      split <;> simp
    refine .inl ⟨hno _ _, E, hs'.n, hs'.d, hs'.wf, fun j hj => absurd hj (by rw [hno]; simp), fun s T' hs _ => hs'.k s T' hs, fun j o d _ hj => absurd hj (by rw [hno]; simp), hs'.l, hs'.f, fun _ _ _ => ⟨(fun _ h => by cases h), (fun _ h => by cases h)⟩, fun j oj d t hj hop => absurd hop (hnal j oj t hj), fun j1 _ o1 _ _ _ t1 _ _ h1 _ p1 => absurd p1 (hnal j1 o1 t1 h1), hs'.x, hs'.keeps, ?_⟩
    rcases hw' with rfl | rfl <;> exact Nat.le_refl _
  · rw [hlp, hld]
    rintro D a' w' i o hs hI hi hd hr
    have hi' : i < A.toArray.size := (Array.getElem?_eq_some_iff.1 hi).1
    have hdf : D.getD i false = false := by
      have hlt : i < D.size := by omega
      simp only [Array.getD_eq_getD_getElem?, Array.getElem?_eq_getElem hlt, Option.getD_some] at hd ⊢
      exact hd
    have hsize : ∀ j, (D.setIfInBounds i true).getD j false = true ↔ j = i ∨ D.getD j false = true := fun j => get_set (by omega)
    have keepP : i ≠ l1.length → (D.setIfInBounds i true).getD l1.length false = D.getD l1.length false := by
      intro hne
      cases hq : D.getD l1.length false with
      | true => exact (hsize _).2 (.inr hq)
      | false =>
        cases hq' : (D.setIfInBounds i true).getD l1.length false with
        | false => rfl
        | true =>
          rcases (hsize _).1 hq' with e | e
          · exact absurd e.symm hne
          · rw [hq] at e; cases e
    have quietAll : ∀ (i : Nat) (o : Oper), A.toArray[i]? = some o → isLoud o = false → (fun _ => ([] : List Own)) (i + 1) = (fun _ => ([] : List Own)) i ∧ (fun _ => ([] : Sd)) (i + 1) = (fun _ => ([] : Sd)) i := fun _ _ _ _ => ⟨rfl, rfl⟩
    rcases hI with ⟨hp, E', hI⟩ | ⟨hp, B, E', hS, hI⟩
    · have hS0 : Stat0 A.toArray c [] L (fun _ => []) (fun _ => []) w.heap.size := ⟨fun _ _ => rfl, fun _ _ => List.nodup_nil, hsa.ld, fun m hm => lt_of_get (hsa.l m hm).2.choose_spec.1, hsa.may, hnn, hsa.keeps.size⟩
      by_cases hip : i = l1.length
      · subst hip
        rw [hpA'] at hi
        injection hi with hi
        subst hi
        have hpre := hI.pre hbk' hord' hpA' hdf hr
        have hKeq : kAt A.toArray.toList T K l1.length = kAt l1 T1 K l1.length := hKA1 _ (Nat.le_refl _)
        rw [hKeq] at hpre
        have hrun := hbig E' w' a'.eval hpre hsa.ld
        unfold wpOp
        rw [hpA']
        simp only
        rw [if_pos (by simp [Region.wanted, hg])]
        refine .inl ?_
        unfold Oper.wp
        refine Runs.upon hrun fun v w'' ⟨_, E'', hk, hev, hwf, hT, hl, hnd, hmay⟩ => .inr ⟨(hsize _).2 (.inl rfl), w''.heap.size, E'', ?_, ?_⟩
        · refine ⟨fun _ _ => rfl, fun _ _ => List.nodup_nil, hnd, fun m hm => lt_of_get (hl m hm).2.choose_spec.1, fun m hm => ?_, hnn, ?_⟩
          · rcases hmay m hm with h1 | h1
            · obtain ⟨m', hm', e⟩ := List.mem_map.1 h1
              rw [← e]
              exact hsa.may m' hm'
            · have := hI.keeps.size
              exact .inr (by omega)
          · exact Nat.le_trans hI.keeps.size hk.size
        · exact hI.big hs hord' hpA' hdf hr hnal (fun d hd => hnn _ _ d hpA' hd) hk hev hwf hT hl hsa.may
      · refine wpOp_mono (fun a'' w'' hI' => .inl ⟨by rw [keepP hip]; exact hp, hI'⟩) (hI.step1 hS0 quietAll hbk' hord' hs hi hd hr (hst L T hq1 (fun _ _ => rfl) i o hi hip))
    · have hip : i ≠ l1.length := fun e => by subst e; rw [hdf] at hp; cases hp
      refine wpOp_mono (fun a'' w'' hI' => .inr ⟨by rw [keepP hip]; exact hp, B, ?_⟩) (hI.step1 hS quietAll hbk' hord' hs hi hd hr (hst L2 _ hq2 (fun j hj => by simp [hj]) i o hi hip))
      obtain ⟨E'', hI'⟩ := hI'
      exact ⟨E'', hS, hI'⟩
  · rw [hlp, hld]
    rintro D a' w' hs hall hI
    have hpd : D.getD l1.length false = true := hall _ (by simp; omega)
    rcases hI with ⟨hp, _⟩ | ⟨_, B, E', hS, hI⟩
    · rw [hpd] at hp; cases hp
    · have hlen : A.length = A.toArray.size := by simp
      refine hfin.out E' a' w' ⟨hI.n, hI.d, hI.wf, ?_, hI.l, hS.nd, hI.f, hI.x, hsa.xs, hI.keeps, hS.may⟩
      intro s T' hl
      rw [← hKA2 l2.length, ← hAlen] at hl
      have hl' : look (kAt A.toArray.toList T K A.toArray.size) s = some T' := by simpa using hl
      rcases kAt_look s A.toArray.size (Nat.le_refl _) T' hl' with ⟨j, oj, hj, hoj, hdj, rfl⟩ | ⟨hn, hk⟩
      · have := hI.t j oj s hoj (hall j (by simpa using hj)) hdj
        by_cases e : j = l1.length
        · subst e
          rw [hpA'] at hoj
          injection hoj with hoj
          subst hoj
          rw [hop] at hdj
          cases hdj
        · rw [if_neg e] at this
          exact this
      · exact hI.k s T' hk fun j oj hoj _ => hn j oj (Array.getElem?_eq_some_iff.1 hoj).1 hoj
theorem J.regSm {id : Nat} {dr : Bool} {l : List Oper} (p m : Nat) {op : Oper} (L2 Lq : List Own) (hp : l[p]? = some op) (hpm : Nat.blt p m = true) (hop : op.dst = none) (hg : op.guard = none)
    (hmx : P.follows .mixedOrders = true) (hok : (backOK l.toArray && syncOK l.toArray m && regOK (l.take m).toArray && quietOK1 (l.take m).toArray p) = true) (hml : (l.take m).length = m) (hpl : (l.take p).length = p)
    (hdn : ((l.take m).toArray.all fun o => match o.dst with | some d => decide (d < c.n) | none => true) = true)
    (hq1 : ∀ E w, (∀ m ∈ L, m.at E w) → ∀ m ∈ Lq, m.at E w) (hq2 : ∀ E w, (∀ m ∈ L2, m.at E w) → ∀ m ∈ Lq, m.at E w)
    (h : RT P (l.take m).toArray Lq Φ 0 (l.take p) K [] [] (fun K1 _ _ => BigOb P L Φ (Kn K1) op (G := Unit) (fun _ => .any) (fun _ => L2) ∧ RT P (l.take m).toArray Lq Φ ((l.take p).length + 1) ((l.drop (p + 1)).take (m - (p + 1))) K1 [] [] (fun K2 _ _ => JO P c K2 L2 Φ l.toArray (l.drop m) Q))) :
    J P c K L Φ (.region id l.toArray dr) Q := by
  have hc := cut_at hp (Nat.le_of_ble_eq_true hpm)
  have key := J.regS1 (P := P) (c := c) (K := K) (L := L) (Φ := Φ) (Q := Q) (id := id) (dr := dr) (l1 := l.take p) (l2 := (l.drop (p + 1)).take (m - (p + 1))) (tail := l.drop m) (op := op) L2 Lq hop hg hmx
  rw [hc, hml, List.take_append_drop, hpl] at key
  rw [hpl] at h
  exact key hok hdn hq1 hq2 h
theorem BigOb.store {op : Oper} {H : Know} {L2 : List Own} {T : Ty} (hm : L2.map (·.b) = L.map (·.b)) (h : ObM P [] Φ H L op T L2) : BigOb P L Φ H op (G := Unit) (fun _ => .any) (fun _ => L2) := fun E w ρ hp hnd => by
  have hR := h E w ρ ⟨hp.wf, fun m hm => absurd hm List.not_mem_nil, hp.f, hp.x⟩ hp.l hnd
  refine Runs.mono hR fun v w' ⟨hk, _, hL⟩ => ⟨(), E, hk, Ev.of_keeps (hk.mono fun b _ hb => ?_), fun b hb => Nat.lt_of_lt_of_le (hp.wf b hb) hk.size, trivial, hL, by rw [hm]; exact hnd, fun o ho => .inl (by rw [← hm]; exact List.mem_map_of_mem ho)⟩
  obtain ⟨m, hm', rfl⟩ := List.mem_map.1 hb
  exact (hp.l m hm').1
theorem RT.store {ops : Array Oper} {op : Oper} {Lq L2 : List Own} {l2 : List Oper} {i : Nat} {k : List (Nat × Ty) → List Own → Sd → Prop} (h : BigOb P L Φ (Kn K) op (G := Unit) (fun _ => .any) (fun _ => L2)) (n : RT P ops Lq Φ i l2 K [] [] k) :
    RT P ops Lq Φ i [] K [] [] (fun K1 _ _ => BigOb P L Φ (Kn K1) op (G := Unit) (fun _ => .any) (fun _ => L2) ∧ RT P ops Lq Φ i l2 K1 [] [] k) := ⟨h, n⟩
variable {dst : Option Nat} {ty : TypeId} {pos : String} {after : Array Edge} {g : Option (Nat × Bool)} {H : Know}
theorem ob_ldWeak {t ety : TypeId} {x : Operand} {b off : Nat} {u : Value} {R : Value → World → Prop} (hs : szOf P t = some none) (hx : H x (.is (.pointer (some ⟨b, off, none⟩)))) (hm : ⟨b, ety, .rep R⟩ ∈ L) (hR : ∀ v w, R v w → v.cells[off]? = some u) : Ob P L Φ H ⟨dst, .load t x, ty, pos, after, g⟩ (.is u) :=
  ob_load hx fun E w hf => run_load1 hs (by
    obtain ⟨_, v, h2, h3⟩ := hf.1 _ hm
    rw [cell_of_blk h2]
    exact hR v w (Pers.now h3))
end
theorem own_weak {b : Nat} {e : TypeId} {V : Value} {R : Value → World → Prop} (hR : ∀ w, R V w) {E : Nat → Prop} {w : World} (h : (⟨b, e, .is V⟩ : Own).at E w) : (⟨b, e, .rep R⟩ : Own).at E w := by
  obtain ⟨h1, v, h2, h3⟩ := h
  refine ⟨h1, v, h2, ?_⟩
  rw [show v = V from h3]
  exact fun w' _ => hR w'
theorem own_weaks {b : Nat} {e : TypeId} {V : Value} {R : Value → World → Prop} {Lr : List Own} (hR : ∀ w, R V w) : ∀ (E : Nat → Prop) (w : World), (∀ m ∈ (⟨b, e, .is V⟩ : Own) :: Lr, m.at E w) → ∀ m ∈ (⟨b, e, .rep R⟩ : Own) :: Lr, m.at E w := fun E w h m hm => by
  rcases List.mem_cons.1 hm with rfl | hm
  · exact own_weak hR (h _ List.mem_cons_self)
  · exact h m (List.mem_cons_of_mem _ hm)
end Go.Vc
