/- More operations: division, shifts, bits; a call that writes one block. No condition. -/
import Derived.Test.YtjlojkchgfeenaaXVc10
namespace Go.Vc
open Go
section
variable {P : Program} {L : List Own} {Φ : List (World → Prop)} {H : Know} {dst : Option Nat} {ty : TypeId} {pos : String} {after : Array Edge} {g : Option (Nat × Bool)}
variable {xt yt : TypeId} {x y : Operand} {k k' : IntKind} {a b : Int}
theorem ob_shr (hx : H x (.is (.int k a))) (hy : H y (.is (.int k' b))) (hb : decide (0 ≤ b) = true) : Ob P L Φ H ⟨dst, .binOp .shr xt x y yt, ty, pos, after, g⟩ (.is (.int k (a.fdiv (2 ^ (min b.toNat k.bits))))) :=
  ob_bin hx hy fun w => by
    have h0 : ¬ b < 0 := by have := of_decide_eq_true hb; omega
    simp [eqGuard, binOp, Op.shift, h0]
theorem ob_shl (hx : H x (.is (.int k a))) (hy : H y (.is (.int k' b))) (hb : decide (0 ≤ b) = true) : Ob P L Φ H ⟨dst, .binOp .shl xt x y yt, ty, pos, after, g⟩ (.is (.int k (k.wrap (a * 2 ^ (min b.toNat k.bits))))) :=
  ob_bin hx hy fun w => by
    have h0 : ¬ b < 0 := by have := of_decide_eq_true hb; omega
    simp [eqGuard, binOp, Op.shift, h0]
theorem ob_quo (hx : H x (.is (.int k a))) (hy : H y (.is (.int k b))) (hb : b ≠ 0) : Ob P L Φ H ⟨dst, .binOp .quo xt x y yt, ty, pos, after, g⟩ (.is (.int k (k.wrap (a.tdiv b)))) :=
  ob_bin hx hy fun w => by simp [eqGuard, binOp, Op.intDiv, hb]
theorem ob_rem (hx : H x (.is (.int k a))) (hy : H y (.is (.int k b))) (hb : b ≠ 0) : Ob P L Φ H ⟨dst, .binOp .rem xt x y yt, ty, pos, after, g⟩ (.is (.int k (a.tmod b))) :=
  ob_bin hx hy fun w => by simp [eqGuard, binOp, Op.intDiv, hb]
theorem ob_and (hx : H x (.is (.int k a))) (hy : H y (.is (.int k b))) : Ob P L Φ H ⟨dst, .binOp .and xt x y yt, ty, pos, after, g⟩ (.is (.int k (k.wrap (BitVec.ofInt k.bits a &&& BitVec.ofInt k.bits b).toNat))) :=
  ob_bin hx hy fun w => by simp [eqGuard, binOp, Op.intBits]
theorem ob_or (hx : H x (.is (.int k a))) (hy : H y (.is (.int k b))) : Ob P L Φ H ⟨dst, .binOp .or xt x y yt, ty, pos, after, g⟩ (.is (.int k (k.wrap (BitVec.ofInt k.bits a ||| BitVec.ofInt k.bits b).toNat))) :=
  ob_bin hx hy fun w => by simp [eqGuard, binOp, Op.intBits]
theorem ob_xor (hx : H x (.is (.int k a))) (hy : H y (.is (.int k b))) : Ob P L Φ H ⟨dst, .binOp .xor xt x y yt, ty, pos, after, g⟩ (.is (.int k (k.wrap (BitVec.ofInt k.bits a ^^^ BitVec.ofInt k.bits b).toNat))) :=
  ob_bin hx hy fun w => by simp [eqGuard, binOp, Op.intBits]
theorem ob_convII {s t : TypeId} {ku : IntKind} (hu0 : ∃ d, P.underlying s = some d) (hu : P.underlying t = some (.int k)) (hx : H x (.is (.int ku a))) : Ob P L Φ H ⟨dst, .convert s t x, ty, pos, after, g⟩ (.is (.int k (k.wrap a))) :=
  ob_is fun E w ρ hp => by
    have h1 : ρ x = .int ku a := hp.x x _ (by simp [Op.operands]) hx
    obtain ⟨d, hd⟩ := hu0
    simp [execOp, h1, convert, run_underlying hd, run_underlying hu, Conv.intToInt]
theorem ob_indexArr {t e : TypeId} {n : Nat} {cs : Array Value} {i : Int} {v : Value} (hu : P.underlying t = some (.array n e)) (hs : szOf P e = some none) (he : (P.info? e).map (·.size) = some 1) (hx : H x (.is (.agg cs))) (hy : H y (.is (.int k i))) (h0 : 0 ≤ i) (h1 : i < n) (hv : cs[i.toNat]? = some v) :
    Ob P L Φ H ⟨dst, .index t x y, ty, pos, after, g⟩ (.is v) :=
  ob_is fun E w ρ hp => by
    have e1 : ρ x = .agg cs := hp.x x _ (by simp [Op.operands]) hx
    have e2 : ρ y = .int k i := hp.x y _ (by simp [Op.operands]) hy
    have hag : (isAgg e).run P w = .ok false w := by
      unfold szOf at hs
      cases hue : P.underlying e with
      | none => simp [hue] at hs
      | some d =>
        rw [hue] at hs
        cases d <;> first | (simp [isAgg, run_underlying hue]; done) | (cases hi : P.info? e <;> simp [hi] at hs)
    cases hi : P.info? e with
    | none => simp [hi] at he
    | some ie =>
      simp only [hi, Option.map_some, Option.some.injEq] at he
      simp [execOp, e1, e2, Instr.index, asIntOf, run_underlying hu, h0, h1, sizeOf, typeInfo, hi, he, part, hag, hv]
theorem ob_loadNewN {t ety : TypeId} {off n : Nat} {cs : Array Value} {fr : Nat × Nat} {vs : List Value} (hs : szOf P t = some (some n)) (hx : H x (.newPtr (.cells cs ety fr) off)) (hv : (cs.toList.drop off).take n = vs) (hn : vs.length = n) : Ob P L Φ H ⟨dst, .load t x, ty, pos, after, g⟩ (.is (.agg vs.toArray)) :=
  ob_is fun E w ρ hp => by
    subst hn
    obtain ⟨bb, e1, hb1, hb2⟩ := hp.x x _ (by simp [Op.operands]) hx
    have := run_loadN (P := P) (w := w) (t := t) (p := ⟨bb, off, none⟩) (cs := vs) hs fun j v hj => by
      rw [add_at, cell_of_blk hb2]
      rw [← hv, List.getElem?_take] at hj
      split at hj
      · rw [List.getElem?_drop] at hj
        simpa using hj
      · cases hj
    simp [execOp, e1, Instr.loadAt, Instr.sureAddr, this]
end
theorem wrap64_eq {n : Int} (h1 : -9223372036854775808 ≤ n) (h2 : n < 9223372036854775808) : IntKind.i64.wrap n = n := by rw [IntKind.wrap_i64]; omega
section
variable {P : Program} {L : List Own} {Φ : List (World → Prop)} {H : Know} {dst : Option Nat} {ty : TypeId} {pos : String} {after : Array Edge} {g : Option (Nat × Bool)}
variable {xt yt : TypeId} {x y : Operand} {a b : Int}
theorem ob_addc {cc : Int} (hx : H x (.is (.int .i64 a))) (hy : H y (.is (.int .i64 b))) (hc : a + b = cc) (h1 : -9223372036854775808 ≤ cc) (h2 : cc < 9223372036854775808) : Ob P L Φ H ⟨dst, .binOp .add xt x y yt, ty, pos, after, g⟩ (.is (.int .i64 cc)) := by
  subst hc
  have h := ob_add (P := P) (L := L) (Φ := Φ) (dst := dst) (ty := ty) (pos := pos) (after := after) (g := g) (xt := xt) (yt := yt) hx hy
  rwa [wrap64_eq h1 h2] at h
theorem ob_subc {cc : Int} (hx : H x (.is (.int .i64 a))) (hy : H y (.is (.int .i64 b))) (hc : a - b = cc) (h1 : -9223372036854775808 ≤ cc) (h2 : cc < 9223372036854775808) : Ob P L Φ H ⟨dst, .binOp .sub xt x y yt, ty, pos, after, g⟩ (.is (.int .i64 cc)) := by
  subst hc
  have h := ob_sub (P := P) (L := L) (Φ := Φ) (dst := dst) (ty := ty) (pos := pos) (after := after) (g := g) (xt := xt) (yt := yt) hx hy
  rwa [wrap64_eq h1 h2] at h
variable {c : Ctx} {K : List (Nat × Ty)} {Q : Exit → Act → World → Prop}
theorem ob_lenNew {t e : TypeId} {ob : Obj} {n cap : Nat} (hu : P.underlying t = some (.slice e)) (hx : H x (.newSl ob n cap)) : Ob P L Φ H ⟨dst, .call { callee := .builtin .len, args := #[x], argTypes := #[t] }, ty, pos, after, g⟩ (.is (.int .i64 n)) :=
  ob_is fun E w ρ hp => by
    obtain ⟨bb, h1, _, _⟩ := hp.x x _ (by simp [Op.operands, Call.operands]) hx
    simp [execOp, resolve, invoke, builtin, Builtin.len_, run_underlying hu, h1, goInt]
theorem J.loopF {α : Type} {body : Code} (Kf : α → List (Nat × Ty)) (inv : α → Prop) (μ : α → Nat) (x0 : α) (ss : List Nat) (h0 : Sel K ss (Kf x0)) (hi : inv x0)
    (h : ∀ x, inv x → J P c (Kf x) L Φ body (Exit.then (fun a w => ∃ x', inv x' ∧ μ x' < μ x ∧ ∃ E, SA c (Kf x') L Φ E a w) Q)) : J P c K L Φ (.loop body) Q :=
  J.sel ss h0 (J.loop Kf (fun _ => L) (fun _ => Φ) inv μ x0 ⟨rfl, rfl, rfl⟩ hi h)
theorem JX.roundF {α : Type} {Kf : α → List (Nat × Ty)} {inv : α → Prop} {μ : α → Nat} {x : α} (x' : α) (hi : inv x') (hμ : μ x' < μ x) (ss : List Nat) (hK : Sel K ss (Kf x')) :
    JX c K L Φ .normal (Exit.then (fun a w => ∃ x', inv x' ∧ μ x' < μ x ∧ ∃ E, SA c (Kf x') L Φ E a w) Q) :=
  JX.round (Lf := fun _ => L) (Φf := fun _ => Φ) x' hi hμ ss hK rfl (fun _ h => h)
theorem JX.roundE {α : Type} {Kf : α → List (Nat × Ty)} {inv : α → Prop} {μ : α → Nat} {x : α} {K' : List (Nat × Ty)} (x' : α) (hi : inv x') (hμ : μ x' < μ x) (ss : List Nat) (hK : Sel K ss K') (he : K' = Kf x') :
    JX c K L Φ .normal (Exit.then (fun a w => ∃ x', inv x' ∧ μ x' < μ x ∧ ∃ E, SA c (Kf x') L Φ E a w) Q) := by
  subst he
  exact JX.roundF x' hi hμ ss hK
end
structure CallM (P : Program) (f : FuncId) (ety : TypeId) (V0 : Value) (Φ0 : List (World → Prop)) (As : List Ty) (V1 : Value) (R : Ty) : Prop where
  enter : ∀ args w, (callFunc f args).run P w = .ok (.enter f args) w
  calls : ∀ (E : Nat → Prop) (w : World) (b : Nat) (vs : List Value), (∀ b, E b → b < w.heap.size) → E b → w.heap[b]? = some (.cells V0.cells ety (0, 0)) → (∀ F ∈ Φ0, Pers E w F) → TyAll E w As vs →
    Calls P f (.pointer (some ⟨b, 0, none⟩) :: vs).toArray w fun e w' => ∃ v, e = .returned v ∧ Keeps (fun q => q = b) w w' ∧ w'.heap[b]? = some (.cells V1.cells ety (0, 0)) ∧ R.p E v w'
section
variable {P : Program} {L : List Own} {Φ : List (World → Prop)} {H : Know} {dst : Option Nat} {ty : TypeId} {pos : String} {after : Array Edge} {g : Option (Nat × Bool)}
theorem run_callM {f : FuncId} {ety : TypeId} {V0 V1 : Value} {Φ0 : List (World → Prop)} {As : List Ty} {R : Ty} (hc : CallM P f ety V0 Φ0 As V1 R) {M M' : List Own} {b : Nat} (hu : Upd M ⟨b, ety, .is V0⟩ ⟨b, ety, .is V1⟩ M') (hΦ : ∀ F ∈ Φ0, F ∈ Φ)
    {E : Nat → Prop} {w : World} {vs : List Value} (hw : ∀ b, E b → b < w.heap.size) (hf : ∀ F ∈ Φ, Pers E w F) (ht : TyAll E w As vs) (hM : ∀ m ∈ M, m.at E w) (hnd : (M.map (·.b)).Nodup) :
    Runs P ((callFunc f (.pointer (some ⟨b, 0, none⟩) :: vs).toArray).run P w) fun v w' => Keeps (fun b => b ∈ M.map (·.b)) w w' ∧ R.p E v w' ∧ ∀ m ∈ M', m.at E w' := by
  rw [hc.enter]
  have hE := (hM _ hu.mem).1
  refine Calls.mono (hc.calls E w b vs hw hE (own_blk (hM _ hu.mem) rfl) (fun F hF => hf F (hΦ F hF)) ht) ?_
  rintro e w' ⟨v, rfl, hk, hb, hR⟩
  have hev : Ev E w E w' := Ev.of_keeps (hk.mono fun q _ e => by rw [e]; exact hE)
  exact ⟨hk.mono fun q _ e => by rw [e]; exact List.mem_map_of_mem hu.mem, hR, hu.all hnd (fun m hm hne => Own.keep (hM m hm) hev (hk.blk _ (lt_of_get (hM m hm).2.choose_spec.1) hne)) ⟨hE, V1, hb, rfl⟩⟩
theorem obm_call {f : FuncId} {p : Operand} {xs : List Operand} {ats : Array TypeId} {ety : TypeId} {V0 V1 : Value} {Φ0 : List (World → Prop)} {As : List Ty} {R : Ty} {M M' : List Own} {b : Nat} (hf : H (.func f) (.is (.func (.func f) #[] #[]))) (hp' : H p (.is (.pointer (some ⟨b, 0, none⟩)))) (hc : CallM P f ety V0 Φ0 As V1 R)
    (hu : Upd M ⟨b, ety, .is V0⟩ ⟨b, ety, .is V1⟩ M') (hΦ : ∀ F ∈ Φ0, F ∈ Φ) (ha : Args L Φ H xs As) :
    ObM P L Φ H M ⟨dst, .call { callee := .value (.func f), args := (p :: xs).toArray, argTypes := ats }, ty, pos, after, g⟩ R M' := fun E w ρ hp hM hnd => by
  have h1 : ρ (.func f) = .func (.func f) #[] #[] := hp.x _ _ (by simp [Op.operands, Call.operands]) hf
  have h2 : ρ p = .pointer (some ⟨b, 0, none⟩) := hp.x p _ (by simp [Op.operands, Call.operands]) hp'
  have hall := ha.all (ρ := ρ) (pre_facts hp) fun x T hx => hp.x x T (by simp [Op.operands, Call.operands, hx])
  have h3 := run_callM hc hu hΦ hp.wf hp.f hall hM hnd
  simp only [execOp, resolve, h1, Deferred.ofValue, invoke, Sem.run_bind, Sem.run_pure, Result.andThen_ok, List.map_toArray, List.map_cons, h2]
  simpa using h3
theorem obm_callv {f : FuncId} {cal : Operand} {xs : List Operand} {ats : Array TypeId} {ety : TypeId} {V0 V1 : Value} {Φ0 : List (World → Prop)} {As : List Ty} {R : Ty} {M M' : List Own} {b : Nat} (hf : H cal (.is (.func (.func f) #[.pointer (some ⟨b, 0, none⟩)] #[]))) (hc : CallM P f ety V0 Φ0 As V1 R)
    (hu : Upd M ⟨b, ety, .is V0⟩ ⟨b, ety, .is V1⟩ M') (hΦ : ∀ F ∈ Φ0, F ∈ Φ) (ha : Args L Φ H xs As) :
    ObM P L Φ H M ⟨dst, .call { callee := .value cal, args := xs.toArray, argTypes := ats }, ty, pos, after, g⟩ R M' := fun E w ρ hp hM hnd => by
  have h1 : ρ cal = .func (.func f) #[.pointer (some ⟨b, 0, none⟩)] #[] := hp.x _ _ (by simp [Op.operands, Call.operands]) hf
  have hall := ha.all (ρ := ρ) (pre_facts hp) fun x T hx => hp.x x T (by simp [Op.operands, Call.operands, hx])
  have h3 := run_callM hc hu hΦ hp.wf hp.f hall hM hnd
  simp only [execOp, resolve, h1, Deferred.ofValue, invoke, Sem.run_bind, Sem.run_pure, Result.andThen_ok, List.map_toArray]
  simpa using h3
def PostM (X : Nat → Prop) (W : World) (b : Nat) (ety : TypeId) (V1 : Value) (R : Ty) : Ending → World → Prop := fun e w' => ∃ v, e = .returned v ∧ Keeps (fun q => q = b) W w' ∧ w'.heap[b]? = some (.cells V1.cells ety (0, 0)) ∧ R.p X v w'
variable {K : List (Nat × Ty)} {fn : Func} {R : Ty} {n : Nat} {X : Nat → Prop} {W : World}
theorem JX.retMOf {b : Nat} {ety : TypeId} {V1 : Value} (ho : R.out = true) (hm : (⟨b, ety, .is V1⟩ : Own) ∈ L) (hr : ∀ a w E, SA ⟨n, X, fun q => q = b, W⟩ K L Φ E a w → ∃ v, (results fn a.tmps).run P w = .ok v w ∧ R.p E v w) : JX ⟨n, X, fun q => q = b, W⟩ K L Φ .ret (bodyPost P fn (PostM X W b ety V1 R)) := by
  refine ⟨?_⟩
  intro E a w hs
  obtain ⟨v, h1, h2⟩ := hr a w E hs
  exact ⟨hs.d, v, h1, v, rfl, hs.keeps, own_blk (hs.l _ hm) rfl, Ty.weak (fun b _ => hs.x b) ho h2⟩
theorem JX.retM1is {b : Nat} {ety : TypeId} {V1 : Value} {t : Nat} {V V' : Value} (hres : fn.results = #[.tmp t]) (hm : (⟨b, ety, .is V1⟩ : Own) ∈ L) (h : look K t = some (.is V')) (he : V' = V) : JX ⟨n, X, fun q => q = b, W⟩ K L Φ .ret (bodyPost P fn (PostM X W b ety V1 (.is V))) := by
  subst he
  exact JX.retMOf rfl hm fun a w E hs => ⟨_, results_tmp hres _ _ _, hs.k t _ h⟩
theorem JX.retM0 {b : Nat} {ety : TypeId} {V1 : Value} (hres : fn.results = #[]) (hm : (⟨b, ety, .is V1⟩ : Own) ∈ L) : JX ⟨n, X, fun q => q = b, W⟩ K L Φ .ret (bodyPost P fn (PostM X W b ety V1 (.is (.tuple #[])))) :=
  JX.retMOf rfl hm fun a w E hs => ⟨_, results_none hres _ _ _, rfl⟩
theorem JX.retMCis {b : Nat} {ety : TypeId} {V1 V1' : Value} {s b' m : Nat} {t ety' : TypeId} {cs : Array Value} {V : Value} (hres : fn.results = #[.cell s t]) (hm : (⟨b, ety, .is V1'⟩ : Own) ∈ L) (h : look K s = some (.is (.pointer (some ⟨b', 0, none⟩)))) (hs' : szOf P t = some (some m)) (hm' : ⟨b', ety', .is (.agg cs)⟩ ∈ L) (hn : cs.size = m) (he : .agg cs = V) (hV : V1' = V1) :
    JX ⟨n, X, fun q => q = b, W⟩ K L Φ .ret (bodyPost P fn (PostM X W b ety V1 (.is V))) := by
  subst he hV
  exact JX.retMOf rfl hm fun a w E hs => by
    obtain ⟨v, h1, h2⟩ := res_cell (P := P) hs' (hs.l _ hm') (agg_is hn)
    have e : a.tmps.getD s undef = .pointer (some ⟨b', 0, none⟩) := hs.k s _ h
    rw [Array.getD_eq_getD_getElem?] at e
    exact ⟨v, by simp [results, hres, Array.getD_eq_getD_getElem?, e, asAddr, h1], h2⟩
theorem CallM.of {f : FuncId} {x : Code} {ety : TypeId} {V0 V1 : Value} {Φ0 : List (World → Prop)} {As : List Ty} (hf : P.funcs[f]? = some fn) (hb : fn.body = some x) (hn : fn.ntmps = n) (hl : Nat.ble (As.length + 1) n = true) (he : ∀ args w, (callFunc f args).run P w = .ok (.enter f args) w)
    (h : ∀ (E : Nat → Prop) (W : World) (b : Nat), J P ⟨n, E, fun q => q = b, W⟩ ((0, .is (.pointer (some ⟨b, 0, none⟩))) :: params 1 As) [⟨b, ety, .is V0⟩] Φ0 x (bodyPost P fn (PostM E W b ety V1 R))) : CallM P f ety V0 Φ0 As V1 R :=
  ⟨he, fun E w b vs hw hE hb0 hΦ ht => by
    refine calls_of_wp hf hb ?_
    rw [hn]
    refine (h E w b).out E _ w ?_
    have h0 : TyAll E w (.is (.pointer (some ⟨b, 0, none⟩)) :: As) (.pointer (some ⟨b, 0, none⟩) :: vs) := ⟨rfl, ht⟩
    have hs := sa_start (n := n) hw h0 (Nat.le_of_ble_eq_true hl)
    refine ⟨hs.n, hs.d, hw, hs.k, ?_, by simp, hΦ, fun _ h => h, hw, .refl _ _, fun o ho => ?_⟩
    · intro o ho
      rcases List.mem_cons.1 ho with rfl | ho
      · exact ⟨hE, V0, hb0, rfl⟩
      · cases ho
    · rcases List.mem_cons.1 ho with rfl | ho
      · exact .inl rfl
      · cases ho⟩
end
section
variable {c : Ctx} {K : List (Nat × Ty)} {L L' : List Own} {Φ Φ' : List (World → Prop)} {Q : Exit → Act → World → Prop}
theorem JX.roundS {α : Type} {Kf : α → List (Nat × Ty)} {inv : α → Prop} {μ : α → Nat} {x : α} (x' : α) (hi : inv x') (hμ : μ x' < μ x) (ss : List Nat) (hK : Sel K ss (Kf x')) (hL : L'.Sublist L) (hΦ : Φ'.Sublist Φ) :
    JX c K L Φ .normal (Exit.then (fun a w => ∃ x', inv x' ∧ μ x' < μ x ∧ ∃ E, SA c (Kf x') L' Φ' E a w) Q) :=
  ⟨fun E a w h => (JX.roundF (L := L') (Φ := Φ') x' hi hμ ss hK).out E a w (h.sub (fun _ _ h => h) (fun _ ho => hL.subset ho) ((hL.map _).nodup h.ld) (fun _ h => hΦ.subset h))⟩
end
end Go.Vc
