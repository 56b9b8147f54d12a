/- A function's contract, from its body. No condition. -/
import Derived.Test.YtjlojkchgfeenaaXVc8
namespace Go.Vc
open Go
def Post (X : Nat → Prop) (W : World) (R : Ty) : Ending → World → Prop := fun e w' => ∃ v, e = .returned v ∧ Keeps noX W w' ∧ R.p X v w'
section
variable {P : Program} {K : List (Nat × Ty)} {L : List Own} {Φ : List (World → Prop)} {fn : Func} {R : Ty} {n : Nat} {X : Nat → Prop} {W : World}
theorem JX.retOf (ho : R.out = true) (hr : ∀ a w E, SA ⟨n, X, noX, W⟩ K L Φ E a w → ∃ v, (results fn a.tmps).run P w = .ok v w ∧ R.p E v w) : JX ⟨n, X, noX, W⟩ K L Φ .ret (bodyPost P fn (Post X W R)) := by
  refine ⟨?_⟩
  intro E a w hs
  obtain ⟨v, h1, h2⟩ := hr a w E hs
  exact ⟨hs.d, v, h1, v, rfl, hs.keeps, Ty.weak (fun b _ => hs.x b) ho h2⟩
theorem JX.ret1 {t : Nat} (hres : fn.results = #[.tmp t]) (ho : R.out = true) (h : look K t = some R) : JX ⟨n, X, noX, W⟩ K L Φ .ret (bodyPost P fn (Post X W R)) :=
  JX.retOf ho fun _ _ _ hs => ⟨_, results_tmp hres _ _ _, hs.k t _ h⟩
theorem JX.ret1is {t : Nat} {V V' : Value} (hres : fn.results = #[.tmp t]) (h : look K t = some (.is V')) (he : V' = V) : JX ⟨n, X, noX, W⟩ K L Φ .ret (bodyPost P fn (Post X W (.is V))) := by
  subst he
  exact JX.ret1 hres rfl h
theorem JX.ret2 {t u : Nat} {A B : Ty} (hres : fn.results = #[.tmp t, .tmp u]) (ho : (Ty.tup2 A B).out = true) (h : look K t = some A) (h' : look K u = some B) : JX ⟨n, X, noX, W⟩ K L Φ .ret (bodyPost P fn (Post X W (.tup2 A B))) :=
  JX.retOf ho fun _ _ _ hs => ⟨_, results_tmp2 hres _ _ _, _, _, rfl, hs.k t _ h, hs.k u _ h'⟩
theorem JX.ret2is {t u : Nat} {A B A' B' : Value} (hres : fn.results = #[.tmp t, .tmp u]) (h : look K t = some (.is A')) (h' : look K u = some (.is B')) (ha : A' = A) (hb : B' = B) : JX ⟨n, X, noX, W⟩ K L Φ .ret (bodyPost P fn (Post X W (.tup2 (.is A) (.is B)))) := by
  subst ha hb
  exact JX.ret2 hres rfl h h'
theorem res_cell {t : TypeId} {b m : Nat} {ety : TypeId} {T : Ty} {E : Nat → Prop} {w : World} (hs : szOf P t = some (some m)) (hm : (⟨b, ety, T⟩ : Own).at E w) (hT : ∀ E v w, T.p E v w → ∃ cs, v = .agg cs ∧ cs.size = m) :
    ∃ v, (loadVar t ⟨b, 0, none⟩).run P w = .ok v w ∧ T.p E v w := by
  obtain ⟨_, v, hb, hv⟩ := hm
  obtain ⟨cs, rfl, hn⟩ := hT E v w hv
  refine ⟨.agg cs, ?_, hv⟩
  have hl := run_loadN (P := P) (w := w) (t := t) (p := ⟨b, 0, none⟩) (cs := cs.toList) (by simpa [hn] using hs) fun j u hj => by
    rw [add_at, cell_of_blk hb]
    simpa [Value.cells] using hj
  simpa using hl
theorem agg_is {cs : Array Value} {m : Nat} (h : cs.size = m) : ∀ (E : Nat → Prop) v (w : World), (Ty.is (.agg cs)).p E v w → ∃ cs, v = .agg cs ∧ cs.size = m := fun _ _ _ e => ⟨cs, e, h⟩
theorem JX.retC {s b m : Nat} {t ety : TypeId} (hres : fn.results = #[.cell s t]) (ho : R.out = true) (h : look K s = some (.is (.pointer (some ⟨b, 0, none⟩)))) (hs' : szOf P t = some (some m)) (hm : ⟨b, ety, R⟩ ∈ L) (hT : ∀ E v w, R.p E v w → ∃ cs, v = .agg cs ∧ cs.size = m) :
    JX ⟨n, X, noX, W⟩ K L Φ .ret (bodyPost P fn (Post X W R)) :=
  JX.retOf ho fun a w E hs => by
    obtain ⟨v, h1, h2⟩ := res_cell (P := P) hs' (hs.l _ hm) hT
    have e : a.tmps.getD s undef = .pointer (some ⟨b, 0, none⟩) := hs.k s _ h
    rw [Array.getD_eq_getD_getElem?] at e
    exact ⟨v, by simp [results, hres, Array.getD_eq_getD_getElem?, e, asAddr, h1], h2⟩
theorem JX.retC1 {s u b m : Nat} {t ety : TypeId} {A B : Ty} (hres : fn.results = #[.cell s t, .tmp u]) (ho : (Ty.tup2 A B).out = true) (h : look K s = some (.is (.pointer (some ⟨b, 0, none⟩)))) (hs' : szOf P t = some (some m)) (hm : ⟨b, ety, A⟩ ∈ L) (hT : ∀ E v w, A.p E v w → ∃ cs, v = .agg cs ∧ cs.size = m) (h' : look K u = some B) :
    JX ⟨n, X, noX, W⟩ K L Φ .ret (bodyPost P fn (Post X W (.tup2 A B))) :=
  JX.retOf ho fun a w E hs => by
    obtain ⟨v, h1, h2⟩ := res_cell (P := P) hs' (hs.l _ hm) hT
    have e : a.tmps.getD s undef = .pointer (some ⟨b, 0, none⟩) := hs.k s _ h
    rw [Array.getD_eq_getD_getElem?] at e
    exact ⟨.tuple #[v, a.tmps.getD u undef], by simp [results, hres, Array.getD_eq_getD_getElem?, e, asAddr, h1], _, _, rfl, h2, hs.k u _ h'⟩
theorem JX.retC2 {s u u' b m : Nat} {t ety : TypeId} {A B C : Ty} (hres : fn.results = #[.cell s t, .tmp u, .tmp u']) (ho : (Ty.tup3 A B C).out = true) (h : look K s = some (.is (.pointer (some ⟨b, 0, none⟩)))) (hs' : szOf P t = some (some m)) (hm : ⟨b, ety, A⟩ ∈ L) (hT : ∀ E v w, A.p E v w → ∃ cs, v = .agg cs ∧ cs.size = m) (h' : look K u = some B) (h'' : look K u' = some C) :
    JX ⟨n, X, noX, W⟩ K L Φ .ret (bodyPost P fn (Post X W (.tup3 A B C))) :=
  JX.retOf ho fun a w E hs => by
    obtain ⟨v, h1, h2⟩ := res_cell (P := P) hs' (hs.l _ hm) hT
    have e : a.tmps.getD s undef = .pointer (some ⟨b, 0, none⟩) := hs.k s _ h
    rw [Array.getD_eq_getD_getElem?] at e
    exact ⟨.tuple #[v, a.tmps.getD u undef, a.tmps.getD u' undef], by simp [results, hres, Array.getD_eq_getD_getElem?, e, asAddr, h1], _, _, _, rfl, h2, hs.k u _ h', hs.k u' _ h''⟩
theorem JX.retCis {s b m : Nat} {t ety : TypeId} {cs : Array Value} {V : Value} (hres : fn.results = #[.cell s t]) (h : look K s = some (.is (.pointer (some ⟨b, 0, none⟩)))) (hs' : szOf P t = some (some m)) (hm : ⟨b, ety, .is (.agg cs)⟩ ∈ L) (hn : cs.size = m) (he : .agg cs = V) :
    JX ⟨n, X, noX, W⟩ K L Φ .ret (bodyPost P fn (Post X W (.is V))) := by
  subst he
  exact JX.retC hres rfl h hs' hm (agg_is hn)
theorem JX.retC1is {s u b m : Nat} {t ety : TypeId} {cs : Array Value} {V B B' : Value} (hres : fn.results = #[.cell s t, .tmp u]) (h : look K s = some (.is (.pointer (some ⟨b, 0, none⟩)))) (hs' : szOf P t = some (some m)) (hm : ⟨b, ety, .is (.agg cs)⟩ ∈ L) (hn : cs.size = m) (h' : look K u = some (.is B')) (he : .agg cs = V) (hb : B' = B) :
    JX ⟨n, X, noX, W⟩ K L Φ .ret (bodyPost P fn (Post X W (.tup2 (.is V) (.is B)))) := by
  subst he hb
  exact JX.retC1 hres rfl h hs' hm (agg_is hn) h'
theorem JX.retC2is {s u u' b m : Nat} {t ety : TypeId} {cs : Array Value} {V B B' C C' : Value} (hres : fn.results = #[.cell s t, .tmp u, .tmp u']) (h : look K s = some (.is (.pointer (some ⟨b, 0, none⟩)))) (hs' : szOf P t = some (some m)) (hm : ⟨b, ety, .is (.agg cs)⟩ ∈ L) (hn : cs.size = m) (h' : look K u = some (.is B')) (h'' : look K u' = some (.is C')) (he : .agg cs = V) (hb : B' = B) (hc : C' = C) :
    JX ⟨n, X, noX, W⟩ K L Φ .ret (bodyPost P fn (Post X W (.tup3 (.is V) (.is B) (.is C)))) := by
  subst he hb hc
  exact JX.retC2 hres rfl h hs' hm (agg_is hn) h' h''
def params : Nat → List Ty → List (Nat × Ty)
  | _, [] => []
  | i, A :: As => (i, A) :: params (i + 1) As
theorem params_look {E : Nat → Prop} {w : World} : ∀ (As : List Ty) (vs : List Value) (i : Nat) (s : Nat) (T : Ty), TyAll E w As vs → look (params i As) s = some T → i ≤ s ∧ s - i < vs.length ∧ T.p E (vs.getD (s - i) undef) w
  | [], [], _, _, _, _, h => by cases h
  | A :: As, v :: vs, i, s, T, ⟨h1, h2⟩, h => by
    simp only [params, look] at h
    cases hq : Nat.beq i s with
    | true =>
      rw [hq, cond_true] at h
      injection h with h
      subst h
      have := Nat.eq_of_beq_eq_true hq
      subst this
      exact ⟨Nat.le_refl _, by simp, by simpa using h1⟩
    | false =>
      rw [hq, cond_false] at h
      obtain ⟨a1, a2, a3⟩ := params_look As vs (i + 1) s T h2 h
      obtain ⟨k, rfl⟩ : ∃ k, s = i + 1 + k := ⟨s - (i + 1), by omega⟩
      rw [show i + 1 + k - (i + 1) = k by omega] at a2 a3
      exact ⟨by omega, by rw [show i + 1 + k - i = k + 1 by omega]; simpa using a2, by rw [show i + 1 + k - i = k + 1 by omega]; simpa using a3⟩
  | [], _ :: _, _, _, _, h, _ => h.elim
  | _ :: _, [], _, _, _, h, _ => h.elim
theorem TyAll.length {E : Nat → Prop} {w : World} : ∀ {As : List Ty} {vs : List Value}, TyAll E w As vs → As.length = vs.length
  | [], [], _ => rfl
  | _ :: _, _ :: _, ⟨_, h⟩ => by simp [TyAll.length h]
  | [], _ :: _, h => h.elim
  | _ :: _, [], h => h.elim
theorem sa_start {E : Nat → Prop} {w : World} {As : List Ty} {vs : List Value} (hw : ∀ b, E b → b < w.heap.size) (ht : TyAll E w As vs) (hn : As.length ≤ n) :
    SA ⟨n, E, noX, w⟩ (params 0 As) [] [] E { tmps := vs.toArray ++ Array.replicate (n - vs.toArray.size) undef, defers := [] } w := by
  have hl := ht.length
  refine ⟨by simp; omega, rfl, hw, fun s T h => ?_, fun _ h => (List.not_mem_nil h).elim, List.nodup_nil, fun _ h => (List.not_mem_nil h).elim, fun _ h => h, hw, .refl _ _, fun _ h => (List.not_mem_nil h).elim⟩
  obtain ⟨_, h2, h3⟩ := params_look As vs 0 s T ht h
  rw [Nat.sub_zero] at h2 h3
  have : (vs.toArray ++ Array.replicate (n - vs.toArray.size) undef).getD s undef = vs.getD s undef := by
    simp only [Array.getD_eq_getD_getElem?, List.getD_eq_getElem?_getD]
    rw [Array.getElem?_append_left (by simpa using h2)]
    simp
  rw [show ({ tmps := vs.toArray ++ Array.replicate (n - vs.toArray.size) undef, defers := [] } : Act).tmps.getD s undef = _ from this]
  exact h3
theorem CallTy.of {f : FuncId} {x : Code} {As : List Ty} (hf : P.funcs[f]? = some fn) (hb : fn.body = some x) (hn : fn.ntmps = n) (hl : Nat.ble As.length n = true) (he : ∀ args w, (callFunc f args).run P w = .ok (.enter f args) w)
    (h : ∀ (E : Nat → Prop) (W : World), J P ⟨n, E, noX, W⟩ (params 0 As) [] [] x (bodyPost P fn (Post E W R))) : CallTy P f As R :=
  ⟨he, fun E w vs hw ht => by
    refine calls_of_wp hf hb ?_
    rw [hn]
    exact (h E w).out E _ w (sa_start hw ht (Nat.le_of_ble_eq_true hl))⟩
end
end Go.Vc
