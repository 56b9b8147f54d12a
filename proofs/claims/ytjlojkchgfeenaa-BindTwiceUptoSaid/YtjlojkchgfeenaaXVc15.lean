/- Expressions that are built. No condition. -/
import Derived.Test.YtjlojkchgfeenaaXVc14
namespace Go.Vc
open Go
theorem Pers.keepE {E : Nat → Prop} {w w' : World} {F : World → Prop} (h : Pers E w F) (k : Keeps noX w w') : Pers E w' F :=
  fun _ k' => h _ ((k.mono fun _ _ h => h.elim).trans k')
section
variable {P : Program} {L : List Own} {Φ : List (World → Prop)} {H : Know} {dst : Option Nat} {ty : TypeId} {pos : String} {after : Array Edge} {g : Option (Nat × Bool)}
theorem Sub.rowNil : Sub L Φ (.is (.slice none 0 0)) (.rep (RowS [])) := fun E v w hf e => by
  rw [show v = _ from e]
  exact fun w' _ => ⟨none, 0, 0, rfl, rfl, fun h => absurd rfl h⟩
theorem Sub.exMk {k vk vn : Int} {vs tb nm : ByteArray} {sl : Int} {kids : List Ex} {a : Option Addr} {len cap : Nat} (h : KidsR kids a len ∈ Φ) :
    Sub L Φ (.is (.agg (exCells k vk vn vs tb nm sl a len cap).toArray)) (.rep (ExR (.mk k vk vn vs tb nm sl kids))) := fun E v w hf e => by
  rw [show v = _ from e]
  exact fun w' hk => exR_mk.2 ⟨a, len, cap, rfl, hf.2 _ h w' hk⟩
theorem Sub.exNil {k vk vn : Int} {vs tb nm : ByteArray} {sl : Int} {cap : Nat} {a : Option Addr} :
    Sub L Φ (.is (.agg (exCells k vk vn vs tb nm sl a 0 cap).toArray)) (.rep (ExR (.mk k vk vn vs tb nm sl []))) := fun E v w hf e => by
  rw [show v = _ from e]
  exact fun w' hk => exR_mk.2 ⟨a, 0, cap, rfl, rfl, fun h => absurd rfl h⟩
theorem exR_agg {x : Ex} {v : Value} {w : World} (h : ExR x v w) : ∃ k vk vn vs tb nm sl a len cap, v = .agg (exCells k vk vn vs tb nm sl a len cap).toArray := by
  cases x with
  | mk k vk vn vs tb nm sl kids =>
    obtain ⟨a, len, cap, e, _⟩ := exR_mk.1 h
    exact ⟨_, _, _, _, _, _, _, _, _, _, e⟩
theorem exs_new {E : Nat → Prop} {w : World} {es : List Ex} {css : List (List Value)} {e : TypeId} {n : Nat} (hl : es.length = css.length) (hn : es.length = n)
    (h : ∀ (i : Nat) (x : Ex) (cs : List Value), es[i]? = some x → css[i]? = some cs → cs.length = 8 ∧ Pers E w (ExR x (.agg cs.toArray))) (hE : ¬ E w.heap.size) :
    Pers E (w.alloc (.cells css.flatten.toArray e (0, 0))) (ExsR es (.slice (some ⟨w.heap.size, 0, none⟩) n n)) := fun w' hk => by
  refine ⟨_, _, _, rfl, hn, fun _ => ⟨_, _, rfl, kidsAt_mk es css _ _ w' hl (fun i x cs hx hc => ?_) ?_⟩⟩
  · obtain ⟨h1, h2⟩ := h i x cs hx hc
    exact ⟨h1, h2 w' (((Keeps.alloc w _).mono fun _ _ h => h.elim).trans hk)⟩
  · intro j v hj
    rw [cell_of_blk (hk.get (heap_alloc_at w _) hE), Nat.zero_add]
    simpa using hj
abbrev exZ : List Value := [.int .i64 0, .int .i64 0, .int .i64 0, .string ⟨#[]⟩, .string ⟨#[]⟩, .string ⟨#[]⟩, .int .i64 0, .slice none 0 0]
theorem ob_buildEx1 {t e : TypeId} {x : Operand} {ex : Ex} (hsh : SlShape P t e 8 exZ) (hx : H x (.rep (ExR ex))) :
    Ob P L Φ H ⟨dst, .buildSlice t 1 #[(0, x)], ty, pos, after, g⟩ (.rep (ExsR [ex])) := fun E w ρ hp => by
  have h1 : Pers E w (ExR ex (ρ x)) := hp.x x _ (by simp [Op.operands]) hx
  obtain ⟨k, vk, vn, vs, tb, nm, sl, a, len, cap, hv⟩ := exR_agg h1.now
  rw [hv] at h1
  have hb := run_buildSlice' (P := P) 1 (vs := [(0, .agg (exCells k vk vn vs tb nm sl a len cap).toArray)]) (cs := exCells k vk vn vs tb nm sl a len cap) w hsh (by omega) (by omega) rfl rfl rfl
  have hr : (execOp ρ ⟨dst, .buildSlice t 1 #[(0, x)], ty, pos, after, g⟩).run P w = .ok (.value (.slice (some ⟨w.heap.size, 0, none⟩) 1 1)) (w.alloc (.cells (exCells k vk vn vs tb nm sl a len cap).toArray e)) := by
    simp only [execOp]
    have hb' : (Instr.buildSlice t 1 #[(0, Value.agg (exCells k vk vn vs tb nm sl a len cap).toArray)]).run P w = _ := hb
    simp [hv, hb']
  rw [hr]
  refine ⟨Keeps.alloc w _, ?_⟩
  have := exs_new (E := E) (w := w) (es := [ex]) (css := [exCells k vk vn vs tb nm sl a len cap]) (e := e) (n := 1) rfl rfl (fun i y cs hy hc => ?_) (fun he => absurd (hp.wf _ he) (by omega))
  · simpa [Ty.p] using this
  · match i with
    | 0 => simp at hy hc; subst hy hc; exact ⟨rfl, h1⟩
    | i + 1 => simp at hy
theorem ob_buildEx2 {t e : TypeId} {x y : Operand} {ex ey : Ex} (hsh : SlShape P t e 8 exZ) (hx : H x (.rep (ExR ex))) (hy : H y (.rep (ExR ey))) :
    Ob P L Φ H ⟨dst, .buildSlice t 2 #[(0, x), (1, y)], ty, pos, after, g⟩ (.rep (ExsR [ex, ey])) := fun E w ρ hp => by
  have h1 : Pers E w (ExR ex (ρ x)) := hp.x x _ (by simp [Op.operands]) hx
  have h2 : Pers E w (ExR ey (ρ y)) := hp.x y _ (by simp [Op.operands]) hy
  obtain ⟨k, vk, vn, vs, tb, nm, sl, a, len, cap, hv⟩ := exR_agg h1.now
  obtain ⟨k', vk', vn', vs', tb', nm', sl', a', len', cap', hv'⟩ := exR_agg h2.now
  rw [hv] at h1
  rw [hv'] at h2
  have hb := run_buildSlice' (P := P) 2 (vs := [(0, .agg (exCells k vk vn vs tb nm sl a len cap).toArray), (1, .agg (exCells k' vk' vn' vs' tb' nm' sl' a' len' cap').toArray)]) (cs := exCells k vk vn vs tb nm sl a len cap ++ exCells k' vk' vn' vs' tb' nm' sl' a' len' cap') w hsh (by omega) (by omega) rfl rfl rfl
  have hr : (execOp ρ ⟨dst, .buildSlice t 2 #[(0, x), (1, y)], ty, pos, after, g⟩).run P w = .ok (.value (.slice (some ⟨w.heap.size, 0, none⟩) 2 2)) (w.alloc (.cells (exCells k vk vn vs tb nm sl a len cap ++ exCells k' vk' vn' vs' tb' nm' sl' a' len' cap').toArray e)) := by
    simp only [execOp]
    have hb' : (Instr.buildSlice t 2 #[(0, Value.agg (exCells k vk vn vs tb nm sl a len cap).toArray), (1, Value.agg (exCells k' vk' vn' vs' tb' nm' sl' a' len' cap').toArray)]).run P w = _ := hb
    simp [hv, hv', hb']
  rw [hr]
  refine ⟨Keeps.alloc w _, ?_⟩
  have := exs_new (E := E) (w := w) (es := [ex, ey]) (css := [exCells k vk vn vs tb nm sl a len cap, exCells k' vk' vn' vs' tb' nm' sl' a' len' cap']) (e := e) (n := 2) rfl rfl (fun i z cs hz hc => ?_) (fun he => absurd (hp.wf _ he) (by omega))
  · simpa [Ty.p] using this
  · match i with
    | 0 => simp at hz hc; subst hz hc; exact ⟨rfl, h1⟩
    | 1 => simp at hz hc; subst hz hc; exact ⟨rfl, h2⟩
    | i + 2 => simp at hz
end
section
variable {P : Program} {K : List (Nat × Ty)} {L : List Own} {Φ : List (World → Prop)} {fn : Func} {R : Ty} {n : Nat} {X : Nat → Prop} {W : World}
theorem JX.retCsub {s b m : Nat} {t ety : TypeId} {cs : Array Value} (hres : fn.results = #[.cell s t]) (h : look K s = some (.is (.pointer (some ⟨b, 0, none⟩)))) (hs' : szOf P t = some (some m)) (hm : ⟨b, ety, .is (.agg cs)⟩ ∈ L) (hn : cs.size = m) (ho : R.out = true) (hS : Sub L Φ (.is (.agg cs)) R) :
    JX ⟨n, X, noX, W⟩ K L Φ .ret (bodyPost P fn (Post X W R)) :=
  JX.retOf ho fun a w E hs => by
    obtain ⟨v, h1, h2⟩ := res_cell (P := P) hs' (hs.l _ hm) (agg_is hn)
    have e : a.tmps.getD s undef = .pointer (some ⟨b, 0, none⟩) := hs.k s _ h
    rw [Array.getD_eq_getD_getElem?] at e
    exact ⟨v, by simp [results, hres, Array.getD_eq_getD_getElem?, e, asAddr, h1], hS E v w ⟨hs.l, hs.f⟩ h2⟩
theorem JX.ret1sub {t : Nat} {T : Ty} (hres : fn.results = #[.tmp t]) (ho : R.out = true) (h : look K t = some T) (hS : Sub L Φ T R) : JX ⟨n, X, noX, W⟩ K L Φ .ret (bodyPost P fn (Post X W R)) :=
  JX.retOf ho fun _ _ _ hs => ⟨_, results_tmp hres _ _ _, hS _ _ _ ⟨hs.l, hs.f⟩ (hs.k t _ h)⟩
end
end Go.Vc
