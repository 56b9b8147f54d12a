/- What a call made anew is one's own again: a world to which one looks back; slices of expressions written over. No condition. -/
import Derived.Test.YtjlojkchgfeenaaXVc30
namespace Go.Vc
open Go
theorem keeps_claim {E E0 : Nat → Prop} {w w0 : World} {b : Nat} (h : Pers E w (Keeps E0 w0)) (hb : w0.heap.size ≤ b) : Pers (fun q => E q ∨ q = b) w (Keeps E0 w0) := by
  intro w' hk
  have hn := h.now
  refine ⟨hk.os.trans hn.os, hk.tape.trans hn.tape, hk.output.trans hn.output, Nat.le_trans hn.size hk.size, fun q hq hx => ?_, fun q cs t fr hq => ?_⟩
  · have hqw : q < w.heap.size := Nat.lt_of_lt_of_le hq hn.size
    have hqw' : q < w'.heap.size := Nat.lt_of_lt_of_le hqw hk.size
    by_cases he : E q
    ·
      have h1 := h { w with heap := w.heap.set q w'.heap[q] hqw } ⟨rfl, rfl, rfl, by simp, fun r hr hne => by
        have : q ≠ r := fun e => hne (e ▸ he)
        simp [Array.getElem?_set, this], fun r cs t fr hr => by
        by_cases e : q = r
        · subst e
          obtain ⟨cs', h2, h3⟩ := hk.shp q cs t fr hr
          refine ⟨cs', ?_, h3⟩
          rw [Array.getElem?_eq_getElem hqw'] at h2
          simpa using h2
        · exact ⟨cs, by simp [Array.getElem?_set, e, hr], rfl⟩⟩
      have h2 := h1.blk q hq hx
      rw [← h2, Array.getElem?_eq_getElem hqw']
      simp
    · have hne : ¬ (E q ∨ q = b) := fun h => h.elim he (fun e => by omega)
      exact (hk.blk q hqw hne).trans (hn.blk q hq hx)
  · obtain ⟨cs1, h1, e1⟩ := hn.shp q cs t fr hq
    obtain ⟨cs2, h2, e2⟩ := hk.shp q cs1 t fr h1
    exact ⟨cs2, h2, e2.trans e1⟩
def Ty.isIs : Ty → Bool
  | .is _ => true
  | _ => false
def Fresh (N : Nat) (e : TypeId) (a : Option Addr) (n sz : Nat) (w : World) : Prop := n ≠ 0 → ∃ b cs, a = some ⟨b, 0, none⟩ ∧ N ≤ b ∧ w.heap[b]? = some (.cells cs e (0, 0)) ∧ n * sz ≤ cs.size
theorem look_is : ∀ {K : List (Nat × Ty)}, K.all (fun p => p.2.isIs) = true → ∀ s T, look K s = some T → ∃ v, T = .is v
  | [], _, s, T, h => by cases h
  | (t, U) :: K, ha, s, T, h => by
    simp only [List.all_cons, Bool.and_eq_true] at ha
    unfold look at h
    cases hb : Nat.beq t s
    · rw [hb] at h
      exact look_is ha.2 s T h
    · rw [hb] at h
      injection h with h
      subst h
      cases U with
      | is v => exact ⟨v, rfl⟩
      | _ => simp [Ty.isIs] at ha
section
variable {P : Program} {c : Ctx} {K K' : List (Nat × Ty)} {L L' : List Own} {Φ Φ0 : List (World → Prop)} {Q : Exit → Act → World → Prop}
theorem J.mark {x : Code} (h : ∀ (E0 : Nat → Prop) (w0 : World), c.W0.heap.size ≤ w0.heap.size → (∀ F ∈ Φ, Pers E0 w0 F) → J P c K L ((fun w => w0.heap.size ≤ w.heap.size) :: Keeps E0 w0 :: Φ) x Q) : J P c K L Φ x Q :=
  ⟨fun E a w hs => (h E w hs.keeps.size hs.f).out E a w ⟨hs.n, hs.d, hs.wf, hs.k, hs.l, hs.ld, fun F hF => by
    rcases List.mem_cons.1 hF with rfl | hF
    · exact fun w' hk => hk.size
    · rcases List.mem_cons.1 hF with rfl | hF
      · exact fun w' hk => hk
      · exact hs.f F hF, hs.x, hs.xs, hs.keeps, hs.may⟩⟩
theorem J.claimO {x : Code} {E0 : Nat → Prop} {w0 : World} {e : TypeId} {a : Option Addr} {kids : List Ex} {n : Nat} (hW : c.W0.heap.size ≤ w0.heap.size) (h0 : ∀ F ∈ Φ0, Pers E0 w0 F) (hK : ∀ s T, look K' s = some T → look K s = some T) (hKi : K'.all (fun p => p.2.isIs) = true)
    (hL : Has L L') (hLi : L'.all (fun o => o.T.isIs) = true) (hF : Fresh w0.heap.size e a n 8 ∈ Φ) (hR : KidsR kids a n ∈ Φ) (hM : Keeps E0 w0 ∈ Φ)
    (h : ∀ st, (n ≠ 0 → ∃ b cs, st = some (b, cs) ∧ a = some ⟨b, 0, none⟩ ∧ n * 8 ≤ cs.length) → J P c K' (ownO st e L') (Keeps E0 w0 :: Φ0) x Q) : J P c K L Φ x Q := by
  refine ⟨fun E a' w hs => ?_⟩
  have hsub : SA c K' L' Φ E a' w := hs.sub hK hL.mem (hL.nodup hs.ld) (fun _ h => h)
  have hkp := hs.f _ hM
  by_cases hn : n = 0
  · refine (h none (fun h => absurd hn h)).out E a' w ⟨hsub.n, hsub.d, hsub.wf, hsub.k, hsub.l, hsub.ld, fun F hF => ?_, hsub.x, hsub.xs, hsub.keeps, hsub.may⟩
    rcases List.mem_cons.1 hF with rfl | hF
    · exact hkp
    · exact fun w' hk => h0 F hF w' (hkp w' hk)
  · obtain ⟨b, cs, rfl, hN, hb, hc⟩ := (hs.f _ hF).now hn
    have hE : ¬ E b := not_excl (o := 0) (fun w' hk => by
      obtain ⟨hl, hk'⟩ := hs.f _ hR w' hk
      obtain ⟨b', o', e', hK⟩ := hk' hn
      injection e' with e'
      injection e' with e1 e2
      subst e1 e2
      match kids, hl, hK with
      | y :: ys, _, hK =>
        obtain ⟨cs', h8, h2, h3⟩ := kidsAt_get (y :: ys) b 0 w' 0 y hK rfl
        obtain ⟨k, m, h0⟩ := exR_first h2
        exact ⟨k, m, by simpa using h3 0 _ h0⟩
      | [], hl, _ => exact absurd hl.symm hn)
    refine (h (some (b, cs.toList)) (fun _ => ⟨b, cs.toList, rfl, rfl, by simpa using hc⟩)).out (fun q => E q ∨ q = b) a' w ⟨hsub.n, hsub.d, ?_, ?_, ?_, ?_, ?_, fun q hq => .inl (hsub.x q hq), hsub.xs, hsub.keeps, ?_⟩
    · rintro q (hq | rfl)
      · exact hsub.wf q hq
      · exact lt_of_get hb
    · intro s T hl
      obtain ⟨v, rfl⟩ := look_is hKi s T hl
      exact hsub.k s _ hl
    · intro o ho
      rcases List.mem_cons.1 ho with rfl | ho
      · exact ⟨.inr rfl, .agg cs, by simpa [Value.cells] using hb, rfl⟩
      · obtain ⟨h1, v, h2, h3⟩ := hsub.l o ho
        have := List.all_eq_true.1 hLi o ho
        cases hT : o.T with
        | is u => rw [hT] at h3; exact ⟨.inl h1, v, h2, by rw [hT]; exact h3⟩
        | _ => rw [hT] at this; simp [Ty.isIs] at this
    · show ((⟨b, e, .is (.agg cs.toList.toArray)⟩ : Own) :: L' |>.map (·.b)).Nodup
      rw [List.map_cons, List.nodup_cons]
      refine ⟨fun hm => ?_, hsub.ld⟩
      obtain ⟨m, hm, e'⟩ := List.mem_map.1 hm
      have e'' : m.b = b := e'
      exact hE (e'' ▸ (hsub.l m hm).1)
    · intro F hF
      have hkp' := keeps_claim hkp hN
      rcases List.mem_cons.1 hF with rfl | hF
      · exact hkp'
      · exact fun w' hk => h0 F hF w' (hkp' w' hk)
    · intro o ho
      rcases List.mem_cons.1 ho with rfl | ho
      · exact .inr (Nat.le_trans hW hN)
      · exact hsub.may o ho
theorem J.coer {x : Code} {s : Nat} {T T' : Ty} (h : look K s = some T) (hS : Sub L Φ T T') (hj : J P c ((s, T') :: K) L Φ x Q) : J P c K L Φ x Q :=
  ⟨fun E a w hs => hj.out E a w ⟨hs.n, hs.d, hs.wf, fun s' U hl => by
    simp only [look] at hl
    cases hq : Nat.beq s s' with
    | true =>
      rw [hq, cond_true] at hl
      injection hl with hl
      subst hl
      rw [← Nat.eq_of_beq_eq_true hq]
      exact hS E _ w ⟨hs.l, hs.f⟩ (hs.k s T h)
    | false => rw [hq, cond_false] at hl; exact hs.k s' U hl, hs.l, hs.ld, hs.f, hs.x, hs.xs, hs.keeps, hs.may⟩⟩
theorem J.openOwn {x : Code} {b : Nat} {e : TypeId} {R : Value → World → Prop} (hj : ∀ v, (∃ w, R v w) → J P c K (⟨b, e, .is v⟩ :: L) (R v :: Φ) x Q) : J P c K (⟨b, e, .rep R⟩ :: L) Φ x Q := by
  refine ⟨fun E a w hs => ?_⟩
  obtain ⟨h1, v, h2, h3⟩ := hs.l _ List.mem_cons_self
  have h3' : Pers E w (R v) := h3
  refine (hj v ⟨w, h3'.now⟩).out E a w ⟨hs.n, hs.d, hs.wf, hs.k, fun o ho => ?_, hs.ld, fun F hF => ?_, hs.x, hs.xs, hs.keeps, fun o ho => ?_⟩
  · rcases List.mem_cons.1 ho with rfl | ho
    · exact ⟨h1, v, h2, rfl⟩
    · exact hs.l o (List.mem_cons_of_mem _ ho)
  · rcases List.mem_cons.1 hF with rfl | hF
    · exact h3'
    · exact hs.f F hF
  · rcases List.mem_cons.1 ho with rfl | ho
    · exact hs.may ⟨b, e, .rep R⟩ List.mem_cons_self
    · exact hs.may o (List.mem_cons_of_mem _ ho)
theorem J.freezeOF {α : Type} {en : α → List Value} {sz : Nat} {xs : List α} {cap N : Nat} {x : Code} {st : Option (Nat × List Value)} {e : TypeId} (hN : N ≤ c.W0.heap.size) (hen : ∀ x, (en x).length = sz) (hG : Grows en sz xs st cap) (hTl : Tl e L st L') (h0 : ∀ q, ¬ c.X0 q) (hK : K.all (fun p => p.2.out) = true) (hL : L'.all (fun o => o.T.out) = true)
    (h : J P c K L' (Fresh N e (adO st) xs.length sz :: RowG en sz xs (adO st) xs.length :: Φ) x Q) : J P c K L Φ x Q := by
  refine J.subL (L' := ownO st e L') (fun o ho => (hTl.perm.mem_iff).1 ho) (fun hn => ((hTl.perm.map _).nodup_iff).2 hn) ?_
  cases st with
  | none =>
    have hG : xs = [] := hG
    subst hG
    exact J.fact (RowG en sz [] (adO none) ([] : List α).length) (fun E w _ _ => fun w' _ => ⟨rfl, fun h => absurd rfl h⟩) (J.fact (Fresh N e (adO none) ([] : List α).length sz) (fun E w _ _ => fun w' _ h => absurd rfl h) h)
  | some p =>
    obtain ⟨b, cs⟩ := p
    obtain ⟨h1, h2, h3⟩ := hG
    refine ⟨fun E a w hs => ?_⟩
    have hbW : c.W0.heap.size ≤ b := (hs.may _ List.mem_cons_self).resolve_left (h0 b)
    refine (J.freeze (P := P) (Q := Q) (x := x) (b := b) (e := e) (cs := cs) h0 hK hL ?_).out E a w hs
    refine J.fact (RowG en sz xs (adO (some (b, cs))) xs.length) (fun E w hF _ => fun w' hk => ?_) (J.fact (Fresh N e (adO (some (b, cs))) xs.length sz) (fun E w hF _ => fun w' hk _ => ?_) (J.subΦ (fun F hF => ?_) h))
    · have hh := hF _ List.mem_cons_self w' hk
      obtain ⟨a, len, cap', e1, hr⟩ := sl_of_heap hen rfl h3 hh cap
      injection e1 with e1 e2 e3
      subst e1 e2
      exact hr
    · have hh : w'.heap[b]? = some (.cells cs.toArray e (0, 0)) := hF _ (List.mem_cons_of_mem _ List.mem_cons_self) w' hk
      exact ⟨b, cs.toArray, rfl, Nat.le_trans hN hbW, hh, by simp only [List.size_toArray]; rw [h1]; exact Nat.mul_le_mul_right _ h2⟩
    · rcases List.mem_cons.1 hF with rfl | hF
      · exact List.mem_cons_self
      · rcases List.mem_cons.1 hF with rfl | hF
        · exact List.mem_cons_of_mem _ List.mem_cons_self
        · exact List.mem_cons_of_mem _ (List.mem_cons_of_mem _ (List.mem_cons_of_mem _ hF))
end
section
variable {P : Program} {fn : Func} {R : Ty} {n : Nat}
theorem CallTy.ofN {f : FuncId} {x : Code} {As : List Ty} {N : Nat} (hA : ∀ E w vs, TyAll E w As vs → N ≤ w.heap.size) (hf : P.funcs[f]? = some fn) (hb : fn.body = some x) (hn : fn.ntmps = n) (hl : Nat.ble As.length n = true) (he : ∀ args w, (callFunc f args).run P w = .ok (.enter f args) w)
    (h : ∀ (E : Nat → Prop) (W : World), N ≤ W.heap.size → J P ⟨n, E, noX, W⟩ (params 0 As) [] [] x (bodyPost P fn (Post E W R))) : CallTy P f As R :=
  ⟨he, fun E w vs hw ht => by
    refine calls_of_wp hf hb ?_
    rw [hn]
    exact (h E w (hA E w vs ht)).out E _ w (sa_start hw ht (Nat.le_of_ble_eq_true hl))⟩
end
def FExR (N : Nat) (tE : TypeId) (x : Ex) (v : Value) (w : World) : Prop := ExR x v w ∧ ∃ a len cap, v = .agg (exCells x.K x.VK x.VN x.VS x.TB x.NM x.SL a len cap).toArray ∧ Fresh N tE a len 8 w
def NExR (N : Nat) (x : Ex) (v : Value) (w : World) : Prop := N ≤ w.heap.size ∧ ExR x v w
section
variable {L : List Own} {Φ : List (World → Prop)}
theorem Sub.nex {N : Nat} {x : Ex} {T : Ty} (h : Sub L Φ T (.rep (ExR x))) (hN : (fun w : World => N ≤ w.heap.size) ∈ Φ) : Sub L Φ T (.rep (NExR N x)) := fun E v w hf ht => fun w' hk => ⟨hf.2 _ hN w' hk, h E v w hf ht w' hk⟩
theorem Sub.ofNex {N : Nat} {x : Ex} : Sub L Φ (.rep (NExR N x)) (.rep (ExR x)) := fun E v w hf ht => fun w' hk => (ht w' hk).2
theorem Sub.fexNil {N : Nat} {tE : TypeId} {k vk vn : Int} {vs tb nm : ByteArray} {sl : Int} {cap : Nat} {a : Option Addr} : Sub L Φ (.is (.agg (exCells k vk vn vs tb nm sl a 0 cap).toArray)) (.rep (FExR N tE (.mk k vk vn vs tb nm sl []))) := fun E v w hf e => fun w' hk =>
  ⟨Sub.exNil E v w hf e w' hk, a, 0, cap, e, fun h => absurd rfl h⟩
theorem Sub.fexMkO {N : Nat} {tE : TypeId} {k vk vn : Int} {vs tb nm : ByteArray} {sl : Int} {kids : List Ex} {zs : List XC} {st : Option (Nat × List Value)} {cap : Nat} (hG : Grows XC.cs 8 zs st cap) (h : KidsR kids (adO st) zs.length ∈ Φ) (hF : Fresh N tE (adO st) zs.length 8 ∈ Φ) :
    Sub L Φ (.is (.agg [.int .i64 k, .int .i64 vk, .int .i64 vn, .string vs, .string tb, .string nm, .int .i64 sl, sliceO st zs.length cap].toArray)) (.rep (FExR N tE (.mk k vk vn vs tb nm sl kids))) := by
  obtain ⟨cap', e⟩ := sliceO_ad hG
  rw [e]
  exact fun E v w hf e' => fun w' hk => ⟨Sub.exMk h E v w hf e' w' hk, adO st, zs.length, cap', e', hf.2 _ hF w' hk⟩
theorem Sub.fex_eq {N : Nat} {tE : TypeId} {T : Ty} {x y : Ex} (h : Sub L Φ T (.rep (FExR N tE x))) (e : x = y) : Sub L Φ T (.rep (FExR N tE y)) := e ▸ h
theorem cnt_fex {N : Nat} {tE : TypeId} {x : Ex} : Cnt (.rep (FExR N tE x)) 8 := fun E v w h => cnt_ex (x := x) E v w fun w' hk => (h w' hk).1
end
section
variable {P : Program} {c : Ctx} {K : List (Nat × Ty)} {L : List Own} {Φ : List (World → Prop)} {Q : Exit → Act → World → Prop}
theorem J.openOwnF {x' : Code} {b : Nat} {e : TypeId} {N : Nat} {tE : TypeId} {x : Ex} (hj : ∀ a len cap, x.KS.length = len → J P c K (⟨b, e, .is (.agg (exCells x.K x.VK x.VN x.VS x.TB x.NM x.SL a len cap).toArray)⟩ :: L) (Fresh N tE a len 8 :: KidsR x.KS a len :: ExR x (.agg (exCells x.K x.VK x.VN x.VS x.TB x.NM x.SL a len cap).toArray) :: Φ) x' Q) :
    J P c K (⟨b, e, .rep (FExR N tE x)⟩ :: L) Φ x' Q := by
  refine J.openOwn ?_
  rintro v ⟨w, hx, a, len, cap, rfl, hF⟩
  have key : ∀ w', FExR N tE x (.agg (exCells x.K x.VK x.VN x.VS x.TB x.NM x.SL a len cap).toArray) w' → KidsR x.KS a len w' ∧ Fresh N tE a len 8 w' := by
    rintro w' ⟨h1, a', len', cap', e2, h2⟩
    have e3 := agg_inj e2
    simp only [exCells, List.cons.injEq, Value.slice.injEq, and_true, true_and] at e3
    obtain ⟨rfl, rfl, rfl⟩ := e3
    refine ⟨?_, h2⟩
    rw [Ex.eta x] at h1
    obtain ⟨a', len', cap', e2, h3⟩ := exR_mk.1 h1
    have e3 := agg_inj e2
    simp only [exCells, List.cons.injEq, Value.slice.injEq, and_true, true_and] at e3
    obtain ⟨_, _, _, _, _, _, _, rfl, rfl, rfl⟩ := e3
    exact h3
  have hlen : x.KS.length = len := (key w ⟨hx, a, len, cap, rfl, hF⟩).1.1
  refine J.fact (ExR x (.agg (exCells x.K x.VK x.VN x.VS x.TB x.NM x.SL a len cap).toArray)) (fun E w hG _ => fun w' hk => (hG _ List.mem_cons_self w' hk).1) ?_
  refine J.fact (KidsR x.KS a len) (fun E w hG _ => fun w' hk => (key w' (hG _ (List.mem_cons_of_mem _ List.mem_cons_self) w' hk)).1) ?_
  refine J.fact (Fresh N tE a len 8) (fun E w hG _ => fun w' hk => (key w' (hG _ (List.mem_cons_of_mem _ (List.mem_cons_of_mem _ List.mem_cons_self)) w' hk)).2) ?_
  refine J.subΦ (fun F hF => ?_) (hj a len cap hlen)
  rcases List.mem_cons.1 hF with rfl | hF
  · exact List.mem_cons_self
  · rcases List.mem_cons.1 hF with rfl | hF
    · exact List.mem_cons_of_mem _ List.mem_cons_self
    · rcases List.mem_cons.1 hF with rfl | hF
      · exact List.mem_cons_of_mem _ (List.mem_cons_of_mem _ List.mem_cons_self)
      · exact List.mem_cons_of_mem _ (List.mem_cons_of_mem _ (List.mem_cons_of_mem _ (List.mem_cons_of_mem _ hF)))
theorem splice_len {cs ys : List Value} {off : Nat} (h : off + ys.length ≤ cs.length) : (splice cs off ys).length = cs.length := by
  unfold splice
  simp
  omega
end
end Go.Vc
namespace Go.Vc
open Go
section
variable {P : Program} {c : Ctx} {K : List (Nat × Ty)} {L : List Own} {Φ : List (World → Prop)} {Q : Exit → Act → World → Prop}
theorem J.openOwnE {x' : Code} {b : Nat} {e : TypeId} {x : Ex} (hj : ∀ a len cap, x.KS.length = len → J P c K (⟨b, e, .is (.agg (exCells x.K x.VK x.VN x.VS x.TB x.NM x.SL a len cap).toArray)⟩ :: L) (ExR x (.agg (exCells x.K x.VK x.VN x.VS x.TB x.NM x.SL a len cap).toArray) :: Φ) x' Q) :
    J P c K (⟨b, e, .rep (ExR x)⟩ :: L) Φ x' Q := by
  refine J.openOwn ?_
  rintro v ⟨w, hx⟩
  rw [Ex.eta x] at hx
  obtain ⟨a, len, cap, rfl, h3⟩ := exR_mk.1 hx
  exact hj a len cap h3.1
end
end Go.Vc
