/- The program logic, part 4. No condition. -/
import Derived.Test.YtgpikmonklainaaXG2
import Derived.MapKept
import Derived.Below
import Derived.Laws.IdiomStrings
import Derived.Laws.Strings3
namespace Go.Vc
open Go
theorem keeps_claim {E E0 : Nat → Prop} {w w0 : World} {b : Nat} (h : Pers E w (Keeps E0 w0)) (hb : w0.heap.size ≤ b) : Pers (fun q => E q ∨ q = b) w (Keeps E0 w0) := by
  intro w' hk
  have hn := h.now
  refine ⟨hk.os.trans hn.os, hk.tape.trans hn.tape, hk.output.trans hn.output, Nat.le_trans hn.size hk.size, fun q hq hx => ?_, fun q cs t fr hq => ?_⟩
  · have hqw : q < w.heap.size := Nat.lt_of_lt_of_le hq hn.size
    have hqw' : q < w'.heap.size := Nat.lt_of_lt_of_le hqw hk.size
    by_cases he : E q
    ·
      have h1 := h { w with heap := w.heap.set q w'.heap[q] hqw } ⟨rfl, rfl, rfl, by simp, fun r hr hne => by
        have : q ≠ r := fun e => hne (e ▸ he)
        simp [Array.getElem?_set, this], fun r cs t fr hr => by
        by_cases e : q = r
        · subst e
          obtain ⟨cs', h2, h3⟩ := hk.shp q cs t fr hr
          refine ⟨cs', ?_, h3⟩
          rw [Array.getElem?_eq_getElem hqw'] at h2
          simpa using h2
        · exact ⟨cs, by simp [Array.getElem?_set, e, hr], rfl⟩⟩
      have h2 := h1.blk q hq hx
      rw [← h2, Array.getElem?_eq_getElem hqw']
      simp
    · have hne : ¬ (E q ∨ q = b) := fun h => h.elim he (fun e => by omega)
      exact (hk.blk q hqw hne).trans (hn.blk q hq hx)
  · obtain ⟨cs1, h1, e1⟩ := hn.shp q cs t fr hq
    obtain ⟨cs2, h2, e2⟩ := hk.shp q cs1 t fr h1
    exact ⟨cs2, h2, e2.trans e1⟩
def Ty.isIs : Ty → Bool
  | .is _ => true
  | _ => false
def Fresh (N : Nat) (e : TypeId) (a : Option Addr) (n sz : Nat) (w : World) : Prop := n ≠ 0 → ∃ b cs, a = some ⟨b, 0, none⟩ ∧ N ≤ b ∧ w.heap[b]? = some (.cells cs e (0, 0)) ∧ n * sz ≤ cs.size
theorem look_is : ∀ {K : List (Nat × Ty)}, K.all (fun p => p.2.isIs) = true → ∀ s T, look K s = some T → ∃ v, T = .is v
  | [], _, s, T, h => by cases h
  | (t, U) :: K, ha, s, T, h => by
    simp only [List.all_cons, Bool.and_eq_true] at ha
    unfold look at h
    cases hb : Nat.beq t s
    · rw [hb] at h
      exact look_is ha.2 s T h
    · rw [hb] at h
      injection h with h
      subst h
      cases U with
      | is v => exact ⟨v, rfl⟩
      | _ => simp [Ty.isIs] at ha
section
variable {P : Program} {c : Ctx} {K K' : List (Nat × Ty)} {L L' : List Own} {Φ Φ0 : List (World → Prop)} {Q : Exit → Act → World → Prop}
theorem J.mark {x : Code} (h : ∀ (E0 : Nat → Prop) (w0 : World), c.W0.heap.size ≤ w0.heap.size → (∀ F ∈ Φ, Pers E0 w0 F) → J P c K L ((fun w => w0.heap.size ≤ w.heap.size) :: Keeps E0 w0 :: Φ) x Q) : J P c K L Φ x Q :=
  ⟨fun E a w hs => (h E w hs.keeps.size hs.f).out E a w ⟨hs.n, hs.d, hs.wf, hs.k, hs.l, hs.ld, fun F hF => by
    rcases List.mem_cons.1 hF with rfl | hF
    · exact fun w' hk => hk.size
    · rcases List.mem_cons.1 hF with rfl | hF
      · exact fun w' hk => hk
      · exact hs.f F hF, hs.x, hs.xs, hs.keeps, hs.may⟩⟩
theorem J.claimO {x : Code} {E0 : Nat → Prop} {w0 : World} {e : TypeId} {a : Option Addr} {kids : List Ex} {n : Nat} (hW : c.W0.heap.size ≤ w0.heap.size) (h0 : ∀ F ∈ Φ0, Pers E0 w0 F) (hK : ∀ s T, look K' s = some T → look K s = some T) (hKi : K'.all (fun p => p.2.isIs) = true)
    (hL : Has L L') (hLi : L'.all (fun o => o.T.isIs) = true) (hF : Fresh w0.heap.size e a n 8 ∈ Φ) (hR : KidsR kids a n ∈ Φ) (hM : Keeps E0 w0 ∈ Φ)
    (h : ∀ st, (n ≠ 0 → ∃ b cs, st = some (b, cs) ∧ a = some ⟨b, 0, none⟩ ∧ n * 8 ≤ cs.length) → J P c K' (ownO st e L') (Keeps E0 w0 :: Φ0) x Q) : J P c K L Φ x Q := by
  refine ⟨fun E a' w hs => ?_⟩
  have hsub : SA c K' L' Φ E a' w := hs.sub hK hL.mem (hL.nodup hs.ld) (fun _ h => h)
  have hkp := hs.f _ hM
  by_cases hn : n = 0
  · refine (h none (fun h => absurd hn h)).out E a' w ⟨hsub.n, hsub.d, hsub.wf, hsub.k, hsub.l, hsub.ld, fun F hF => ?_, hsub.x, hsub.xs, hsub.keeps, hsub.may⟩
    rcases List.mem_cons.1 hF with rfl | hF
    · exact hkp
    · exact fun w' hk => h0 F hF w' (hkp w' hk)
  · obtain ⟨b, cs, rfl, hN, hb, hc⟩ := (hs.f _ hF).now hn
    have hE : ¬ E b := not_excl (o := 0) (fun w' hk => by
      obtain ⟨hl, hk'⟩ := hs.f _ hR w' hk
      obtain ⟨b', o', e', hK⟩ := hk' hn
      injection e' with e'
      injection e' with e1 e2
      subst e1 e2
      match kids, hl, hK with
      | y :: ys, _, hK =>
        obtain ⟨cs', h8, h2, h3⟩ := kidsAt_get (y :: ys) b 0 w' 0 y hK rfl
        obtain ⟨k, m, h0⟩ := exR_first h2
        exact ⟨k, m, by simpa using h3 0 _ h0⟩
      | [], hl, _ => exact absurd hl.symm hn)
    refine (h (some (b, cs.toList)) (fun _ => ⟨b, cs.toList, rfl, rfl, by simpa using hc⟩)).out (fun q => E q ∨ q = b) a' w ⟨hsub.n, hsub.d, ?_, ?_, ?_, ?_, ?_, fun q hq => .inl (hsub.x q hq), hsub.xs, hsub.keeps, ?_⟩
    · rintro q (hq | rfl)
      · exact hsub.wf q hq
      · exact lt_of_get hb
    · intro s T hl
      obtain ⟨v, rfl⟩ := look_is hKi s T hl
      exact hsub.k s _ hl
    · intro o ho
      rcases List.mem_cons.1 ho with rfl | ho
      · exact ⟨.inr rfl, .agg cs, by simpa [Value.cells] using hb, rfl⟩
      · obtain ⟨h1, v, h2, h3⟩ := hsub.l o ho
        have := List.all_eq_true.1 hLi o ho
        cases hT : o.T with
        | is u => rw [hT] at h3; exact ⟨.inl h1, v, h2, by rw [hT]; exact h3⟩
        | _ => rw [hT] at this; simp [Ty.isIs] at this
    · show ((⟨b, e, .is (.agg cs.toList.toArray)⟩ : Own) :: L' |>.map (·.b)).Nodup
      rw [List.map_cons, List.nodup_cons]
      refine ⟨fun hm => ?_, hsub.ld⟩
      obtain ⟨m, hm, e'⟩ := List.mem_map.1 hm
      have e'' : m.b = b := e'
      exact hE (e'' ▸ (hsub.l m hm).1)
    · intro F hF
      have hkp' := keeps_claim hkp hN
      rcases List.mem_cons.1 hF with rfl | hF
      · exact hkp'
      · exact fun w' hk => h0 F hF w' (hkp' w' hk)
    · intro o ho
      rcases List.mem_cons.1 ho with rfl | ho
      · exact .inr (Nat.le_trans hW hN)
      · exact hsub.may o ho
theorem J.coer {x : Code} {s : Nat} {T T' : Ty} (h : look K s = some T) (hS : Sub L Φ T T') (hj : J P c ((s, T') :: K) L Φ x Q) : J P c K L Φ x Q :=
  ⟨fun E a w hs => hj.out E a w ⟨hs.n, hs.d, hs.wf, fun s' U hl => by
    simp only [look] at hl
    cases hq : Nat.beq s s' with
    | true =>
      rw [hq, cond_true] at hl
      injection hl with hl
      subst hl
      rw [← Nat.eq_of_beq_eq_true hq]
      exact hS E _ w ⟨hs.l, hs.f⟩ (hs.k s T h)
    | false => rw [hq, cond_false] at hl; exact hs.k s' U hl, hs.l, hs.ld, hs.f, hs.x, hs.xs, hs.keeps, hs.may⟩⟩
theorem J.openOwn {x : Code} {b : Nat} {e : TypeId} {R : Value → World → Prop} (hj : ∀ v, (∃ w, R v w) → J P c K (⟨b, e, .is v⟩ :: L) (R v :: Φ) x Q) : J P c K (⟨b, e, .rep R⟩ :: L) Φ x Q := by
  refine ⟨fun E a w hs => ?_⟩
  obtain ⟨h1, v, h2, h3⟩ := hs.l _ List.mem_cons_self
  have h3' : Pers E w (R v) := h3
  refine (hj v ⟨w, h3'.now⟩).out E a w ⟨hs.n, hs.d, hs.wf, hs.k, fun o ho => ?_, hs.ld, fun F hF => ?_, hs.x, hs.xs, hs.keeps, fun o ho => ?_⟩
  · rcases List.mem_cons.1 ho with rfl | ho
    · exact ⟨h1, v, h2, rfl⟩
    · exact hs.l o (List.mem_cons_of_mem _ ho)
  · rcases List.mem_cons.1 hF with rfl | hF
    · exact h3'
    · exact hs.f F hF
  · rcases List.mem_cons.1 ho with rfl | ho
    · exact hs.may ⟨b, e, .rep R⟩ List.mem_cons_self
    · exact hs.may o (List.mem_cons_of_mem _ ho)
theorem J.freezeOF {α : Type} {en : α → List Value} {sz : Nat} {xs : List α} {cap N : Nat} {x : Code} {st : Option (Nat × List Value)} {e : TypeId} (hN : N ≤ c.W0.heap.size) (hen : ∀ x, (en x).length = sz) (hG : Grows en sz xs st cap) (hTl : Tl e L st L') (h0 : ∀ q, ¬ c.X0 q) (hK : K.all (fun p => p.2.out) = true) (hL : L'.all (fun o => o.T.out) = true)
    (h : J P c K L' (Fresh N e (adO st) xs.length sz :: RowG en sz xs (adO st) xs.length :: Φ) x Q) : J P c K L Φ x Q := by
  refine J.subL (L' := ownO st e L') (fun o ho => (hTl.perm.mem_iff).1 ho) (fun hn => ((hTl.perm.map _).nodup_iff).2 hn) ?_
  cases st with
  | none =>
    have hG : xs = [] := hG
    subst hG
    exact J.fact (RowG en sz [] (adO none) ([] : List α).length) (fun E w _ _ => fun w' _ => ⟨rfl, fun h => absurd rfl h⟩) (J.fact (Fresh N e (adO none) ([] : List α).length sz) (fun E w _ _ => fun w' _ h => absurd rfl h) h)
  | some p =>
    obtain ⟨b, cs⟩ := p
    obtain ⟨h1, h2, h3⟩ := hG
    refine ⟨fun E a w hs => ?_⟩
    have hbW : c.W0.heap.size ≤ b := (hs.may _ List.mem_cons_self).resolve_left (h0 b)
    refine (J.freeze (P := P) (Q := Q) (x := x) (b := b) (e := e) (cs := cs) h0 hK hL ?_).out E a w hs
    refine J.fact (RowG en sz xs (adO (some (b, cs))) xs.length) (fun E w hF _ => fun w' hk => ?_) (J.fact (Fresh N e (adO (some (b, cs))) xs.length sz) (fun E w hF _ => fun w' hk _ => ?_) (J.subΦ (fun F hF => ?_) h))
    · have hh := hF _ List.mem_cons_self w' hk
      obtain ⟨a, len, cap', e1, hr⟩ := sl_of_heap hen rfl h3 hh cap
      injection e1 with e1 e2 e3
      subst e1 e2
      exact hr
    · have hh : w'.heap[b]? = some (.cells cs.toArray e (0, 0)) := hF _ (List.mem_cons_of_mem _ List.mem_cons_self) w' hk
      exact ⟨b, cs.toArray, rfl, Nat.le_trans hN hbW, hh, by simp only [List.size_toArray]; rw [h1]; exact Nat.mul_le_mul_right _ h2⟩
    · rcases List.mem_cons.1 hF with rfl | hF
      · exact List.mem_cons_self
      · rcases List.mem_cons.1 hF with rfl | hF
        · exact List.mem_cons_of_mem _ List.mem_cons_self
        · exact List.mem_cons_of_mem _ (List.mem_cons_of_mem _ (List.mem_cons_of_mem _ hF))
end
section
variable {P : Program} {fn : Func} {R : Ty} {n : Nat}
theorem CallTy.ofN {f : FuncId} {x : Code} {As : List Ty} {N : Nat} (hA : ∀ E w vs, TyAll E w As vs → N ≤ w.heap.size) (hf : P.funcs[f]? = some fn) (hb : fn.body = some x) (hn : fn.ntmps = n) (hl : Nat.ble As.length n = true) (he : ∀ args w, (callFunc f args).run P w = .ok (.enter f args) w)
    (h : ∀ (E : Nat → Prop) (W : World), N ≤ W.heap.size → J P ⟨n, E, noX, W⟩ (params 0 As) [] [] x (bodyPost P fn (Post E W R))) : CallTy P f As R :=
  ⟨he, fun E w vs hw ht => by
    refine calls_of_wp hf hb ?_
    rw [hn]
    exact (h E w (hA E w vs ht)).out E _ w (sa_start hw ht (Nat.le_of_ble_eq_true hl))⟩
end
def FExR (N : Nat) (tE : TypeId) (x : Ex) (v : Value) (w : World) : Prop := ExR x v w ∧ ∃ a len cap, v = .agg (exCells x.K x.VK x.VN x.VS x.TB x.NM x.SL a len cap).toArray ∧ Fresh N tE a len 8 w
def NExR (N : Nat) (x : Ex) (v : Value) (w : World) : Prop := N ≤ w.heap.size ∧ ExR x v w
section
variable {L : List Own} {Φ : List (World → Prop)}
theorem Sub.nex {N : Nat} {x : Ex} {T : Ty} (h : Sub L Φ T (.rep (ExR x))) (hN : (fun w : World => N ≤ w.heap.size) ∈ Φ) : Sub L Φ T (.rep (NExR N x)) := fun E v w hf ht => fun w' hk => ⟨hf.2 _ hN w' hk, h E v w hf ht w' hk⟩
theorem Sub.ofNex {N : Nat} {x : Ex} : Sub L Φ (.rep (NExR N x)) (.rep (ExR x)) := fun E v w hf ht => fun w' hk => (ht w' hk).2
theorem Sub.fexNil {N : Nat} {tE : TypeId} {k vk vn : Int} {vs tb nm : ByteArray} {sl : Int} {cap : Nat} {a : Option Addr} : Sub L Φ (.is (.agg (exCells k vk vn vs tb nm sl a 0 cap).toArray)) (.rep (FExR N tE (.mk k vk vn vs tb nm sl []))) := fun E v w hf e => fun w' hk =>
  ⟨Sub.exNil E v w hf e w' hk, a, 0, cap, e, fun h => absurd rfl h⟩
theorem Sub.fexMkO {N : Nat} {tE : TypeId} {k vk vn : Int} {vs tb nm : ByteArray} {sl : Int} {kids : List Ex} {zs : List XC} {st : Option (Nat × List Value)} {cap : Nat} (hG : Grows XC.cs 8 zs st cap) (h : KidsR kids (adO st) zs.length ∈ Φ) (hF : Fresh N tE (adO st) zs.length 8 ∈ Φ) :
    Sub L Φ (.is (.agg [.int .i64 k, .int .i64 vk, .int .i64 vn, .string vs, .string tb, .string nm, .int .i64 sl, sliceO st zs.length cap].toArray)) (.rep (FExR N tE (.mk k vk vn vs tb nm sl kids))) := by
  obtain ⟨cap', e⟩ := sliceO_ad hG
  rw [e]
  exact fun E v w hf e' => fun w' hk => ⟨Sub.exMk h E v w hf e' w' hk, adO st, zs.length, cap', e', hf.2 _ hF w' hk⟩
theorem Sub.fex_eq {N : Nat} {tE : TypeId} {T : Ty} {x y : Ex} (h : Sub L Φ T (.rep (FExR N tE x))) (e : x = y) : Sub L Φ T (.rep (FExR N tE y)) := e ▸ h
theorem cnt_fex {N : Nat} {tE : TypeId} {x : Ex} : Cnt (.rep (FExR N tE x)) 8 := fun E v w h => cnt_ex (x := x) E v w fun w' hk => (h w' hk).1
end
section
variable {P : Program} {c : Ctx} {K : List (Nat × Ty)} {L : List Own} {Φ : List (World → Prop)} {Q : Exit → Act → World → Prop}
theorem J.openOwnF {x' : Code} {b : Nat} {e : TypeId} {N : Nat} {tE : TypeId} {x : Ex} (hj : ∀ a len cap, x.KS.length = len → J P c K (⟨b, e, .is (.agg (exCells x.K x.VK x.VN x.VS x.TB x.NM x.SL a len cap).toArray)⟩ :: L) (Fresh N tE a len 8 :: KidsR x.KS a len :: ExR x (.agg (exCells x.K x.VK x.VN x.VS x.TB x.NM x.SL a len cap).toArray) :: Φ) x' Q) :
    J P c K (⟨b, e, .rep (FExR N tE x)⟩ :: L) Φ x' Q := by
  refine J.openOwn ?_
  rintro v ⟨w, hx, a, len, cap, rfl, hF⟩
  have key : ∀ w', FExR N tE x (.agg (exCells x.K x.VK x.VN x.VS x.TB x.NM x.SL a len cap).toArray) w' → KidsR x.KS a len w' ∧ Fresh N tE a len 8 w' := by
    rintro w' ⟨h1, a', len', cap', e2, h2⟩
    have e3 := agg_inj e2
    simp only [exCells, List.cons.injEq, Value.slice.injEq, and_true, true_and] at e3
    obtain ⟨rfl, rfl, rfl⟩ := e3
    refine ⟨?_, h2⟩
    rw [Ex.eta x] at h1
    obtain ⟨a', len', cap', e2, h3⟩ := exR_mk.1 h1
    have e3 := agg_inj e2
    simp only [exCells, List.cons.injEq, Value.slice.injEq, and_true, true_and] at e3
    obtain ⟨_, _, _, _, _, _, _, rfl, rfl, rfl⟩ := e3
    exact h3
  have hlen : x.KS.length = len := (key w ⟨hx, a, len, cap, rfl, hF⟩).1.1
  refine J.fact (ExR x (.agg (exCells x.K x.VK x.VN x.VS x.TB x.NM x.SL a len cap).toArray)) (fun E w hG _ => fun w' hk => (hG _ List.mem_cons_self w' hk).1) ?_
  refine J.fact (KidsR x.KS a len) (fun E w hG _ => fun w' hk => (key w' (hG _ (List.mem_cons_of_mem _ List.mem_cons_self) w' hk)).1) ?_
  refine J.fact (Fresh N tE a len 8) (fun E w hG _ => fun w' hk => (key w' (hG _ (List.mem_cons_of_mem _ (List.mem_cons_of_mem _ List.mem_cons_self)) w' hk)).2) ?_
  refine J.subΦ (fun F hF => ?_) (hj a len cap hlen)
  rcases List.mem_cons.1 hF with rfl | hF
  · exact List.mem_cons_self
  · rcases List.mem_cons.1 hF with rfl | hF
    · exact List.mem_cons_of_mem _ List.mem_cons_self
    · rcases List.mem_cons.1 hF with rfl | hF
      · exact List.mem_cons_of_mem _ (List.mem_cons_of_mem _ List.mem_cons_self)
      · exact List.mem_cons_of_mem _ (List.mem_cons_of_mem _ (List.mem_cons_of_mem _ (List.mem_cons_of_mem _ hF)))
theorem splice_len {cs ys : List Value} {off : Nat} (h : off + ys.length ≤ cs.length) : (splice cs off ys).length = cs.length := by
  unfold splice
  simp
  omega
end
end Go.Vc
namespace Go.Vc
open Go
section
variable {P : Program} {c : Ctx} {K : List (Nat × Ty)} {L : List Own} {Φ : List (World → Prop)} {Q : Exit → Act → World → Prop}
theorem J.openOwnE {x' : Code} {b : Nat} {e : TypeId} {x : Ex} (hj : ∀ a len cap, x.KS.length = len → J P c K (⟨b, e, .is (.agg (exCells x.K x.VK x.VN x.VS x.TB x.NM x.SL a len cap).toArray)⟩ :: L) (ExR x (.agg (exCells x.K x.VK x.VN x.VS x.TB x.NM x.SL a len cap).toArray) :: Φ) x' Q) :
    J P c K (⟨b, e, .rep (ExR x)⟩ :: L) Φ x' Q := by
  refine J.openOwn ?_
  rintro v ⟨w, hx⟩
  rw [Ex.eta x] at hx
  obtain ⟨a, len, cap, rfl, h3⟩ := exR_mk.1 hx
  exact hj a len cap h3.1
end
end Go.Vc

namespace Go.Vc
open Go
section
variable {P : Program} {c : Ctx} {K : List (Nat × Ty)} {L : List Own} {Φ : List (World → Prop)} {Q : Exit → Act → World → Prop}
structure JM (P : Program) (c : Ctx) (K : List (Nat × Ty)) (L : List Own) (Φ : List (World → Prop)) (r : Nat) (es : Array MapEntry) (cl : Nat) (ops : Array Oper) (l : List Oper) (Q : Exit → Act → World → Prop) : Prop where
  out : ∀ E a w, SA c K L Φ E a w → r = w.heap.size → wpList P ops Q l a (w.alloc (.map es cl))
variable {ops : Array Oper} {rest : List Oper} {d : Nat} {ty t : TypeId} {pos : String} {after : Array Edge} {r cl : Nat} {es : Array MapEntry}
theorem SA.putV {E : Nat → Prop} {a : Act} {w : World} {v : Value} (hs : SA c K L Φ E a w) (hd : d < c.n) {T : Ty} (hT : T.p E v w) : SA c ((d, T) :: K) L Φ E (a.put (some d) v) w :=
  hs.put (dst := some d) (Ev.of_keeps (.refl _ _)) hs.wf hT (fun d' e => by injection e with e; subst e; exact hd) hs.l hs.ld hs.keeps hs.may
theorem JO.mapNew (hd : Nat.blt d c.n = true) (hn : ∀ r, JM P c ((d, .is (.map (some r))) :: K) L Φ r #[] 0 ops rest Q) : JO P c K L Φ ops (⟨some d, .makeMap t none, ty, pos, after, none⟩ :: rest) Q := by
  refine ⟨fun E a w hs => wpList_plain rfl fun K' hK => ?_⟩
  unfold Oper.wp
  have hrun : (execOp a.eval ⟨some d, .makeMap t none, ty, pos, after, none⟩).run P w = .ok (.value (.map (some w.heap.size))) (w.alloc (.map #[] 0)) := by
    simp [execOp, Instr.makeMap]
  rw [hrun]
  exact hK _ _ ((hn w.heap.size).out E _ w (hs.putV (Nat.le_of_ble_eq_true hd) rfl) rfl)
theorem heap_at_map (w : World) (es : Array MapEntry) (cl : Nat) : (w.alloc (.map es cl)).heap[w.heap.size]? = some (.map es cl) := heap_alloc_at w _
theorem set_map (w : World) (es es' : Array MapEntry) (cl cl' : Nat) : { w.alloc (.map es cl) with heap := (w.alloc (.map es cl)).heap.setIfInBounds w.heap.size (.map es' cl') } = w.alloc (.map es' cl') := by
  show World.mk .. = World.mk ..
  congr 1
  show (w.heap.push (.map es cl)).setIfInBounds w.heap.size (.map es' cl') = w.heap.push (.map es' cl')
  apply Array.ext_getElem?
  intro i
  rw [Array.getElem?_setIfInBounds]
  by_cases h : w.heap.size = i
  · subst h; simp
  · rw [if_neg h]
    have h' : ¬ i = w.heap.size := fun e => h e.symm
    simp [Array.getElem?_push, h']
theorem set_map_run (w : World) (es es' : Array MapEntry) (cl cl' : Nat) : (setObj w.heap.size (.map es' cl')).run P (w.alloc (.map es cl)) = .ok () (w.alloc (.map es' cl')) := by
  rw [MapKept.run_setObj_map _ (heap_at_map w es cl), set_map]
theorem JM.ins {mt kt et : TypeId} {m k v : Operand} {n : Int} {V : Value} (hm' : P.underlying mt = some (.map kt et)) (hk' : P.underlying kt = some (.int .i64)) (hm : opTy K m = some (.is (.map (some r)))) (hk : opTy K k = some (.is (.int .i64 n))) (hv : opTy K v = some (.is V)) (hf : Instr.findNow (.int .i64) (.int .i64 n) es.toList 0 = some none)
    (hn : JM P c K L Φ r (es.push { key := .int .i64 n, val := V, born := cl }) (cl + 1) ops rest Q) : JM P c K L Φ r es cl ops (⟨none, .insert mt m k v, ty, pos, after, none⟩ :: rest) Q := by
  refine ⟨fun E a w hs hr => wpList_plain rfl fun K' hK => ?_⟩
  subst hr
  unfold Oper.wp
  have e1 : a.eval m = .map (some w.heap.size) := opTy_eval hs hm
  have e2 : a.eval k = .int .i64 n := opTy_eval hs hk
  have e3 : a.eval v = V := opTy_eval hs hv
  have hc : (Instr.checkKey false 10000 kt (.int .i64 n)).run P (w.alloc (.map es cl)) = .ok () (w.alloc (.map es cl)) := MapKept.run_checkKey (k := .int .i64 n) hk' (by simp [MapKept.IsKey]) false 9999
  have hrun : (execOp a.eval ⟨none, .insert mt m k v, ty, pos, after, none⟩).run P (w.alloc (.map es cl)) = .ok .skip (w.alloc (.map (es.push { key := .int .i64 n, val := V, born := cl }) (cl + 1))) := by
    simp [execOp, e1, e2, e3, Instr.mapUpdate, run_underlying hm', MapKept.run_getObj_map (heap_at_map w es cl), hc, MapKept.run_findKey hk' hf, set_map_run, Result.andThen]
  rw [hrun]
  refine hK _ _ (hn.out E _ w ?_ rfl)
  exact hs
theorem JM.move {x : Operand} {T : Ty} (hx : opTy K x = some T) (hd : Nat.blt d c.n = true) (hn : JM P c ((d, T) :: K) L Φ r es cl ops rest Q) : JM P c K L Φ r es cl ops (⟨some d, .move x, ty, pos, after, none⟩ :: rest) Q := by
  refine ⟨fun E a w hs hr => wpList_plain rfl fun K' hK => ?_⟩
  unfold Oper.wp
  have hrun : (execOp a.eval ⟨some d, .move x, ty, pos, after, none⟩).run P (w.alloc (.map es cl)) = .ok (.value (a.eval x)) (w.alloc (.map es cl)) := by simp [execOp]
  rw [hrun]
  exact hK _ _ (hn.out E _ w (hs.putV (Nat.le_of_ble_eq_true hd) (opTy_eval hs hx)) hr)
theorem JM.lookup {mt kt et : TypeId} {m k : Operand} {n V : Int} {o : Option (Nat × Value)} (hm' : P.underlying mt = some (.map kt et)) (hk' : P.underlying kt = some (.int .i64)) (hz : zeroOf P et = some (.int .i64 0)) (hm : opTy K m = some (.is (.map (some r)))) (hk : opTy K k = some (.is (.int .i64 n))) (hd : Nat.blt d c.n = true)
    (hf : Instr.findNow (.int .i64) (.int .i64 n) es.toList 0 = some o) (hV : (match o with | some (_, v) => v | none => .int .i64 0) = .int .i64 V) (hn : JO P c ((d, .is (.int .i64 V)) :: K) L Φ ops rest Q) : JM P c K L Φ r es cl ops (⟨some d, .lookup mt m k false, ty, pos, after, none⟩ :: rest) Q := by
  refine ⟨fun E a w hs hr => wpList_plain rfl fun K' hK => ?_⟩
  subst hr
  unfold Oper.wp
  have e1 : a.eval m = .map (some w.heap.size) := opTy_eval hs hm
  have e2 : a.eval k = .int .i64 n := opTy_eval hs hk
  have hc : ∀ b, (Instr.checkKey b 10000 kt (.int .i64 n)).run P (w.alloc (.map es cl)) = .ok () (w.alloc (.map es cl)) := fun b => MapKept.run_checkKey (k := .int .i64 n) hk' (by simp [MapKept.IsKey]) b 9999
  have hzv : (zeroValue et).run P (w.alloc (.map es cl)) = .ok (.int .i64 0) (w.alloc (.map es cl)) := by
    unfold zeroOf at hz
    cases hi : P.info? et with
    | none => rw [hi] at hz; cases hz
    | some i => rw [hi, Option.bind_some] at hz; simp [zeroValue, typeInfo, hi, hz]
  have hrun : (execOp a.eval ⟨some d, .lookup mt m k false, ty, pos, after, none⟩).run P (w.alloc (.map es cl)) = .ok (.value (.int .i64 V)) (w.alloc (.map es cl)) := by
    cases o with
    | none =>
      simp only at hV
      simp [execOp, e1, e2, Instr.lookup, run_underlying hm', MapKept.run_getObj_map (heap_at_map w es cl), hc, MapKept.run_findKey hk' hf, Result.andThen, hzv, hV]
    | some p =>
      obtain ⟨j, v⟩ := p
      simp only at hV
      subst hV
      simp [execOp, e1, e2, Instr.lookup, run_underlying hm', MapKept.run_getObj_map (heap_at_map w es cl), hc, MapKept.run_findKey hk' hf, Result.andThen]
  rw [hrun]
  have hk0 : Keeps noX w (w.alloc (.map es cl)) := Keeps.alloc w _
  have hev : Ev E w E (w.alloc (.map es cl)) := Ev.of_keeps hk0.of_noX
  refine hK _ _ (hn.out E _ _ ?_)
  exact hs.put (dst := some d) (T := .is (.int .i64 V)) hev (fun b hb => Nat.lt_of_lt_of_le (hs.wf b hb) hk0.size) rfl (fun d' e => by injection e with e; subst e; exact Nat.le_of_ble_eq_true hd) (fun o ho => Own.keep0 (hs.l o ho) hev hk0) hs.ld (hs.keeps.step hk0 fun _ => False.elim) hs.may
end
end Go.Vc
namespace Go.Vc
open Go
structure C4 where
  n : ByteArray
  ty : Int
  nn : Bool
  un : Bool
def C4.cells (c : C4) : List Value := [.string c.n, .int .i64 c.ty, .bool c.nn, .bool c.un]
theorem C4.len (c : C4) : c.cells.length = 4 := rfl
def c4D : C4 := ⟨⟨#[]⟩, 0, false, false⟩
structure I4 where
  n : ByteArray
  t : ByteArray
  col : Int
  h : Bool
def I4.cells (c : I4) : List Value := [.string c.n, .string c.t, .int .i64 c.col, .bool c.h]
theorem I4.len (c : I4) : c.cells.length = 4 := rfl
def i4D : I4 := ⟨⟨#[]⟩, ⟨#[]⟩, 0, false⟩
def TabR (nm : ByteArray) (cols : List C4) (v : Value) (w : World) : Prop := ∃ a len cap, v = .agg [.string nm, .slice a len cap].toArray ∧ RowG C4.cells 4 cols a len w
section
variable {P : Program} {c : Ctx} {K : List (Nat × Ty)} {L : List Own} {Φ : List (World → Prop)} {Q : Exit → Act → World → Prop}
theorem J.openTab {x : Code} {s : Nat} {nm : ByteArray} {cols : List C4} (h : look K s = some (.rep (TabR nm cols)))
    (hj : ∀ a len cap b o, cols.length = len → (len ≠ 0 → a = some ⟨b, o, none⟩) → J P c ((s, .is (.agg [.string nm, .slice a len cap].toArray)) :: K) L (RowG C4.cells 4 cols a len :: Φ) x Q) : J P c K L Φ x Q := by
  refine J.open_ h ?_
  rintro v ⟨w, a, len, cap, rfl, hl, hk⟩
  obtain ⟨b, o, hbo⟩ : ∃ b o, len ≠ 0 → a = some ⟨b, o, none⟩ := by
    by_cases hn : len = 0
    · exact ⟨0, 0, fun h => absurd hn h⟩
    · obtain ⟨b, o, e, _⟩ := hk hn; exact ⟨b, o, fun _ => e⟩
  refine J.fact (RowG C4.cells 4 cols a len) (fun E w hG _ => ?_) (J.subΦ (Φ' := RowG C4.cells 4 cols a len :: Φ) (fun F hF => ?_) (hj a len cap b o hl hbo))
  · intro w' hk'
    obtain ⟨a', len', cap', e, hK⟩ := hG _ List.mem_cons_self w' hk'
    have e2 := agg_inj e
    simp only [List.cons.injEq, Value.slice.injEq, and_true, true_and] at e2
    obtain ⟨rfl, rfl, rfl⟩ := e2
    exact hK
  · rcases List.mem_cons.1 hF with rfl | hF
    · exact List.mem_cons_self
    · exact List.mem_cons_of_mem _ (List.mem_cons_of_mem _ hF)
theorem Sub.tab {nm : ByteArray} {cols : List C4} {a : Option Addr} {len cap : Nat} (h : RowG C4.cells 4 cols a len ∈ Φ) : Sub L Φ (.is (.agg [.string nm, .slice a len cap].toArray)) (.rep (TabR nm cols)) := fun E v w hf e => by
  rw [show v = _ from e]
  exact fun w' hk => ⟨a, len, cap, rfl, hf.2 _ h w' hk⟩
theorem J.openOwnEK {x' : Code} {b : Nat} {e : TypeId} {x : Ex} (hj : ∀ a len cap kb ko, x.KS.length = len → (len ≠ 0 → a = some ⟨kb, ko, none⟩) → J P c K (⟨b, e, .is (.agg (exCells x.K x.VK x.VN x.VS x.TB x.NM x.SL a len cap).toArray)⟩ :: L) (KidsR x.KS a len :: ExR x (.agg (exCells x.K x.VK x.VN x.VS x.TB x.NM x.SL a len cap).toArray) :: Φ) x' Q) :
    J P c K (⟨b, e, .rep (ExR x)⟩ :: L) Φ x' Q := by
  refine J.openOwn ?_
  rintro v ⟨w, hx⟩
  rw [Ex.eta x] at hx
  obtain ⟨a, len, cap, rfl, hl, hk⟩ := exR_mk.1 hx
  obtain ⟨kb, ko, hbo⟩ : ∃ b o, len ≠ 0 → a = some ⟨b, o, none⟩ := by
    by_cases hn : len = 0
    · exact ⟨0, 0, fun h => absurd hn h⟩
    · obtain ⟨b, o, e, _⟩ := hk hn; exact ⟨b, o, fun _ => e⟩
  refine J.fact (KidsR x.KS a len) (fun E w hG _ => fun w' hk' => ?_) (hj a len cap kb ko hl hbo)
  have h1 := hG _ List.mem_cons_self w' hk'
  rw [Ex.eta x] at h1
  obtain ⟨a', len', cap', e2, h3⟩ := exR_mk.1 h1
  have e3 := agg_inj e2
  simp only [exCells, List.cons.injEq, Value.slice.injEq, and_true, true_and] at e3
  obtain ⟨_, _, _, _, _, _, _, rfl, rfl, rfl⟩ := e3
  exact h3
end
section
variable {P : Program} {L : List Own} {Φ : List (World → Prop)} {H : Know} {dst : Option Nat} {ty : TypeId} {pos : String} {after : Array Edge} {g : Option (Nat × Bool)}
theorem ob_loadKidFA {t : TypeId} {y : Operand} {b o off i j len : Nat} {kids : List Ex} {x : Ex} {a : Option Addr} {u : Value} (hs : szOf P t = some none) (hx : H y (.is (.pointer (some ⟨b, off, none⟩)))) (hF : KidsR kids a len ∈ Φ) (ha : a = some ⟨b, o, none⟩)
    (hi : kids[i]? = some x) (ho : off = o + 8 * i + j) (hu : ∀ a len cap, (exCells x.K x.VK x.VN x.VS x.TB x.NM x.SL a len cap)[j]? = some u) : Ob P L Φ H ⟨dst, .load t y, ty, pos, after, g⟩ (.is u) := by
  cases x with
  | mk k vk vn vs tb nm sl ks => exact ob_loadKidF hs hx hF ha hi ho hu
theorem ob_loadKidVA {t : TypeId} {y : Operand} {b o off i len : Nat} {kids : List Ex} {x : Ex} {a : Option Addr} (hs : szOf P t = some (some 3)) (hx : H y (.is (.pointer (some ⟨b, off, none⟩)))) (hF : KidsR kids a len ∈ Φ) (ha : a = some ⟨b, o, none⟩)
    (hi : kids[i]? = some x) (ho : off = o + 8 * i + 1) : Ob P L Φ H ⟨dst, .load t y, ty, pos, after, g⟩ (.is (.agg [.int .i64 x.VK, .int .i64 x.VN, .string x.VS].toArray)) :=
  ob_load hx fun E w hf => run_loadRow (cs := [.int .i64 x.VK, .int .i64 x.VN, .string x.VS]) hs fun m u hm => by
    subst ha
    obtain ⟨cs, h8, hr, hR⟩ := kid_load (hf.2 _ hF) hi
    have hR' := hR.now
    rw [Ex.eta x] at hR'
    obtain ⟨a', len', cap', e, _⟩ := exR_mk.1 hR'
    have e' := agg_inj e
    subst e'
    rw [ho, show o + 8 * i + 1 + m = o + 8 * i + (1 + m) by omega]
    refine hr (1 + m) u ?_
    rw [Nat.add_comm 1 m]
    match m, hm with
    | 0, hm => exact hm
    | 1, hm => exact hm
    | 2, hm => exact hm
    | m + 3, hm => simp at hm
end
end Go.Vc
namespace Go.Vc
open Go
section
variable {P : Program} {K : List (Nat × Ty)} {L : List Own} {Φ : List (World → Prop)} {fn : Func} {n : Nat} {X : Nat → Prop} {W : World}
theorem JX.ret2Cis {s u u' b m : Nat} {t ety : TypeId} {cs : Array Value} {V B B' C C' : Value} (hres : fn.results = #[.tmp u, .tmp u', .cell s t]) (h' : look K u = some (.is B')) (h'' : look K u' = some (.is C')) (h : look K s = some (.is (.pointer (some ⟨b, 0, none⟩)))) (hs' : szOf P t = some (some m)) (hm : ⟨b, ety, .is (.agg cs)⟩ ∈ L) (hn : cs.size = m)
    (hb : B' = B) (hc : C' = C) (he : .agg cs = V) : JX ⟨n, X, noX, W⟩ K L Φ .ret (bodyPost P fn (Post X W (.tup3 (.is B) (.is C) (.is V)))) :=
  JX.retOf rfl fun a w E hs => by
    obtain ⟨v, h1, h2⟩ := res_cell (P := P) hs' (hs.l _ hm) (agg_is hn)
    have e : a.tmps.getD s undef = .pointer (some ⟨b, 0, none⟩) := hs.k s _ h
    rw [Array.getD_eq_getD_getElem?] at e
    exact ⟨.tuple #[a.tmps.getD u undef, a.tmps.getD u' undef, v], by simp [results, hres, Array.getD_eq_getD_getElem?, e, asAddr, h1], _, _, _, rfl, (hs.k u _ h').trans hb, (hs.k u' _ h'').trans hc, (show v = _ from h2).trans he⟩
end
end Go.Vc

namespace Go.Vc
open Go
section
variable {P : Program}
theorem run_veqD (d' : Nat) {t ti tj ts : TypeId} (h : VEq P t ti tj ts) (k1 n1 : Int) (s1 : ByteArray) (k2 n2 : Int) (s2 : ByteArray) (w : World) :
    (Op.equalIn (d' + 2) t (.agg #[.int .i64 k1, .int .i64 n1, .string s1]) (.agg #[.int .i64 k2, .int .i64 n2, .string s2])).run P w = .ok (veq k1 n1 s1 k2 n2 s2) w := by
  have e := run_equalIn_struct (P := P) w (d' + 1) t #[.int .i64 k1, .int .i64 n1, .string s1] #[.int .i64 k2, .int .i64 n2, .string s2] h.ht h.hp
  refine e.trans ?_
  have hf := h.hf
  generalize (P.fieldsOf t).toList = fs at hf ⊢
  have h3' : ∃ f0 f1 f2, fs = [f0, f1, f2] := by
    obtain ⟨f0, l0, rfl, _, hf⟩ := List.map_eq_cons_iff.1 hf
    obtain ⟨f1, l1, rfl, _, hf⟩ := List.map_eq_cons_iff.1 hf
    obtain ⟨f2, l2, rfl, _, hf⟩ := List.map_eq_cons_iff.1 hf
    exact ⟨f0, f1, f2, by rw [List.map_eq_nil_iff.1 hf]⟩
  obtain ⟨f0, f1, f2, rfl⟩ := h3'
  simp only [List.map_cons, List.map_nil, List.cons.injEq, Prod.mk.injEq, and_true] at hf
  obtain ⟨⟨a0, b0, c0⟩, ⟨a1, b1, c1⟩, ⟨a2, b2, c2⟩⟩ := hf
  have i1 : (isAgg ti).run P w = .ok false w := by simp [isAgg, run_underlying h.h1]
  have i2 : (isAgg tj).run P w = .ok false w := by simp [isAgg, run_underlying h.h2]
  have i3 : (isAgg ts).run P w = .ok false w := by simp [isAgg, run_underlying h.h3]
  have q1 := run_equalIn_int (P := P) w d' ti .i64 .i64 k1 k2 h.h1
  have q2 := run_equalIn_int (P := P) w d' tj .i64 .i64 n1 n2 h.h2
  have q3 := run_equalIn_string (P := P) w d' ts s1 s2 h.h3
  have x0 : f0.name ≠ "_" := by simpa using a0
  have x1 : f1.name ≠ "_" := by simpa using a1
  have x2 : f2.name ≠ "_" := by simpa using a2
  unfold veq seq
  generalize (k1 == k2) = A at *
  generalize (n1 == n2) = B at *
  generalize (s1.toList == s2.toList) = C at *
  simp only [Op.eqFields, ne_eq, x0, x1, x2, not_false_eq_true, if_true, b0, b1, b2, c0, c1, c2, part, Sem.run_bind, i1, i2, i3, Result.andThen_ok, Bool.false_eq_true, if_false, List.getElem?_toArray, List.getElem?_cons_zero, List.getElem?_cons_succ, Sem.run_pure, q1]
  cases A <;> cases B <;> cases C <;> simp [q2, q3, i2, i3]
structure REq (P : Program) (t tv ti tj ts : TypeId) : Prop extends VEq P tv ti tj ts where
  rt : P.underlying t = some (.struct (P.fieldsOf t))
  rp : P.stoodInHeld t = false
  rg : P.eqGuardType P.depth t = false
  rf : (P.fieldsOf t).toList.map (fun f => (f.name == "_", f.type, f.offset)) = [(false, ts, 0), (false, ti, 1), (false, tv, 2), (false, tv, 5)]
  rs : (P.info? tv).map (·.size) = some 3
theorem run_req {t tv ti tj ts : TypeId} (h : REq P t tv ti tj ts) (t1 : ByteArray) (c1 : Int) (a b : V3) (t2 : ByteArray) (c2 : Int) (a' b' : V3) (w : World) :
    (Op.equalIn 10000 t (.agg #[.string t1, .int .i64 c1, .int .i64 a.k, .int .i64 a.n, .string a.s, .int .i64 b.k, .int .i64 b.n, .string b.s]) (.agg #[.string t2, .int .i64 c2, .int .i64 a'.k, .int .i64 a'.n, .string a'.s, .int .i64 b'.k, .int .i64 b'.n, .string b'.s])).run P w =
      .ok (seq t1 t2 && ((c1 == c2) && (veq a.k a.n a.s a'.k a'.n a'.s && veq b.k b.n b.s b'.k b'.n b'.s))) w := by
  have e := run_equalIn_struct (P := P) w 9999 t #[.string t1, .int .i64 c1, .int .i64 a.k, .int .i64 a.n, .string a.s, .int .i64 b.k, .int .i64 b.n, .string b.s] #[.string t2, .int .i64 c2, .int .i64 a'.k, .int .i64 a'.n, .string a'.s, .int .i64 b'.k, .int .i64 b'.n, .string b'.s] h.rt h.rp
  refine e.trans ?_
  have hf := h.rf
  generalize hd : (9999 : Nat) = d
  obtain ⟨d', rfl⟩ : ∃ d', d = d' + 2 := ⟨9997, by omega⟩
  generalize (P.fieldsOf t).toList = fs at hf ⊢
  have h3' : ∃ f0 f1 f2 f3, fs = [f0, f1, f2, f3] := by
    obtain ⟨f0, l0, rfl, _, hf⟩ := List.map_eq_cons_iff.1 hf
    obtain ⟨f1, l1, rfl, _, hf⟩ := List.map_eq_cons_iff.1 hf
    obtain ⟨f2, l2, rfl, _, hf⟩ := List.map_eq_cons_iff.1 hf
    obtain ⟨f3, l3, rfl, _, hf⟩ := List.map_eq_cons_iff.1 hf
    exact ⟨f0, f1, f2, f3, by rw [List.map_eq_nil_iff.1 hf]⟩
  obtain ⟨f0, f1, f2, f3, rfl⟩ := h3'
  simp only [List.map_cons, List.map_nil, List.cons.injEq, Prod.mk.injEq, and_true] at hf
  obtain ⟨⟨a0, b0, g0⟩, ⟨a1, b1, g1⟩, ⟨a2, b2, g2⟩, ⟨a3, b3, g3⟩⟩ := hf
  have i1 : (isAgg ti).run P w = .ok false w := by simp [isAgg, run_underlying h.h1]
  have i3 : (isAgg ts).run P w = .ok false w := by simp [isAgg, run_underlying h.h3]
  have iv : (isAgg tv).run P w = .ok true w := by simp [isAgg, run_underlying h.ht]
  have q1 := run_equalIn_int (P := P) w (d' + 1) ti .i64 .i64 c1 c2 h.h1
  have q3 := run_equalIn_string (P := P) w (d' + 1) ts t1 t2 h.h3
  have v1 := run_veqD (P := P) d' h.toVEq a.k a.n a.s a'.k a'.n a'.s w
  have v2 := run_veqD (P := P) d' h.toVEq b.k b.n b.s b'.k b'.n b'.s w
  have x0 : f0.name ≠ "_" := by simpa using a0
  have x1 : f1.name ≠ "_" := by simpa using a1
  have x2 : f2.name ≠ "_" := by simpa using a2
  have x3 : f3.name ≠ "_" := by simpa using a3
  have hsz : (sizeOf tv).run P w = .ok 3 w := by
    have := h.rs
    cases hi : P.info? tv with
    | none => rw [hi] at this; cases this
    | some i => rw [hi, Option.map_some, Option.some.injEq] at this; simp [Go.sizeOf, typeInfo, hi, this]
  generalize hX : (#[.string t1, .int .i64 c1, .int .i64 a.k, .int .i64 a.n, .string a.s, .int .i64 b.k, .int .i64 b.n, .string b.s] : Array Value) = X
  generalize hY : (#[.string t2, .int .i64 c2, .int .i64 a'.k, .int .i64 a'.n, .string a'.s, .int .i64 b'.k, .int .i64 b'.n, .string b'.s] : Array Value) = Y
  have pA0 : (part ts X 0).run P w = .ok (.string t1) w := by subst hX; simp [part, i3]
  have pB0 : (part ts Y 0).run P w = .ok (.string t2) w := by subst hY; simp [part, i3]
  have pA1 : (part ti X 1).run P w = .ok (.int .i64 c1) w := by subst hX; simp [part, i1]
  have pB1 : (part ti Y 1).run P w = .ok (.int .i64 c2) w := by subst hY; simp [part, i1]
  have pA2 : (part tv X 2).run P w = .ok (.agg #[.int .i64 a.k, .int .i64 a.n, .string a.s]) w := by subst hX; simp [part, iv, hsz]
  have pB2 : (part tv Y 2).run P w = .ok (.agg #[.int .i64 a'.k, .int .i64 a'.n, .string a'.s]) w := by subst hY; simp [part, iv, hsz]
  have pA3 : (part tv X 5).run P w = .ok (.agg #[.int .i64 b.k, .int .i64 b.n, .string b.s]) w := by subst hX; simp [part, iv, hsz]
  have pB3 : (part tv Y 5).run P w = .ok (.agg #[.int .i64 b'.k, .int .i64 b'.n, .string b'.s]) w := by subst hY; simp [part, iv, hsz]
  clear hX hY
  unfold seq
  generalize (c1 == c2) = B at *
  generalize (t1.toList == t2.toList) = A at *
  generalize veq a.k a.n a.s a'.k a'.n a'.s = C at *
  generalize veq b.k b.n b.s b'.k b'.n b'.s = D at *
  cases A <;> cases B <;> cases C <;> cases D <;> simp [Op.eqFields, x0, x1, x2, x3, b0, b1, b2, b3, g0, g1, g2, g3, pA0, pA1, pA2, pA3, pB0, pB1, pB2, pB3, q1, q3, v1, v2]
variable {L : List Own} {Φ : List (World → Prop)} {H : Know} {dst : Option Nat} {ty : TypeId} {pos : String} {after : Array Edge} {g : Option (Nat × Bool)} {yt : TypeId} {x y : Operand}
theorem ob_req {t tv ti tj ts : TypeId} (h : REq P t tv ti tj ts) {t1 : ByteArray} {c1 : Int} {a b : V3} {t2 : ByteArray} {c2 : Int} {a' b' : V3} (hx : H x (.is (.agg #[.string t1, .int .i64 c1, .int .i64 a.k, .int .i64 a.n, .string a.s, .int .i64 b.k, .int .i64 b.n, .string b.s])))
    (hy : H y (.is (.agg #[.string t2, .int .i64 c2, .int .i64 a'.k, .int .i64 a'.n, .string a'.s, .int .i64 b'.k, .int .i64 b'.n, .string b'.s]))) :
    Ob P L Φ H ⟨dst, .binOp .eql t x y yt, ty, pos, after, g⟩ (.is (.bool (seq t1 t2 && ((c1 == c2) && (veq a.k a.n a.s a'.k a'.n a'.s && veq b.k b.n b.s b'.k b'.n b'.s))))) :=
  ob_bin hx hy fun w => by
  rw [Sem.run_bind, run_eqGuard_agg _ _ _ _ _ _ _ h.rg, Result.andThen_ok, run_eql_struct, run_req h, Result.andThen_ok]
end
end Go.Vc

namespace Go.Vc
open Go
section
variable {P : Program} {L : List Own} {Φ : List (World → Prop)} {H : Know} {dst : Option Nat} {ty : TypeId} {pos : String} {after : Array Edge} {g : Option (Nat × Bool)}
theorem ob_sliceHi {t e : TypeId} {x hi : Operand} {a : Option Addr} {len cap sz : Nat} {k : IntKind} {n : Int} (hu : P.underlying t = some (.slice e)) (hs : elSize P t = some sz) (hx : H x (.is (.slice a len cap))) (hh : H hi (.is (.int k n))) (h0 : 0 ≤ n) (h1 : n ≤ cap) :
    Ob P L Φ H ⟨dst, .slice t x none (some hi) none, ty, pos, after, g⟩ (.is (.slice a n.toNat cap)) :=
  ob_is fun E w ρ hp => by
    have e1 : ρ x = .slice a len cap := hp.x x _ (by simp [Op.operands]) hx
    have e2 : ρ hi = .int k n := hp.x hi _ (by simp [Op.operands]) hh
    have hel : P.elem t = e := by unfold Program.elem; rw [hu]
    have hu' : P.underlying t = some (.slice (P.elem t)) := by rw [hel]; exact hu
    have hsz : (sizeOf (P.elem t)).run P w = .ok sz w := by
      unfold elSize at hs
      rw [hu] at hs
      rw [hel]
      simp only at hs
      cases hi' : P.info? e with
      | none => rw [hi'] at hs; cases hs
      | some i => rw [hi', Option.map_some, Option.some.injEq] at hs; simp [Go.sizeOf, typeInfo, hi', hs]
    have ha : (if cap = 0 then a else a.map (·.add (0 * sz))) = a := by
      split
      · rfl
      · cases a with
        | none => rfl
        | some p => simp [add_0]
    simp only [execOp, e1, e2, Option.map_some, Option.map_none]
    have h := run_slice_h (P := P) w t a len cap hu' k n h0 h1
    have hsl : (Instr.sliceAt t (.slice a len cap) none (some (.int k n)) none).run P w = .ok (.slice a n.toNat cap) w := by
      rw [run_sliceAt_slice (P := P) w t _ _ _ _ hu', h, hsz, Result.andThen_ok]
      simp only [sliced, Nat.sub_zero]
      rw [ha]
    simp [hsl]
end
theorem row_take {vals : List V3} {a : Option Addr} {len n : Nat} {w : World} (h : RowR vals a len w) (hn : n ≤ len) : RowR (vals.take n) a n w := by
  obtain ⟨hl, hk⟩ := h
  refine ⟨by simp; omega, fun hne => ?_⟩
  obtain ⟨b, o, ha, hr⟩ := hk (by omega)
  refine ⟨b, o, ha, fun i v hv => hr i v ?_⟩
  rw [List.getElem?_take] at hv
  split at hv
  · exact hv
  · cases hv
structure Rd where
  t : ByteArray
  col : Int
  lo : V3
  hi : V3
abbrev rdV (r : Rd) : Value := .agg #[.string r.t, .int .i64 r.col, .int .i64 r.lo.k, .int .i64 r.lo.n, .string r.lo.s, .int .i64 r.hi.k, .int .i64 r.hi.n, .string r.hi.s]
def wideCells (r : Rd) (lo hi : V3) (rv : Value) : List Value := [.string r.t, .int .i64 r.col, .int .i64 r.lo.k, .int .i64 r.lo.n, .string r.lo.s, .int .i64 r.hi.k, .int .i64 r.hi.n, .string r.hi.s, .int .i64 lo.k, .int .i64 lo.n, .string lo.s, .int .i64 hi.k, .int .i64 hi.n, .string hi.s, rv]
def WideR (r : Rd) (lo hi : V3) (vals : List V3) (v : Value) (w : World) : Prop := ∃ a len cap, v = .agg (wideCells r lo hi (.slice a len cap)).toArray ∧ len ≤ cap ∧ RowR vals a len w
section
variable {P : Program} {c : Ctx} {K : List (Nat × Ty)} {L : List Own} {Φ : List (World → Prop)} {Q : Exit → Act → World → Prop}
theorem J.openWide {x : Code} {s : Nat} {r : Rd} {lo hi : V3} {vals : List V3} (h : look K s = some (.rep (WideR r lo hi vals)))
    (hj : ∀ a len cap b o, vals.length = len → (len ≠ 0 → a = some ⟨b, o, none⟩) → len ≤ cap → J P c ((s, .is (.agg (wideCells r lo hi (.slice a len cap)).toArray)) :: K) L (RowR vals a len :: Φ) x Q) : J P c K L Φ x Q := by
  refine J.open_ h ?_
  rintro v ⟨w, a, len, cap, rfl, hlc, hl, hk⟩
  obtain ⟨b, o, hbo⟩ : ∃ b o, len ≠ 0 → a = some ⟨b, o, none⟩ := by
    by_cases hn : len = 0
    · exact ⟨0, 0, fun h => absurd hn h⟩
    · obtain ⟨b, o, e, _⟩ := hk hn; exact ⟨b, o, fun _ => e⟩
  refine J.fact (RowR vals a len) (fun E w hG _ => ?_) (J.subΦ (Φ' := RowR vals a len :: Φ) (fun F hF => ?_) (hj a len cap b o hl hbo hlc))
  · intro w' hk'
    obtain ⟨a', len', cap', e, _, hK⟩ := hG _ List.mem_cons_self w' hk'
    have e2 := agg_inj e
    simp only [wideCells, List.cons.injEq, Value.slice.injEq, and_true, true_and] at e2
    obtain ⟨rfl, rfl, rfl⟩ := e2
    exact hK
  · rcases List.mem_cons.1 hF with rfl | hF
    · exact List.mem_cons_self
    · exact List.mem_cons_of_mem _ (List.mem_cons_of_mem _ hF)
end
section
variable {L : List Own} {Φ : List (World → Prop)}
theorem Sub.rowF {vals : List V3} {a : Option Addr} {len cap : Nat} (h : RowR vals a len ∈ Φ) : Sub L Φ (.is (.slice a len cap)) (.rep (RowS vals)) := fun E v w hf e => by
  rw [show v = _ from e]
  exact fun w' hk => ⟨a, len, cap, rfl, hf.2 _ h w' hk⟩
theorem Sub.newRow {vals : List V3} {cs : List Value} {e : TypeId} {n cap : Nat} (hn : vals.length = n) (hc : vals.flatMap V3.cells = cs) : Sub L Φ (.newSl (.cells cs.toArray e (0, 0)) n cap) (.rep (RowS vals)) := Sub.newSlG (en := V3.cells) (sz := 3) (fun _ => rfl) hn hc
theorem Sub.exsNil : Sub L Φ (.is (.slice none 0 0)) (.rep (ExsR [])) := fun E v w hf e => by
  rw [show v = _ from e]
  exact fun w' _ => ⟨none, 0, 0, rfl, rfl, fun h => absurd rfl h⟩
end
end Go.Vc

namespace Go.Vc
open Go
structure WideTy (P : Program) (tW tR tVs tV tI tJ tS : TypeId) : Prop extends ValTy P tV tI tJ tS where
  hR : P.underlying tR = some (.struct (P.fieldsOf tR))
  fR : (P.fieldsOf tR).map (fun f => (f.type, f.offset)) = #[(tS, 0), (tI, 1), (tV, 2), (tV, 5)]
  cR : P.cellsOf tR = 8
  hW : P.underlying tW = some (.struct (P.fieldsOf tW))
  fW : (P.fieldsOf tW).map (fun f => (f.type, f.offset)) = #[(tR, 0), (tV, 8), (tV, 11), (tVs, 14)]
  cW : P.cellsOf tW = 15
  hVs : P.underlying tVs = some (.slice tV)
  cVs : P.cellsOf tVs = 1
def rdOf {H : Type} : DataW H → Rd
  | .agg [.lit (.string t), .lit (.int _ c), a, b] => ⟨⟨t.toArray⟩, c, v3Of a, v3Of b⟩
  | _ => ⟨⟨#[]⟩, 0, ⟨0, 0, ⟨#[]⟩⟩, ⟨0, 0, ⟨#[]⟩⟩⟩
def wideOf {H : Type} : DataW H → Rd × V3 × V3 × List V3
  | .agg [r, a, b, row] => (rdOf r, v3Of a, v3Of b, rowOf row)
  | _ => (⟨⟨#[]⟩, 0, ⟨0, 0, ⟨#[]⟩⟩, ⟨0, 0, ⟨#[]⟩⟩⟩, ⟨0, 0, ⟨#[]⟩⟩, ⟨0, 0, ⟨#[]⟩⟩, [])
section
variable {H : Type} {enc : TypeId × Value → H} {P : Program} {w : World} {base : Nat} {spare : Nat → Bool} {held : Bool}
theorem read_rd {tW tR tVs tV tI tJ tS : TypeId} (T : WideTy P tW tR tVs tV tI tJ tS) {n : Nat} {cs : List Value} {x : DataW H × List MemPlace} (h : DataW.trod enc P w base spare held n tR cs = some x) :
    cs = (rdV (rdOf x.1)).cells.toList := by
  obtain ⟨xs, m, rfl, rfl, hl, hn, hf⟩ := DataW.trod_struct T.hR h
  obtain ⟨f0, a0, b0, c0⟩ := field_at T.fR (i := 0) rfl
  obtain ⟨f1, a1, b1, c1⟩ := field_at T.fR (i := 1) rfl
  obtain ⟨f2, a2, b2, c2⟩ := field_at T.fR (i := 2) rfl
  obtain ⟨f3, a3, b3, c3⟩ := field_at T.fR (i := 3) rfl
  have e0 := hf 0 f0 a0
  have e1 := hf 1 f1 a1
  have e2 := hf 2 f2 a2
  have e3 := hf 3 f3 a3
  have hsz : (P.fieldsOf tR).size = 4 := by have := congrArg Array.size T.fR; simpa using this
  rw [b0, c0, T.cS] at e0
  rw [b1, c1, T.cI] at e1
  rw [b2, c2, T.cV] at e2
  rw [b3, c3, T.cV] at e3
  rw [hsz] at hn
  rw [T.cR] at hl
  match xs, hn with
  | [x0, x1, x2, x3], _ =>
    obtain ⟨s, g0, q0, r0⟩ := DataW.trod_string T.hS (x := x0) e0
    obtain ⟨k, g1, q1, r1⟩ := DataW.trod_int T.hI (x := x1) e1
    obtain ⟨g2, _⟩ := read_val T.toValTy (x := x2) e2
    obtain ⟨g3, _⟩ := read_val T.toValTy (x := x3) e3
    match cs, hl with
    | [y0, y1, y2, y3, y4, y5, y6, y7], _ =>
      simp [V3.cells] at g0 g1 g2 g3
      obtain ⟨rfl, rfl, rfl⟩ := g2
      obtain ⟨rfl, rfl, rfl⟩ := g3
      subst g0 g1 q0 q1
      rfl
theorem read_wide {tW tR tVs tV tI tJ tS : TypeId} (T : WideTy P tW tR tVs tV tI tJ tS) {n : Nat} {cs : List Value} {x : DataW H × List MemPlace} (h : DataW.trod enc P w base spare held n tW cs = some x) :
    cs.length = 15 ∧ (wideOf x.1).2.2.2.length ≤ 9223372036854775807 ∧ WideR (wideOf x.1).1 (wideOf x.1).2.1 (wideOf x.1).2.2.1 (wideOf x.1).2.2.2 (.agg cs.toArray) w := by
  obtain ⟨xs, m, rfl, rfl, hl, hn, hf⟩ := DataW.trod_struct T.hW h
  obtain ⟨f0, a0, b0, c0⟩ := field_at T.fW (i := 0) rfl
  obtain ⟨f1, a1, b1, c1⟩ := field_at T.fW (i := 1) rfl
  obtain ⟨f2, a2, b2, c2⟩ := field_at T.fW (i := 2) rfl
  obtain ⟨f3, a3, b3, c3⟩ := field_at T.fW (i := 3) rfl
  have e0 := hf 0 f0 a0
  have e1 := hf 1 f1 a1
  have e2 := hf 2 f2 a2
  have e3 := hf 3 f3 a3
  have hsz : (P.fieldsOf tW).size = 4 := by have := congrArg Array.size T.fW; simpa using this
  rw [b0, c0, T.cR] at e0
  rw [b1, c1, T.cV] at e1
  rw [b2, c2, T.cV] at e2
  rw [b3, c3, T.cVs] at e3
  rw [hsz] at hn
  rw [T.cW] at hl
  match xs, hn with
  | [x0, x1, x2, x3], _ =>
    have g0 := read_rd T (x := x0) e0
    obtain ⟨g1, _⟩ := read_val T.toValTy (x := x1) e1
    obtain ⟨g2, _⟩ := read_val T.toValTy (x := x2) e2
    match cs, hl with
    | [y0, y1, y2, y3, y4, y5, y6, y7, y8, y9, y10, y11, y12, y13, y14], _ =>
      have e3' : DataW.trod enc P w base spare held m tVs [y14] = some x3 := by simpa using e3
      have key : ∃ a len cap, y14 = .slice a len cap ∧ len ≤ cap ∧ cap ≤ 9223372036854775807 := by
        rcases DataW.trod_slice T.hVs (x := x3) e3' with ⟨g5, _⟩ | ⟨a, len, cap, _, _, _, _, g5, _, _, hlc, hmx, _⟩
        · simp at g5; subst g5; exact ⟨none, 0, 0, rfl, Nat.le_refl _, by omega⟩
        · simp at g5; subst g5; exact ⟨some a, len, cap, rfl, hlc, by unfold maxLen at hmx; omega⟩
      obtain ⟨a, len, cap, rfl, hlc, hmx⟩ := key
      obtain ⟨hr, _⟩ := read_row (v := .slice a len cap) T.toValTy T.hVs e3' (fun cs e => by cases e)
      obtain ⟨a', len', cap', e, hR⟩ := hr
      injection e with e1 e2 e3
      subst e1 e2 e3
      simp [V3.cells, Value.cells] at g0 g1 g2
      obtain ⟨rfl, rfl, rfl, rfl, rfl, rfl, rfl, rfl⟩ := g0
      obtain ⟨rfl, rfl, rfl⟩ := g1
      obtain ⟨rfl, rfl, rfl⟩ := g2
      have hll : (rowOf x3.1).length = len := hR.1
      exact ⟨rfl, by show (rowOf x3.1).length ≤ _; omega, a, len, cap, rfl, hlc, hR⟩
theorem pers_wide {tW tR tVs tV tI tJ tS : TypeId} (T : WideTy P tW tR tVs tV tI tJ tS) (hl : laidOutB P = true) (hr : P.readableRec tW = true ∧ tW < P.types.size) {W : World} {v : Value} {d : DataW H} {ps : List MemPlace}
    (h : DataW.Trod enc P W 0 (fun _ => true) true tW v d ps) (hlt : ∀ p ∈ ps, p.block < W.heap.size) : ∃ r lo hi vals, Pers noX W (WideR r lo hi vals v) ∧ vals.length ≤ 9223372036854775807 := by
  obtain ⟨n, hn⟩ := h
  obtain ⟨h15, hlen, h3⟩ := read_wide T hn
  have hv : ∃ cs, v = .agg cs := by
    cases v with
    | agg cs => exact ⟨cs, rfl⟩
    | _ => simp [Value.cells] at h15
  obtain ⟨cs, rfl⟩ := hv
  refine ⟨(wideOf d).1, (wideOf d).2.1, (wideOf d).2.2.1, (wideOf d).2.2.2, fun W' hk => ?_, hlen⟩
  have := DataW.trod_stays (sp' := fun _ => true) (kids_book hl hr.1) (book_sized hr.1) (fun h => by cases h) ⟨hr.2, book_self tW⟩ hn (fun x hx => hk.below.same (hlt x hx)) (fun _ _ => rfl)
  obtain ⟨_, _, h3'⟩ := read_wide T this
  simpa [Value.cells] using h3'
end
end Go.Vc

namespace Go.Vc
open Go Go.RowKit
theorem Keeps.of_below {w w' : World} (h : Below w.heap.size w w') : Keeps noX w w' :=
  ⟨h.os, h.tape, h.output, h.size, fun b hb _ => h.block b hb, fun b cs _ _ hb => ⟨cs, (h.block b (lt_of_get hb)).trans hb, rfl⟩⟩
theorem tyAll_is {E : Nat → Prop} {w : World} : ∀ {ws vs : List Value}, TyAll E w (ws.map Ty.is) vs → vs = ws
  | [], [], _ => rfl
  | _ :: _, _ :: _, ⟨h1, h2⟩ => by rw [tyAll_is h2, show _ = _ from h1]
  | [], _ :: _, h => h.elim
  | _ :: _, [], h => h.elim
theorem CallTy.ofShelf {P : Program} {f : FuncId} {ws : List Value} {r : Value} (he : ∀ args w, (callFunc f args).run P w = .ok (.enter f args) w)
    (h : ∀ w, Calls P f ws.toArray w fun e w' => e = .returned r ∧ Below w.heap.size w w') : CallTy P f (ws.map Ty.is) (.is r) :=
  ⟨he, fun E w vs _ ht => by
    rw [tyAll_is ht]
    exact (h w).mono fun e w' ⟨h1, h2⟩ => ⟨r, h1, .of_below h2, rfl⟩⟩
theorem CallTy.ofShelf0 {P : Program} {f : FuncId} {ws : List Value} {r : Value} (he : ∀ args w, (callFunc f args).run P w = .ok (.enter f args) w)
    (h : ∀ w, Calls P f ws.toArray w fun e w' => e = .returned r ∧ w' = w) : CallTy P f (ws.map Ty.is) (.is r) :=
  .ofShelf he fun w => (h w).mono fun e w' ⟨h1, h2⟩ => ⟨h1, h2 ▸ .refl _ _⟩
section
variable {P : Program} {K : List (Nat × Ty)} {L : List Own} {Φ : List (World → Prop)} {fn : Func} {n : Nat} {X : Nat → Prop} {W : World}
theorem JX.ret2sub {t u : Nat} {T T' A B : Ty} (hres : fn.results = #[.tmp t, .tmp u]) (ho : (Ty.tup2 A B).out = true) (h : look K t = some T) (hS : Sub L Φ T A) (h' : look K u = some T') (hS' : Sub L Φ T' B) : JX ⟨n, X, noX, W⟩ K L Φ .ret (bodyPost P fn (Post X W (.tup2 A B))) :=
  JX.retOf ho fun _ _ _ hs => ⟨_, results_tmp2 hres _ _ _, _, _, rfl, hS _ _ _ ⟨hs.l, hs.f⟩ (hs.k t _ h), hS' _ _ _ ⟨hs.l, hs.f⟩ (hs.k u _ h')⟩
theorem Sub.isEq {V V' : Value} (h : V = V') : Sub L Φ (.is V) (.is V') := h ▸ Sub.rfl'
end
end Go.Vc

namespace Go.Vc
open Go
def AskR (nm : ByteArray) (cols : List C4) (ixs : List I4) (v : Value) (w : World) : Prop :=
  ∃ wa wl wc a len cap ia il ic, v = .agg [.slice wa wl wc, .string nm, .slice a len cap, .slice ia il ic].toArray ∧ RowG C4.cells 4 cols a len w ∧ RowG I4.cells 4 ixs ia il w
section
variable {P : Program} {c : Ctx} {K : List (Nat × Ty)} {L : List Own} {Φ : List (World → Prop)} {Q : Exit → Act → World → Prop}
theorem J.openAsk {x : Code} {s : Nat} {nm : ByteArray} {cols : List C4} {ixs : List I4} (h : look K s = some (.rep (AskR nm cols ixs)))
    (hj : ∀ wa wl wc a len cap b o ia il ic ib io, cols.length = len → (len ≠ 0 → a = some ⟨b, o, none⟩) → ixs.length = il → (il ≠ 0 → ia = some ⟨ib, io, none⟩) →
      J P c ((s, .is (.agg [.slice wa wl wc, .string nm, .slice a len cap, .slice ia il ic].toArray)) :: K) L (RowG C4.cells 4 cols a len :: RowG I4.cells 4 ixs ia il :: Φ) x Q) : J P c K L Φ x Q := by
  refine J.open_ h ?_
  rintro v ⟨w, wa, wl, wc, a, len, cap, ia, il, ic, rfl, ⟨hl, hk⟩, ⟨hil, hik⟩⟩
  obtain ⟨b, o, hbo⟩ : ∃ b o, len ≠ 0 → a = some ⟨b, o, none⟩ := by
    by_cases hn : len = 0
    · exact ⟨0, 0, fun h => absurd hn h⟩
    · obtain ⟨b, o, e, _⟩ := hk hn; exact ⟨b, o, fun _ => e⟩
  obtain ⟨ib, io, hibo⟩ : ∃ b o, il ≠ 0 → ia = some ⟨b, o, none⟩ := by
    by_cases hn : il = 0
    · exact ⟨0, 0, fun h => absurd hn h⟩
    · obtain ⟨b, o, e, _⟩ := hik hn; exact ⟨b, o, fun _ => e⟩
  refine J.fact (RowG I4.cells 4 ixs ia il) (fun E w hG _ => ?_) (J.fact (RowG C4.cells 4 cols a len) (fun E w hG _ => ?_) (J.subΦ (Φ' := RowG C4.cells 4 cols a len :: RowG I4.cells 4 ixs ia il :: Φ) (fun F hF => ?_) (hj wa wl wc a len cap b o ia il ic ib io hl hbo hil hibo)))
  · intro w' hk'
    obtain ⟨wa', wl', wc', a', len', cap', ia', il', ic', e, _, hK⟩ := hG _ List.mem_cons_self w' hk'
    have e2 := agg_inj e
    simp only [List.cons.injEq, Value.slice.injEq, and_true, true_and] at e2
    obtain ⟨_, ⟨rfl, rfl, rfl⟩, ⟨rfl, rfl, rfl⟩⟩ := e2
    exact hK
  · intro w' hk'
    obtain ⟨wa', wl', wc', a', len', cap', ia', il', ic', e, hK, _⟩ := hG _ (List.mem_cons_of_mem _ List.mem_cons_self) w' hk'
    have e2 := agg_inj e
    simp only [List.cons.injEq, Value.slice.injEq, and_true, true_and] at e2
    obtain ⟨_, ⟨rfl, rfl, rfl⟩, ⟨rfl, rfl, rfl⟩⟩ := e2
    exact hK
  · rcases List.mem_cons.1 hF with rfl | hF
    · exact List.mem_cons_self
    · rcases List.mem_cons.1 hF with rfl | hF
      · exact List.mem_cons_of_mem _ List.mem_cons_self
      · exact List.mem_cons_of_mem _ (List.mem_cons_of_mem _ (List.mem_cons_of_mem _ hF))
end
structure AskTy (P : Program) (tA tX tT tC tI tCs tIs tS tN tB : TypeId) : Prop where
  hA : P.underlying tA = some (.struct (P.fieldsOf tA))
  fA : (P.fieldsOf tA).map (fun f => (f.type, f.offset)) = #[(tX, 0), (tT, 1), (tIs, 3)]
  cA : P.cellsOf tA = 4
  hX : ∃ e, P.underlying tX = some (.slice e)
  cX : P.cellsOf tX = 1
  hT : P.underlying tT = some (.struct (P.fieldsOf tT))
  fT : (P.fieldsOf tT).map (fun f => (f.type, f.offset)) = #[(tS, 0), (tCs, 1)]
  cT : P.cellsOf tT = 2
  hCs : P.underlying tCs = some (.slice tC)
  cCs : P.cellsOf tCs = 1
  hIs : P.underlying tIs = some (.slice tI)
  cIs : P.cellsOf tIs = 1
  hC : P.underlying tC = some (.struct (P.fieldsOf tC))
  fC : (P.fieldsOf tC).map (fun f => (f.type, f.offset)) = #[(tS, 0), (tN, 1), (tB, 2), (tB, 3)]
  cC : P.cellsOf tC = 4
  hI : P.underlying tI = some (.struct (P.fieldsOf tI))
  fI : (P.fieldsOf tI).map (fun f => (f.type, f.offset)) = #[(tS, 0), (tS, 1), (tN, 2), (tB, 3)]
  cI : P.cellsOf tI = 4
  hS : P.underlying tS = some .string
  cS : P.cellsOf tS = 1
  hN : P.underlying tN = some (.int .i64)
  cN : P.cellsOf tN = 1
  hB : P.underlying tB = some .bool
  cB : P.cellsOf tB = 1
def c4Of {H : Type} : DataW H → C4
  | .agg [.lit (.string n), .lit (.int _ t), .lit (.bool a), .lit (.bool b)] => ⟨⟨n.toArray⟩, t, a, b⟩
  | _ => c4D
def i4Of {H : Type} : DataW H → I4
  | .agg [.lit (.string n), .lit (.string t), .lit (.int _ c), .lit (.bool b)] => ⟨⟨n.toArray⟩, ⟨t.toArray⟩, c, b⟩
  | _ => i4D
def askOf {H : Type} : DataW H → ByteArray × DataW H × DataW H
  | .agg [_, .agg [.lit (.string n), cs], is] => (⟨n.toArray⟩, cs, is)
  | _ => (⟨#[]⟩, .nil, .nil)
section
variable {H : Type} {enc : TypeId × Value → H} {P : Program} {w : World} {base : Nat} {spare : Nat → Bool} {held : Bool}
theorem read_c4 {tA tX tT tC tI tCs tIs tS tN tB : TypeId} (T : AskTy P tA tX tT tC tI tCs tIs tS tN tB) {n : Nat} {cs : List Value} {x : DataW H × List MemPlace} (h : DataW.trod enc P w base spare held n tC cs = some x) :
    cs = (c4Of x.1).cells ∧ True := by
  obtain ⟨xs, m, rfl, rfl, hl, hn, hf⟩ := DataW.trod_struct T.hC h
  obtain ⟨f0, a0, b0, c0⟩ := field_at T.fC (i := 0) rfl
  obtain ⟨f1, a1, b1, c1⟩ := field_at T.fC (i := 1) rfl
  obtain ⟨f2, a2, b2, c2⟩ := field_at T.fC (i := 2) rfl
  obtain ⟨f3, a3, b3, c3⟩ := field_at T.fC (i := 3) rfl
  have e0 := hf 0 f0 a0
  have e1 := hf 1 f1 a1
  have e2 := hf 2 f2 a2
  have e3 := hf 3 f3 a3
  have hsz : (P.fieldsOf tC).size = 4 := by have := congrArg Array.size T.fC; simpa using this
  rw [b0, c0, T.cS] at e0
  rw [b1, c1, T.cN] at e1
  rw [b2, c2, T.cB] at e2
  rw [b3, c3, T.cB] at e3
  rw [hsz] at hn
  rw [T.cC] at hl
  match xs, hn with
  | [x0, x1, x2, x3], _ =>
    obtain ⟨k, g0, q0, r0⟩ := DataW.trod_string T.hS (x := x0) e0
    obtain ⟨l, g1, q1, r1⟩ := DataW.trod_int T.hN (x := x1) e1
    obtain ⟨s, g2, q2⟩ := DataW.trod_bool T.hB (x := x2) e2
    obtain ⟨t, g3, q3⟩ := DataW.trod_bool T.hB (x := x3) e3
    match cs, hl with
    | [y0, y1, y2, y3], _ =>
      simp at g0 g1 g2 g3
      subst g0 g1 g2 g3 q0 q1 q2 q3
      exact ⟨rfl, trivial⟩
theorem read_i4 {tA tX tT tC tI tCs tIs tS tN tB : TypeId} (T : AskTy P tA tX tT tC tI tCs tIs tS tN tB) {n : Nat} {cs : List Value} {x : DataW H × List MemPlace} (h : DataW.trod enc P w base spare held n tI cs = some x) :
    cs = (i4Of x.1).cells ∧ True := by
  obtain ⟨xs, m, rfl, rfl, hl, hn, hf⟩ := DataW.trod_struct T.hI h
  obtain ⟨f0, a0, b0, c0⟩ := field_at T.fI (i := 0) rfl
  obtain ⟨f1, a1, b1, c1⟩ := field_at T.fI (i := 1) rfl
  obtain ⟨f2, a2, b2, c2⟩ := field_at T.fI (i := 2) rfl
  obtain ⟨f3, a3, b3, c3⟩ := field_at T.fI (i := 3) rfl
  have e0 := hf 0 f0 a0
  have e1 := hf 1 f1 a1
  have e2 := hf 2 f2 a2
  have e3 := hf 3 f3 a3
  have hsz : (P.fieldsOf tI).size = 4 := by have := congrArg Array.size T.fI; simpa using this
  rw [b0, c0, T.cS] at e0
  rw [b1, c1, T.cS] at e1
  rw [b2, c2, T.cN] at e2
  rw [b3, c3, T.cB] at e3
  rw [hsz] at hn
  rw [T.cI] at hl
  match xs, hn with
  | [x0, x1, x2, x3], _ =>
    obtain ⟨k, g0, q0, r0⟩ := DataW.trod_string T.hS (x := x0) e0
    obtain ⟨l, g1, q1, r1⟩ := DataW.trod_string T.hS (x := x1) e1
    obtain ⟨s, g2, q2, r2⟩ := DataW.trod_int T.hN (x := x2) e2
    obtain ⟨t, g3, q3⟩ := DataW.trod_bool T.hB (x := x3) e3
    match cs, hl with
    | [y0, y1, y2, y3], _ =>
      simp at g0 g1 g2 g3
      subst g0 g1 g2 g3 q0 q1 q2 q3
      exact ⟨rfl, trivial⟩
theorem slice_key {e tVs : TypeId} (hVs : P.underlying tVs = some (.slice e)) {n : Nat} {y : Value} {x : DataW H × List MemPlace} (h : DataW.trod enc P w base spare held n tVs [y] = some x) : ∃ a len cap, y = .slice a len cap := by
  rcases DataW.trod_slice hVs h with ⟨g5, _⟩ | ⟨a, len, cap, _, _, _, _, g5, _⟩
  · simp at g5; exact ⟨none, 0, 0, g5⟩
  · simp at g5; exact ⟨some a, len, cap, g5⟩
theorem read_ask {tA tX tT tC tI tCs tIs tS tN tB : TypeId} (T : AskTy P tA tX tT tC tI tCs tIs tS tN tB) {n : Nat} {cs : List Value} {x : DataW H × List MemPlace} (h : DataW.trod enc P w base spare held n tA cs = some x) :
    cs.length = 4 ∧ AskR (askOf x.1).1 (slOf c4Of (askOf x.1).2.1) (slOf i4Of (askOf x.1).2.2) (.agg cs.toArray) w := by
  obtain ⟨xs, m, rfl, rfl, hl, hn, hf⟩ := DataW.trod_struct T.hA h
  obtain ⟨f0, a0, b0, c0⟩ := field_at T.fA (i := 0) rfl
  obtain ⟨f1, a1, b1, c1⟩ := field_at T.fA (i := 1) rfl
  obtain ⟨f2, a2, b2, c2⟩ := field_at T.fA (i := 2) rfl
  have e0 := hf 0 f0 a0
  have e1 := hf 1 f1 a1
  have e2 := hf 2 f2 a2
  have hsz : (P.fieldsOf tA).size = 3 := by have := congrArg Array.size T.fA; simpa using this
  rw [b0, c0, T.cX] at e0
  rw [b1, c1, T.cT] at e1
  rw [b2, c2, T.cIs] at e2
  rw [hsz] at hn
  rw [T.cA] at hl
  match xs, hn with
  | [x0, x1, x2], _ =>
    match cs, hl with
    | [y0, y1, y2, y3], _ =>
      obtain ⟨eX, hX⟩ := T.hX
      have e0' : DataW.trod enc P w base spare held m tX [y0] = some x0 := by simpa using e0
      have e1' : DataW.trod enc P w base spare held m tT [y1, y2] = some x1 := by simpa using e1
      have e2' : DataW.trod enc P w base spare held m tIs [y3] = some x2 := by simpa using e2
      obtain ⟨wa, wl, wc, rfl⟩ := slice_key hX e0'
      obtain ⟨ia, il, ic, rfl⟩ := slice_key T.hIs e2'
      obtain ⟨ts, k, rfl, rfl, hl1, hn1, hf1⟩ := DataW.trod_struct T.hT e1'
      obtain ⟨p0, u0, v0, w0⟩ := field_at T.fT (i := 0) rfl
      obtain ⟨p1, u1, v1, w1⟩ := field_at T.fT (i := 1) rfl
      have d0 := hf1 0 p0 u0
      have d1 := hf1 1 p1 u1
      have hsz1 : (P.fieldsOf tT).size = 2 := by have := congrArg Array.size T.fT; simpa using this
      rw [v0, w0, T.cS] at d0
      rw [v1, w1, T.cCs] at d1
      rw [hsz1] at hn1
      match ts, hn1 with
      | [t0, t1], _ =>
        have d1' : DataW.trod enc P w base spare held k tCs [y2] = some t1 := by simpa using d1
        obtain ⟨s, g0, q0, r0⟩ := DataW.trod_string T.hS (x := t0) d0
        obtain ⟨a, len, cap, rfl⟩ := slice_key T.hCs d1'
        simp at g0
        subst g0 q0
        obtain ⟨zs, h1, h2, _⟩ := read_sl (en := C4.cells) (of := c4Of) (rng := fun _ => True) T.cC (by omega) (fun n cs x => read_c4 T) T.hCs (v := .slice a len cap) d1' (fun cs e => by cases e)
        obtain ⟨zi, k1, k2, _⟩ := read_sl (en := I4.cells) (of := i4Of) (rng := fun _ => True) T.cI (by omega) (fun n cs x => read_i4 T) T.hIs (v := .slice ia il ic) e2' (fun cs e => by cases e)
        have ez : slOf c4Of t1.1 = zs := by
          rcases h1 with ⟨h1, rfl⟩ | ⟨es, sp, h1, rfl⟩ <;> rw [h1] <;> rfl
        have ei : slOf i4Of x2.1 = zi := by
          rcases k1 with ⟨h1, rfl⟩ | ⟨es, sp, h1, rfl⟩ <;> rw [h1] <;> rfl
        obtain ⟨a', l', c', e', hR⟩ := h2
        injection e' with e1 e2 e3
        subst e1 e2 e3
        obtain ⟨a', l', c', e', hI⟩ := k2
        injection e' with e1 e2 e3
        subst e1 e2 e3
        refine ⟨rfl, wa, wl, wc, a, len, cap, ia, il, ic, rfl, ?_, ?_⟩
        · show RowG C4.cells 4 (slOf c4Of t1.1) a len w
          rw [ez]; exact hR
        · show RowG I4.cells 4 (slOf i4Of x2.1) ia il w
          rw [ei]; exact hI
theorem pers_ask {tA tX tT tC tI tCs tIs tS tN tB : TypeId} (T : AskTy P tA tX tT tC tI tCs tIs tS tN tB) (hl : laidOutB P = true) (hr : P.readableRec tA = true ∧ tA < P.types.size) {W : World} {v : Value} {d : DataW H} {ps : List MemPlace}
    (h : DataW.Trod enc P W 0 (fun _ => true) true tA v d ps) (hlt : ∀ p ∈ ps, p.block < W.heap.size) : Pers noX W (AskR (askOf d).1 (slOf c4Of (askOf d).2.1) (slOf i4Of (askOf d).2.2) v) := by
  obtain ⟨n, hn⟩ := h
  obtain ⟨h4, h3⟩ := read_ask T hn
  have hv : ∃ cs, v = .agg cs := by
    cases v with
    | agg cs => exact ⟨cs, rfl⟩
    | _ => simp [Value.cells] at h4
  obtain ⟨cs, rfl⟩ := hv
  intro W' hk
  have := DataW.trod_stays (sp' := fun _ => true) (kids_book hl hr.1) (book_sized hr.1) (fun h => by cases h) ⟨hr.2, book_self tA⟩ hn (fun x hx => hk.below.same (hlt x hx)) (fun _ _ => rfl)
  obtain ⟨_, h3'⟩ := read_ask T this
  simpa [Value.cells] using h3'
end
end Go.Vc

namespace Go.Vc
open Go
def sb (s : ByteArray) (i : Nat) : Int := ((s.data.toList.getD i 0).toNat : Int)
def bC (b : UInt8) : List Value := [.int .u8 b.toNat]
theorem bC_len (b : UInt8) : (bC b).length = 1 := rfl
theorem sb_lt (s : ByteArray) (i : Nat) : 0 ≤ sb s i ∧ sb s i < 256 := by
  unfold sb
  have := (s.data.toList.getD i 0).toNat_lt
  omega
section
variable {P : Program} {L : List Own} {Φ : List (World → Prop)} {H : Know} {dst : Option Nat} {ty : TypeId} {pos : String} {after : Array Edge} {g : Option (Nat × Bool)}
theorem ob_sindex {t : TypeId} {x y : Operand} {s : ByteArray} {k : IntKind} {i : Int} (hu : P.underlying t = some .string) (hx : H x (.is (.string s))) (hy : H y (.is (.int k i))) (h0 : 0 ≤ i) (h1 : i < s.size) :
    Ob P L Φ H ⟨dst, .index t x y, ty, pos, after, g⟩ (.is (.int .u8 (sb s i.toNat))) :=
  ob_is fun E w ρ hp => by
    have e1 : ρ x = .string s := hp.x x _ (by simp [Op.operands]) hx
    have e2 : ρ y = .int k i := hp.x y _ (by simp [Op.operands]) hy
    have h2 : i.toNat < s.data.size := by have : s.size = s.data.size := rfl; omega
    have e3 : (s[i.toNat]'(by have : s.size = s.data.size := rfl; omega)).toNat = (s.data.toList.getD i.toNat 0).toNat := by
      rw [List.getD_eq_getElem?_getD, List.getElem?_eq_getElem (by simpa using h2)]
      simp
      rfl
    simp only [execOp, e1, e2]
    rw [show (do pure (Next.value (← Instr.index t (.string s) (.int k i))) : Sem Next) = (Instr.index t (.string s) (.int k i)).bind fun a => pure (Next.value a) from rfl]
    simp only [Sem.run_bind', run_index_string w t s k i hu, dif_pos (⟨h0, h1⟩ : 0 ≤ i ∧ i < s.size), Result.andThen_ok, Sem.run_pure]
    rw [e3]
    rfl
theorem ob_sslice {t : TypeId} {x lo hi : Operand} {s : ByteArray} {k k' : IntKind} {i j : Int} (hu : P.underlying t = some .string) (hx : H x (.is (.string s))) (hl : H lo (.is (.int k i))) (hh : H hi (.is (.int k' j))) (h0 : 0 ≤ i) (h1 : i ≤ j) (h2 : j ≤ s.size) :
    Ob P L Φ H ⟨dst, .slice t x (some lo) (some hi) none, ty, pos, after, g⟩ (.is (.string (s.extract i.toNat j.toNat))) :=
  ob_is fun E w ρ hp => by
    have e1 : ρ x = .string s := hp.x x _ (by simp [Op.operands]) hx
    have e2 : ρ lo = .int k i := hp.x lo _ (by simp [Op.operands]) hl
    have e3 : ρ hi = .int k' j := hp.x hi _ (by simp [Op.operands]) hh
    have h := run_slice_string (P := P) w t s k k' i j hu h0 h1 h2
    simp [execOp, e1, e2, e3, run_sliceAt_string w t _ _ _ _ hu, h]
theorem ob_ssliceLo {t : TypeId} {x lo : Operand} {s : ByteArray} {k : IntKind} {i : Int} (hu : P.underlying t = some .string) (hx : H x (.is (.string s))) (hl : H lo (.is (.int k i))) (h0 : 0 ≤ i) (h2 : i ≤ s.size) :
    Ob P L Φ H ⟨dst, .slice t x (some lo) none none, ty, pos, after, g⟩ (.is (.string (s.extract i.toNat s.size))) :=
  ob_is fun E w ρ hp => by
    have e1 : ρ x = .string s := hp.x x _ (by simp [Op.operands]) hx
    have e2 : ρ lo = .int k i := hp.x lo _ (by simp [Op.operands]) hl
    have h := run_slice_string_from_if (P := P) w t s k i hu
    rw [if_pos ⟨h0, h2⟩] at h
    simp [execOp, e1, e2, run_sliceAt_string w t _ _ _ _ hu, h]
theorem ob_ssliceHi {t : TypeId} {x hi : Operand} {s : ByteArray} {k : IntKind} {j : Int} (hu : P.underlying t = some .string) (hx : H x (.is (.string s))) (hh : H hi (.is (.int k j))) (h0 : 0 ≤ j) (h2 : j ≤ s.size) :
    Ob P L Φ H ⟨dst, .slice t x none (some hi) none, ty, pos, after, g⟩ (.is (.string (s.extract 0 j.toNat))) :=
  ob_is fun E w ρ hp => by
    have e1 : ρ x = .string s := hp.x x _ (by simp [Op.operands]) hx
    have e2 : ρ hi = .int k j := hp.x hi _ (by simp [Op.operands]) hh
    have h := run_slice_string_to_if (P := P) w t s k j hu
    rw [if_pos ⟨h0, h2⟩] at h
    simp [execOp, e1, e2, run_sliceAt_string w t _ _ _ _ hu, h]
theorem ob_sadd {xt yt : TypeId} {x y : Operand} {s t : ByteArray} (hx : H x (.is (.string s))) (hy : H y (.is (.string t))) (h : s.size + t.size ≤ 9223372036854775807) :
    Ob P L Φ H ⟨dst, .binOp .add xt x y yt, ty, pos, after, g⟩ (.is (.string (s ++ t))) :=
  ob_bin hx hy fun w => by
    have h1 : ¬ (((s.size + t.size : Nat) : Int) > IntKind.i64.max) := by
      have : IntKind.i64.max = 9223372036854775807 := rfl
      omega
    simp only [eqGuard, binOp, Op.stringOp, if_neg h1]
    simp
theorem row_str {bs : List UInt8} {a : Option Addr} {len cap : Nat} {w : World} (h : RowG bC 1 bs a len w) : (Conv.bytesToString (.slice a len cap)).run P w = .ok (.string ⟨bs.toArray⟩) w := by
  obtain ⟨hl, hk⟩ := h
  cases a with
  | none =>
    have : len = 0 := by
      rcases Nat.eq_zero_or_pos len with h | h
      · exact h
      · obtain ⟨b, o, e, _⟩ := hk (by omega); cases e
    subst this
    have : bs = [] := List.length_eq_zero_iff.1 hl
    subst this
    rfl
  | some a =>
    have hc : (loadCells a len).run P w = .ok ((bs.map fun b => (b.toNat : Int)).map (Value.int .u8)).toArray w := by
      have := run_loadCells_list (P := P) (w := w) a ((bs.map fun b => (b.toNat : Int)).map (Value.int .u8)) (fun j v hj => by
        have hj' : j < bs.length := by
          have := (List.getElem?_eq_some_iff.1 hj).1
          simpa using this
        obtain ⟨b, o, e, hr⟩ := hk (by omega)
        injection e with e
        subst e
        have := hr j bs[j] (List.getElem?_eq_getElem hj') 0 (.int .u8 bs[j].toNat) rfl
        rw [Nat.one_mul, Nat.add_zero] at this
        rw [add_at]
        rw [this, ← hj]
        simp [List.getElem?_eq_getElem hj'])
      simp only [List.length_map, hl] at this
      exact this
    rw [run_bytesToString w a len cap _ hc, foldl_push_byteCells]
    simp
theorem ob_str {s t e : TypeId} {x : Operand} {bs : List UInt8} {a : Option Addr} {len cap : Nat} (hs : P.underlying s = some (.slice e)) (he : P.underlying e = some (.int .u8)) (hd : P.underlying t = some .string) (hx : H x (.is (.slice a len cap))) (hF : RowG bC 1 bs a len ∈ Φ) :
    Ob P L Φ H ⟨dst, .convert s t x, ty, pos, after, g⟩ (.is (.string ⟨bs.toArray⟩)) :=
  ob_is fun E w ρ hp => by
    have e1 : ρ x = .slice a len cap := hp.x x _ (by simp [Op.operands]) hx
    have h1 := run_convert_bytes_string (P := P) w s t e a len cap hs he hd
    rw [row_str (hp.f _ hF).now] at h1
    simp [execOp, e1, h1]
theorem ob_strR {s t e : TypeId} {x : Operand} {bs : List UInt8} (hs : P.underlying s = some (.slice e)) (he : P.underlying e = some (.int .u8)) (hd : P.underlying t = some .string) (hx : H x (.rep (SlG bC 1 bs))) :
    Ob P L Φ H ⟨dst, .convert s t x, ty, pos, after, g⟩ (.is (.string ⟨bs.toArray⟩)) :=
  ob_is fun E w ρ hp => by
    obtain ⟨a, len, cap, e1, hr⟩ : SlG bC 1 bs (ρ x) w := (hp.x x _ (by simp [Op.operands]) hx : Pers E w _).now
    have h1 := run_convert_bytes_string (P := P) w s t e a len cap hs he hd
    rw [row_str hr] at h1
    simp [execOp, e1, h1]
theorem ob_bytes {s t e : TypeId} {x : Operand} {b : ByteArray} (hs : P.underlying s = some .string) (hd : P.underlying t = some (.slice e)) (he : P.underlying e = some (.int .u8)) (hx : H x (.is (.string b))) :
    Ob P L Φ H ⟨dst, .convert s t x, ty, pos, after, g⟩ (.rep (SlG bC 1 b.data.toList)) := fun E w ρ hp => by
  have e1 : ρ x = .string b := hp.x x _ (by simp [Op.operands]) hx
  have h := run_bytes_of_string (P := P) w s t e b hs hd he
  have hrun : (execOp ρ ⟨dst, .convert s t x, ty, pos, after, g⟩).run P w = .ok (.value (.slice (some ⟨w.heap.size, 0, none⟩) b.size (grownCap w b.size 0 e))) (w.drew.alloc (.cells (bytesRow b (grownCap w b.size 0 e)) e ((bytesRow b (grownCap w b.size 0 e)).size, (bytesRow b (grownCap w b.size 0 e)).size + 1))) := by
    simp [execOp, e1, h]
  rw [hrun]
  refine ⟨(Keeps.drew w).trans (Keeps.alloc _ _), fun w' hk => ⟨_, _, _, rfl, rfl, fun _ => ⟨_, _, rfl, fun i u hi j v hj => ?_⟩⟩⟩
  have hnE : ¬ E w.heap.size := fun h => absurd (hp.wf _ h) (Nat.lt_irrefl _)
  have hb : (w.drew.alloc (.cells (bytesRow b (grownCap w b.size 0 e)) e ((bytesRow b (grownCap w b.size 0 e)).size, (bytesRow b (grownCap w b.size 0 e)).size + 1))).heap[w.heap.size]? = some (.cells (bytesRow b (grownCap w b.size 0 e)) e ((bytesRow b (grownCap w b.size 0 e)).size, (bytesRow b (grownCap w b.size 0 e)).size + 1)) := heap_alloc_at w.drew _
  have hb' := hk.get hb hnE
  rw [cell_of_blk hb']
  have hi' : i < b.data.size := by
    have := (List.getElem?_eq_some_iff.1 hi).1
    simpa using this
  match j, hj with
  | 0, hj =>
    simp only [bC, List.getElem?_cons_zero, Option.some.injEq] at hj
    subst hj
    unfold bytesRow
    simp only [Nat.zero_add, Nat.one_mul, Nat.add_zero]
    rw [Array.getElem?_append_left (by simpa using hi')]
    have hu : b.data[i]? = some u := by simpa using hi
    simp [hu]
  | j + 1, hj => simp [bC] at hj
end
end Go.Vc

namespace Go.Vc
open Go
structure CallF (P : Program) (f : FuncId) (Fs : List (World → Prop)) (As : List Ty) (R : Ty) : Prop where
  enter : ∀ args w, (callFunc f args).run P w = .ok (.enter f args) w
  calls : ∀ (E : Nat → Prop) (w : World) (vs : List Value), (∀ b, E b → b < w.heap.size) → (∀ F ∈ Fs, Pers E w F) → TyAll E w As vs →
    Calls P f vs.toArray w fun e w' => ∃ v, e = .returned v ∧ Keeps noX w w' ∧ R.p E v w'
theorem CallF.ty {P : Program} {f : FuncId} {As : List Ty} {R : Ty} (h : CallF P f [] As R) : CallTy P f As R := ⟨h.enter, fun E w vs hw ht => h.calls E w vs hw (fun _ h => by cases h) ht⟩
theorem CallTy.toF {P : Program} {f : FuncId} {Fs : List (World → Prop)} {As : List Ty} {R : Ty} (h : CallTy P f As R) : CallF P f Fs As R := ⟨h.enter, fun E w vs hw _ ht => h.calls E w vs hw ht⟩
theorem CallF.ofShelf {P : Program} {f : FuncId} {ws : List Value} {r : Value} {Fs : List (World → Prop)} (he : ∀ args w, (callFunc f args).run P w = .ok (.enter f args) w)
    (h : ∀ w, (∀ F ∈ Fs, F w) → Calls P f ws.toArray w fun e w' => e = .returned r ∧ RowKit.Below w.heap.size w w') : CallF P f Fs (ws.map Ty.is) (.is r) :=
  ⟨he, fun E w vs _ hf ht => by
    rw [tyAll_is ht]
    exact (h w fun F hF => (hf F hF).now).mono fun e w' ⟨h1, h2⟩ => ⟨r, h1, .of_below h2, rfl⟩⟩
structure CallMR (P : Program) (f : FuncId) (ety : TypeId) (V0 : Value) (Φ0 : List (World → Prop)) (As : List Ty) (V1 : Value) (R : Nat → Ty) : Prop where
  enter : ∀ args w, (callFunc f args).run P w = .ok (.enter f args) w
  calls : ∀ (E : Nat → Prop) (w : World) (b : Nat) (vs : List Value), (∀ b, E b → b < w.heap.size) → E b → w.heap[b]? = some (.cells V0.cells ety (0, 0)) → (∀ F ∈ Φ0, Pers E w F) → TyAll E w As vs →
    Calls P f (.pointer (some ⟨b, 0, none⟩) :: vs).toArray w fun e w' => ∃ v, e = .returned v ∧ Keeps (fun q => q = b) w w' ∧ w'.heap[b]? = some (.cells V1.cells ety (0, 0)) ∧ (R b).p E v w'
def MethV (P : Program) (b : Nat) (fv : Value) (ety : TypeId) (V0 : Value) (Φ0 : List (World → Prop)) (As : List Ty) (V1 : Value) (R : Ty) : Prop :=
  ∃ f, fv = .func (.func f) #[.pointer (some ⟨b, 0, none⟩)] #[] ∧ CallM P f ety V0 Φ0 As V1 R
section
variable {P : Program} {L : List Own} {Φ : List (World → Prop)} {H : Know} {dst : Option Nat} {ty : TypeId} {pos : String} {after : Array Edge} {g : Option (Nat × Bool)}
theorem ob_callF {f : FuncId} {xs : List Operand} {ats : Array TypeId} {Fs : List (World → Prop)} {As : List Ty} {R : Ty} (hf : H (.func f) (.is (.func (.func f) #[] #[]))) (hc : CallF P f Fs As R) (hΦ : ∀ F ∈ Fs, F ∈ Φ) (ha : Args L Φ H xs As) :
    Ob P L Φ H ⟨dst, .call { callee := .value (.func f), args := xs.toArray, argTypes := ats }, ty, pos, after, g⟩ R := fun E w ρ hp => by
  have h1 : ρ (.func f) = .func (.func f) #[] #[] := hp.x _ _ (by simp [Op.operands, Call.operands]) hf
  have hall := ha.all (ρ := ρ) (pre_facts hp) fun x T hx => hp.x x T (by simp [Op.operands, Call.operands, hx])
  have h2 : Runs P ((callFunc f (xs.map ρ).toArray).run P w) fun v w' => Keeps noX w w' ∧ R.p E v w' := by
    rw [hc.enter]
    refine Calls.mono (hc.calls E w _ hp.wf (fun F hF => hp.f F (hΦ F hF)) hall) ?_
    rintro e w' ⟨v, rfl, h⟩
    exact h
  simp only [execOp, resolve, h1, Deferred.ofValue, invoke, Sem.run_bind, Sem.run_pure, Result.andThen_ok, List.map_toArray]
  simpa using h2
theorem obm_callR {f : FuncId} {p : Operand} {xs : List Operand} {ats : Array TypeId} {ety : TypeId} {V0 V1 : Value} {Φ0 : List (World → Prop)} {As : List Ty} {R : Nat → Ty} {M M' : List Own} {b : Nat} (hf : H (.func f) (.is (.func (.func f) #[] #[]))) (hp' : H p (.is (.pointer (some ⟨b, 0, none⟩)))) (hc : CallMR P f ety V0 Φ0 As V1 R)
    (hu : Upd M ⟨b, ety, .is V0⟩ ⟨b, ety, .is V1⟩ M') (hΦ : ∀ F ∈ Φ0, F ∈ Φ) (ha : Args L Φ H xs As) :
    ObM P L Φ H M ⟨dst, .call { callee := .value (.func f), args := (p :: xs).toArray, argTypes := ats }, ty, pos, after, g⟩ (R b) M' := fun E w ρ hp hM hnd => by
  have h1 : ρ (.func f) = .func (.func f) #[] #[] := hp.x _ _ (by simp [Op.operands, Call.operands]) hf
  have h2 : ρ p = .pointer (some ⟨b, 0, none⟩) := hp.x p _ (by simp [Op.operands, Call.operands]) hp'
  have hall := ha.all (ρ := ρ) (pre_facts hp) fun x T hx => hp.x x T (by simp [Op.operands, Call.operands, hx])
  have hE := (hM _ hu.mem).1
  have h3 : Runs P ((callFunc f (.pointer (some ⟨b, 0, none⟩) :: xs.map ρ).toArray).run P w) fun v w' => Keeps (fun b => b ∈ M.map (·.b)) w w' ∧ (R b).p E v w' ∧ ∀ m ∈ M', m.at E w' := by
    rw [hc.enter]
    refine Calls.mono (hc.calls E w b _ hp.wf hE (own_blk (hM _ hu.mem) rfl) (fun F hF => hp.f F (hΦ F hF)) hall) ?_
    rintro e w' ⟨v, rfl, hk, hb, hR⟩
    have hev : Ev E w E w' := Ev.of_keeps (hk.mono fun q _ e => by rw [e]; exact hE)
    exact ⟨hk.mono fun q _ e => by rw [e]; exact List.mem_map_of_mem hu.mem, hR, hu.all hnd (fun m hm hne => Own.keep (hM m hm) hev (hk.blk _ (lt_of_get (hM m hm).2.choose_spec.1) hne)) ⟨hE, V1, hb, rfl⟩⟩
  simp only [execOp, resolve, h1, Deferred.ofValue, invoke, Sem.run_bind, Sem.run_pure, Result.andThen_ok, List.map_toArray, List.map_cons, h2]
  simpa using h3
theorem obm_callV {cal : Operand} {xs : List Operand} {ats : Array TypeId} {fv : Value} {ety : TypeId} {V0 V1 : Value} {Φ0 : List (World → Prop)} {As : List Ty} {R : Ty} {M M' : List Own} {b : Nat} (hf : H cal (.is fv)) (hc : MethV P b fv ety V0 Φ0 As V1 R)
    (hu : Upd M ⟨b, ety, .is V0⟩ ⟨b, ety, .is V1⟩ M') (hΦ : ∀ F ∈ Φ0, F ∈ Φ) (ha : Args L Φ H xs As) :
    ObM P L Φ H M ⟨dst, .call { callee := .value cal, args := xs.toArray, argTypes := ats }, ty, pos, after, g⟩ R M' := by
  obtain ⟨f, rfl, hc⟩ := hc
  exact obm_callv hf hc hu hΦ ha
theorem JX.normal_ret {c : Ctx} {K : List (Nat × Ty)} {fn : Func} {N : Ending → World → Prop} (h : JX c K L Φ .ret (bodyPost P fn N)) : JX c K L Φ .normal (bodyPost P fn N) := ⟨h.out⟩
def PostMR (X : Nat → Prop) (W : World) (b : Nat) (ety : TypeId) (V1 : Value) (R : Ty) : Ending → World → Prop := PostM X W b ety V1 R
variable {fn : Func} {R : Ty} {n : Nat}
theorem CallF.of {f : FuncId} {x : Code} {Fs : List (World → Prop)} {As : List Ty} (hf : P.funcs[f]? = some fn) (hb : fn.body = some x) (hn : fn.ntmps = n) (hl : Nat.ble As.length n = true) (he : ∀ args w, (callFunc f args).run P w = .ok (.enter f args) w)
    (h : ∀ (E : Nat → Prop) (W : World), J P ⟨n, E, noX, W⟩ (params 0 As) [] Fs x (bodyPost P fn (Post E W R))) : CallF P f Fs As R :=
  ⟨he, fun E w vs hw hΦ ht => by
    refine calls_of_wp hf hb ?_
    rw [hn]
    have hs := sa_start (n := n) hw ht (Nat.le_of_ble_eq_true hl)
    refine (h E w).out E _ w ⟨hs.n, hs.d, hw, hs.k, hs.l, hs.ld, hΦ, fun _ h => h, hw, .refl _ _, hs.may⟩⟩
theorem CallMR.of {f : FuncId} {x : Code} {ety : TypeId} {V0 V1 : Value} {Φ0 : List (World → Prop)} {As : List Ty} {R : Nat → Ty} (hf : P.funcs[f]? = some fn) (hb : fn.body = some x) (hn : fn.ntmps = n) (hl : Nat.ble (As.length + 1) n = true) (he : ∀ args w, (callFunc f args).run P w = .ok (.enter f args) w)
    (h : ∀ (E : Nat → Prop) (W : World) (b : Nat), J P ⟨n, E, fun q => q = b, W⟩ ((0, .is (.pointer (some ⟨b, 0, none⟩))) :: params 1 As) [⟨b, ety, .is V0⟩] Φ0 x (bodyPost P fn (PostM E W b ety V1 (R b)))) : CallMR P f ety V0 Φ0 As V1 R :=
  ⟨he, fun E w b vs hw hE hb0 hΦ ht => by
    refine calls_of_wp hf hb ?_
    rw [hn]
    refine (h E w b).out E _ w ?_
    have h0 : TyAll E w (.is (.pointer (some ⟨b, 0, none⟩)) :: As) (.pointer (some ⟨b, 0, none⟩) :: vs) := ⟨rfl, ht⟩
    have hs := sa_start (n := n) hw h0 (Nat.le_of_ble_eq_true hl)
    refine ⟨hs.n, hs.d, hw, hs.k, ?_, by simp, hΦ, fun _ h => h, hw, .refl _ _, fun o ho => ?_⟩
    · intro o ho
      rcases List.mem_cons.1 ho with rfl | ho
      · exact ⟨hE, V0, hb0, rfl⟩
      · cases ho
    · rcases List.mem_cons.1 ho with rfl | ho
      · exact .inl rfl
      · cases ho⟩
variable {K : List (Nat × Ty)} {X : Nat → Prop} {W : World}
theorem JX.retM0e {b : Nat} {ety : TypeId} {V1 V1' : Value} (hres : fn.results = #[]) (hm : (⟨b, ety, .is V1'⟩ : Own) ∈ L) (hV : V1' = V1) : JX ⟨n, X, fun q => q = b, W⟩ K L Φ .ret (bodyPost P fn (PostM X W b ety V1 (.is (.tuple #[])))) := by
  subst hV
  exact JX.retM0 hres hm
theorem JX.retM1e {b : Nat} {ety : TypeId} {V1 V1' : Value} {t : Nat} {V V' : Value} (hres : fn.results = #[.tmp t]) (hm : (⟨b, ety, .is V1'⟩ : Own) ∈ L) (h : look K t = some (.is V')) (he : V' = V) (hV : V1' = V1) : JX ⟨n, X, fun q => q = b, W⟩ K L Φ .ret (bodyPost P fn (PostM X W b ety V1 (.is V))) := by
  subst hV
  exact JX.retM1is hres hm h he
theorem JX.retMC1is {b : Nat} {ety : TypeId} {V1 V1' : Value} {s u b' m : Nat} {t ety' : TypeId} {cs : Array Value} {V B B' : Value} (hres : fn.results = #[.cell s t, .tmp u]) (hm : (⟨b, ety, .is V1'⟩ : Own) ∈ L) (h : look K s = some (.is (.pointer (some ⟨b', 0, none⟩)))) (hs' : szOf P t = some (some m)) (hm' : ⟨b', ety', .is (.agg cs)⟩ ∈ L) (hn : cs.size = m) (h' : look K u = some (.is B')) (he : .agg cs = V) (hB : B' = B) (hV : V1' = V1) :
    JX ⟨n, X, fun q => q = b, W⟩ K L Φ .ret (bodyPost P fn (PostM X W b ety V1 (.tup2 (.is V) (.is B)))) := by
  subst he hV hB
  exact JX.retMOf rfl hm fun a w E hs => by
    obtain ⟨v, h1, h2⟩ := res_cell (P := P) hs' (hs.l _ hm') (agg_is hn)
    have e : a.tmps.getD s undef = .pointer (some ⟨b', 0, none⟩) := hs.k s _ h
    have e2 : a.tmps.getD u undef = B' := hs.k u _ h'
    rw [Array.getD_eq_getD_getElem?] at e e2
    exact ⟨.tuple #[v, B'], by simp [results, hres, Array.getD_eq_getD_getElem?, e, e2, asAddr, h1], v, B', rfl, h2, rfl⟩
end
structure T3 where
  k : Int
  t : ByteArray
  n : Int
def T3.cells (t : T3) : List Value := [.int .i64 t.k, .string t.t, .int .i64 t.n]
theorem T3.len (t : T3) : t.cells.length = 3 := rfl
def t3D : T3 := ⟨0, ⟨#[]⟩, 0⟩
abbrev tv (t : T3) : Value := .agg #[.int .i64 t.k, .string t.t, .int .i64 t.n]
theorem t3_get {ts : List T3} {i : Nat} (h : i < ts.length) : ts[i]? = some (ts.getD i t3D) := by simp [h]
def teq (a b : T3) : Bool := (a.k == b.k) && (seq a.t b.t && (a.n == b.n))
structure TEq (P : Program) (t ti ts tj : TypeId) : Prop where
  ht : P.underlying t = some (.struct (P.fieldsOf t))
  hp : P.stoodInHeld t = false
  hg : P.eqGuardType P.depth t = false
  hf : (P.fieldsOf t).toList.map (fun f => (f.name == "_", f.type, f.offset)) = [(false, ti, 0), (false, ts, 1), (false, tj, 2)]
  h1 : P.underlying ti = some (.int .i64)
  h2 : P.underlying ts = some .string
  h3 : P.underlying tj = some (.int .i64)
section
variable {P : Program}
theorem run_teq {t ti ts tj : TypeId} (h : TEq P t ti ts tj) (a b : T3) (w : World) :
    (Op.equalIn 10000 t (.agg #[.int .i64 a.k, .string a.t, .int .i64 a.n]) (.agg #[.int .i64 b.k, .string b.t, .int .i64 b.n])).run P w = .ok (teq a b) w := by
  have e := run_equalIn_struct (P := P) w 9999 t #[.int .i64 a.k, .string a.t, .int .i64 a.n] #[.int .i64 b.k, .string b.t, .int .i64 b.n] h.ht h.hp
  refine e.trans ?_
  have hf := h.hf
  generalize hd : (9999 : Nat) = d
  obtain ⟨d', rfl⟩ : ∃ d', d = d' + 1 := ⟨9998, by omega⟩
  generalize (P.fieldsOf t).toList = fs at hf ⊢
  have h3' : ∃ f0 f1 f2, fs = [f0, f1, f2] := by
    obtain ⟨f0, l0, rfl, _, hf⟩ := List.map_eq_cons_iff.1 hf
    obtain ⟨f1, l1, rfl, _, hf⟩ := List.map_eq_cons_iff.1 hf
    obtain ⟨f2, l2, rfl, _, hf⟩ := List.map_eq_cons_iff.1 hf
    exact ⟨f0, f1, f2, by rw [List.map_eq_nil_iff.1 hf]⟩
  obtain ⟨f0, f1, f2, rfl⟩ := h3'
  simp only [List.map_cons, List.map_nil, List.cons.injEq, Prod.mk.injEq, and_true] at hf
  obtain ⟨⟨a0, b0, c0⟩, ⟨a1, b1, c1⟩, ⟨a2, b2, c2⟩⟩ := hf
  have i1 : (isAgg ti).run P w = .ok false w := by simp [isAgg, run_underlying h.h1]
  have i2 : (isAgg ts).run P w = .ok false w := by simp [isAgg, run_underlying h.h2]
  have i3 : (isAgg tj).run P w = .ok false w := by simp [isAgg, run_underlying h.h3]
  have q1 := run_equalIn_int (P := P) w d' ti .i64 .i64 a.k b.k h.h1
  have q2 := run_equalIn_string (P := P) w d' ts a.t b.t h.h2
  have q3 := run_equalIn_int (P := P) w d' tj .i64 .i64 a.n b.n h.h3
  have x0 : f0.name ≠ "_" := by simpa using a0
  have x1 : f1.name ≠ "_" := by simpa using a1
  have x2 : f2.name ≠ "_" := by simpa using a2
  unfold teq seq
  generalize (a.k == b.k) = A at *
  generalize (a.n == b.n) = B at *
  generalize (a.t.toList == b.t.toList) = C at *
  simp only [Op.eqFields, ne_eq, x0, x1, x2, not_false_eq_true, if_true, b0, b1, b2, c0, c1, c2, part, Sem.run_bind, i1, i2, i3, Result.andThen_ok, Bool.false_eq_true, if_false, List.getElem?_toArray, List.getElem?_cons_zero, List.getElem?_cons_succ, Sem.run_pure, q1]
  cases A <;> cases B <;> cases C <;> simp [q2, q3, i2, i3]
variable {L : List Own} {Φ : List (World → Prop)} {H : Know} {dst : Option Nat} {ty : TypeId} {pos : String} {after : Array Edge} {g : Option (Nat × Bool)} {yt : TypeId} {x y : Operand}
theorem ob_teq {t ti ts tj : TypeId} (h : TEq P t ti ts tj) {a b : T3} (hx : H x (.is (tv a))) (hy : H y (.is (tv b))) :
  Ob P L Φ H ⟨dst, .binOp .eql t x y yt, ty, pos, after, g⟩ (.is (.bool (teq a b))) :=
  ob_bin hx hy fun w => by
  rw [Sem.run_bind, run_eqGuard_agg _ _ _ _ _ _ _ h.hg, Result.andThen_ok, run_eql_struct, run_teq h, Result.andThen_ok]
theorem ob_tneq {t ti ts tj : TypeId} (h : TEq P t ti ts tj) {a b : T3} (hx : H x (.is (tv a))) (hy : H y (.is (tv b))) :
  Ob P L Φ H ⟨dst, .binOp .neq t x y yt, ty, pos, after, g⟩ (.is (.bool (!teq a b))) :=
  ob_bin hx hy fun w => by
  rw [Sem.run_bind, run_eqGuard_agg _ _ _ _ _ _ _ h.hg, Result.andThen_ok, run_neq_struct, run_teq h, Result.andThen_ok]
end
def dr (s : ByteArray) (i : Nat) : List UInt8 := s.data.toList.drop i
def by_ (s : ByteArray) (i : Nat) : UInt8 := s.data.toList.getD i 0
theorem sb_by (s : ByteArray) (i : Nat) : sb s i = ((by_ s i).toNat : Int) := rfl
theorem len_bytes (s : ByteArray) : s.data.toList.length = s.size := by rw [Array.length_toList]; rfl
theorem dr_cons {s : ByteArray} {i : Nat} (h : i < s.size) : dr s i = by_ s i :: dr s (i + 1) := by
  unfold dr by_
  rw [List.drop_eq_getElem_cons (by rw [len_bytes]; exact h)]
  rw [List.getD_eq_getElem?_getD, List.getElem?_eq_getElem (by rw [len_bytes]; exact h)]
  rfl
theorem dr_nil {s : ByteArray} {i : Nat} (h : s.size ≤ i) : dr s i = [] := List.drop_eq_nil_of_le (by rw [len_bytes]; exact h)
theorem dr_len (s : ByteArray) (i : Nat) : (dr s i).length = s.size - i := by unfold dr; rw [List.length_drop, len_bytes]
theorem dr_drop (s : ByteArray) (i n : Nat) : (dr s i).drop n = dr s (i + n) := by unfold dr; rw [List.drop_drop]
theorem ext_bytes (s : ByteArray) (i n : Nat) : (s.extract i (i + n)).data.toList = (dr s i).take n := by
  unfold dr
  rw [ByteArray.data_extract]
  simp [List.extract_eq_take_drop]
end Go.Vc

namespace Go.Vc
open Go
section
variable {P : Program} {c : Ctx} {K : List (Nat × Ty)} {L L' : List Own} {Φ : List (World → Prop)} {Q : Exit → Act → World → Prop}
theorem SA.freezeM {E : Nat → Prop} {a : Act} {w : World} {b : Nat} {e : TypeId} {cs : List Value} (hs : SA c K (⟨b, e, .is (.agg cs.toArray)⟩ :: L) Φ E a w) (h0 : ∀ q, c.X0 q → ∃ o ∈ L, o.b = q) (hK : ∀ s T, look K s = some T → T.out = true) (hL : ∀ o ∈ L, o.T.out = true) :
    ∃ E', SA c K L (HeapIs b cs e :: Φ) E' a w := by
  have hb := own_blk (hs.l _ List.mem_cons_self) rfl
  have hld := hs.ld
  rw [List.map_cons, List.nodup_cons] at hld
  have hbW : c.W0.heap.size ≤ b := (hs.may _ List.mem_cons_self).resolve_left (fun h => by
    obtain ⟨o, ho, e⟩ := h0 b h
    exact hld.1 (List.mem_map.2 ⟨o, ho, e⟩))
  have hsub : ∀ q, q < w.heap.size → (E q ∧ q ≠ b) → E q := fun q _ h => h.1
  refine ⟨fun q => E q ∧ q ≠ b, hs.n, hs.d, fun q h => hs.wf q h.1, fun s T h => Ty.weak hsub (hK s T h) (hs.k s T h), fun o ho => ?_, hld.2, fun F hF => ?_, fun q hq => ⟨hs.x q hq, fun e => ?_⟩, hs.xs, hs.keeps, fun o ho => hs.may o (List.mem_cons_of_mem _ ho)⟩
  · obtain ⟨h1, v, h2, h3⟩ := hs.l o (List.mem_cons_of_mem _ ho)
    exact ⟨⟨h1, fun e => hld.1 (List.mem_map.2 ⟨o, ho, e⟩)⟩, v, h2, Ty.weak hsub (hL o ho) h3⟩
  · rcases List.mem_cons.1 hF with rfl | hF
    · intro w' hk
      exact hk.get hb fun h => h.2 rfl
    · exact Pers.weak (hs.f F hF) hsub
  · have := hs.xs q hq
    omega
theorem J.freezeM {x : Code} {b : Nat} {e : TypeId} {cs : List Value} (h0 : ∀ q, c.X0 q → ∃ o ∈ L, o.b = q) (hK : K.all (fun p => p.2.out) = true) (hL : L.all (fun o => o.T.out) = true) (h : J P c K L (HeapIs b cs e :: Φ) x Q) : J P c K (⟨b, e, .is (.agg cs.toArray)⟩ :: L) Φ x Q :=
  ⟨fun E a w hs => by
    obtain ⟨E', hs'⟩ := hs.freezeM h0 (look_out hK) (fun o ho => List.all_eq_true.1 hL o ho)
    exact h.out E' a w hs'⟩
theorem J.freezeOM {α : Type} {en : α → List Value} {sz : Nat} {xs : List α} {cap : Nat} {x : Code} {st : Option (Nat × List Value)} {e : TypeId} (hen : ∀ x, (en x).length = sz) (hG : Grows en sz xs st cap) (hTl : Tl e L st L') (h0 : ∀ q, c.X0 q → ∃ o ∈ L', o.b = q) (hK : K.all (fun p => p.2.out) = true) (hL : L'.all (fun o => o.T.out) = true)
    (h : J P c K L' (RowG en sz xs (adO st) xs.length :: Φ) x Q) : J P c K L Φ x Q := by
  refine J.subL (L' := ownO st e L') (fun o ho => (hTl.perm.mem_iff).1 ho) (fun hn => ((hTl.perm.map _).nodup_iff).2 hn) ?_
  cases st with
  | none =>
    have hG : xs = [] := hG
    subst hG
    exact J.fact _ (fun E w _ _ => fun w' _ => ⟨rfl, fun h => absurd rfl h⟩) h
  | some p =>
    obtain ⟨b, cs⟩ := p
    obtain ⟨h1, h2, h3⟩ := hG
    refine J.freezeM (b := b) (e := e) (cs := cs) h0 hK hL ?_
    refine J.fact (RowG en sz xs (adO (some (b, cs))) xs.length) (fun E w hF _ => fun w' hk => ?_) (J.subΦ (fun F hF => ?_) h)
    · have hh := hF _ List.mem_cons_self w' hk
      obtain ⟨a, len, cap', e1, hr⟩ := sl_of_heap hen rfl h3 hh cap
      injection e1 with e1 e2 e3
      subst e1 e2
      exact hr
    · rcases List.mem_cons.1 hF with rfl | hF
      · exact List.mem_cons_self
      · exact List.mem_cons_of_mem _ (List.mem_cons_of_mem _ hF)
theorem JO.subF {ops : Array Oper} {l : List Oper} {Φ' : List (World → Prop)} (hΦ : ∀ F ∈ Φ', F ∈ Φ) (h : JO P c K L Φ' ops l Q) : JO P c K L Φ ops l Q :=
  ⟨fun E a w hs => h.out E a w (hs.sub (fun _ _ => id) (fun _ => id) hs.ld hΦ)⟩
theorem JO.openSl {α : Type} {enc : α → List Value} {sz : Nat} {ops : Array Oper} {l : List Oper} {s : Nat} {xs : List α} (h : look K s = some (.rep (SlG enc sz xs)))
    (hj : ∀ a len cap b o, xs.length = len → (len ≠ 0 → a = some ⟨b, o, none⟩) → JO P c ((s, .is (.slice a len cap)) :: K) L (RowG enc sz xs a len :: Φ) ops l Q) : JO P c K L Φ ops l Q := by
  refine JO.open_ h ?_
  rintro v ⟨w, a, len, cap, rfl, hl, hk⟩
  obtain ⟨b, o, hbo⟩ : ∃ b o, len ≠ 0 → a = some ⟨b, o, none⟩ := by
    by_cases hn : len = 0
    · exact ⟨0, 0, fun h => absurd hn h⟩
    · obtain ⟨b, o, e, _⟩ := hk hn; exact ⟨b, o, fun _ => e⟩
  refine JO.fact (RowG enc sz xs a len) (fun E w hG _ => ?_) (JO.subF (fun F hF => ?_) (hj a len cap b o hl hbo))
  · intro w' hk'
    obtain ⟨a', len', cap', e, hK⟩ := hG _ List.mem_cons_self w' hk'
    injection e with e1 e2 e3
    subst e1 e2 e3
    exact hK
  · rcases List.mem_cons.1 hF with rfl | hF
    · exact List.mem_cons_self
    · exact List.mem_cons_of_mem _ (List.mem_cons_of_mem _ hF)
end
end Go.Vc
