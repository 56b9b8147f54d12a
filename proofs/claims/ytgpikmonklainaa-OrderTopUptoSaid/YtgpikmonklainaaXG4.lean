/- The program logic, part 5. No condition. -/
import Derived.Test.YtgpikmonklainaaXG3
import Derived.Laws.MakeOwn
import Derived.Lib.Replace
import Derived.Lib.CountLaws
namespace Go.Vc
open Go
section
variable {P : Program} {c : Ctx} {K : List (Nat × Ty)} {L : List Own} {Φ : List (World → Prop)} {Q : Exit → Act → World → Prop} {ops : Array Oper} {rest : List Oper} {op : Op} {ty : TypeId} {pos : String} {after : Array Edge} {T : Ty} {d i s : Nat} {b : Bool}
def yv : Value → Option Bool
  | .bool b => some b
  | _ => none
theorem yield_of {a : Act} {v : Value} (hi : (ops[i]?).bind (·.dst) = some s) (hs : s < a.tmps.size) (hv : a.tmps.getD s undef = v) : yielded ops a.tmps i = yv v := by
  unfold yielded
  rw [hi]
  have : a.tmps[s]? = some v := by
    rw [Array.getD_eq_getD_getElem?] at hv
    rw [Array.getElem?_eq_getElem hs] at hv ⊢
    exact congrArg some hv
  simp only [Option.bind_some, this]
  cases v <;> rfl
theorem JO.gDo {o : Oper} (hg : o.guard = some (i, b)) (hi : (ops[i]?).bind (·.dst) = some s) (hn : Nat.blt s c.n = true) (hk : look K s = some (.is (.bool b))) (h : JO P c K L Φ ops ({ o with guard := none } :: rest) Q) : JO P c K L Φ ops (o :: rest) Q :=
  ⟨fun E a w hs => by
    have h1 := h.out E a w hs
    have hy := yield_of (ops := ops) (i := i) hi (by rw [hs.n]; exact Nat.le_of_ble_eq_true hn) (hs.k s _ hk)
    unfold wpList at h1 ⊢
    rw [if_pos (by simp [Region.wanted])] at h1
    rw [if_pos (by simp [Region.wanted, hg, hy, yv])]
    exact h1⟩
theorem SA.undef_ {E : Nat → Prop} {a : Act} {w : World} {dst : Option Nat} (hs : SA c K L Φ E a w) (hd : ∀ d, dst = some d → d < c.n) : SA c (putK dst (.is undef) K) L Φ E (a.put dst undef) w :=
  hs.put (.refl _ _) hs.wf rfl hd hs.l hs.ld hs.keeps hs.may
theorem JO.gSkip (hi : (ops[i]?).bind (·.dst) = some s) (hn : Nat.blt s c.n = true) (hk : look K s = some (.is (.bool !b))) (hd : Nat.blt d c.n = true) (h : JO P c ((d, .is undef) :: K) L Φ ops rest Q) : JO P c K L Φ ops (⟨some d, op, ty, pos, after, some (i, b)⟩ :: rest) Q :=
  ⟨fun E a w hs => by
    have hy := yield_of (ops := ops) (i := i) hi (by rw [hs.n]; exact Nat.le_of_ble_eq_true hn) (hs.k s _ hk)
    unfold wpList
    rw [if_neg (by simp [Region.wanted, hy, yv])]
    exact h.out E _ _ (hs.undef_ (dst := some d) (fun d' e => by injection e with e; subst e; exact Nat.le_of_ble_eq_true hd))⟩
theorem JO.gSkipU (hi : (ops[i]?).bind (·.dst) = some s) (hn : Nat.blt s c.n = true) (hk : look K s = some (.is undef)) (hd : Nat.blt d c.n = true) (h : JO P c ((d, .is undef) :: K) L Φ ops rest Q) : JO P c K L Φ ops (⟨some d, op, ty, pos, after, some (i, b)⟩ :: rest) Q :=
  ⟨fun E a w hs => by
    have hy := yield_of (ops := ops) (i := i) hi (by rw [hs.n]; exact Nat.le_of_ble_eq_true hn) (hs.k s _ hk)
    unfold wpList
    rw [if_neg (by simp [Region.wanted, hy, undef, yv])]
    exact h.out E _ _ (hs.undef_ (dst := some d) (fun d' e => by injection e with e; subst e; exact Nat.le_of_ble_eq_true hd))⟩
theorem JO.freeze {b : Nat} {e : TypeId} {cs : List Value} (h0 : ∀ q, ¬ c.X0 q) (hK : K.all (fun p => p.2.out) = true) (hL : L.all (fun o => o.T.out) = true) (h : JO P c K L (HeapIs b cs e :: Φ) ops rest Q) : JO P c K (⟨b, e, .is (.agg cs.toArray)⟩ :: L) Φ ops rest Q :=
  ⟨fun E a w hs => by
    obtain ⟨E', hs'⟩ := hs.freeze h0 (look_out hK) (fun o ho => List.all_eq_true.1 hL o ho)
    exact h.out E' a w hs'⟩
end
section
variable {P : Program} {L : List Own} {Φ : List (World → Prop)} {H : Know} {dst : Option Nat} {ty : TypeId} {pos : String} {after : Array Edge} {g : Option (Nat × Bool)} {xt yt : TypeId} {x y : Operand} {k : IntKind} {a b : Int} {v : Bool}
theorem ob_eqv (hx : H x (.is (.int k a))) (hy : H y (.is (.int k b))) (h : (a == b) = v) : Ob P L Φ H ⟨dst, .binOp .eql xt x y yt, ty, pos, after, g⟩ (.is (.bool v)) := h ▸ ob_eql hx hy
theorem ob_neqv (hx : H x (.is (.int k a))) (hy : H y (.is (.int k b))) (h : (!(a == b)) = v) : Ob P L Φ H ⟨dst, .binOp .neq xt x y yt, ty, pos, after, g⟩ (.is (.bool v)) := by
  have := ob_neq (P := P) (L := L) (Φ := Φ) (dst := dst) (ty := ty) (pos := pos) (after := after) (g := g) (xt := xt) (yt := yt) hx hy
  rwa [show (a != b) = v from h] at this
theorem Sub.slEmpty {α : Type} {en : α → List Value} {sz : Nat} {a : Option Addr} {cap : Nat} : Sub L Φ (.is (.slice a 0 cap)) (.rep (SlG en sz [])) := fun E v w hf e => by
  rw [show v = _ from e]
  exact fun w' _ => ⟨a, 0, cap, rfl, rfl, fun h => absurd rfl h⟩
end
theorem row_own {α : Type} {enc : α → List Value} {sz : Nat} {xs : List α} (hsz : ∀ x, (enc x).length = sz) {cs : List Value} {b n : Nat} {e : TypeId} {w : World} (hn : xs.length = n) (hc : cs.take (n * sz) = xs.flatMap enc) (h : HeapIs b cs e w) : RowG enc sz xs (some ⟨b, 0, none⟩) n w := by
  obtain ⟨a, len, cap, e1, hr⟩ := sl_of_heap hsz hn hc h 0
  injection e1 with e1 e2 e3
  subst e1 e2
  exact hr
end Go.Vc

namespace Go.Vc
open Go
section
variable {P : Program} {c : Ctx} {K : List (Nat × Ty)} {L : List Own} {Φ : List (World → Prop)} {Q : Exit → Act → World → Prop} {ops : Array Oper} {rest : List Oper}
theorem SA.newS {E : Nat → Prop} {a : Act} {w : World} {d : Nat} {t : TypeId} {u : Value} {n : Nat} (hs : SA c K L Φ E a w) (hd : d < c.n) :
    ∃ E', SA c ((d, .is (.slice (some ⟨w.heap.size, 0, none⟩) n n)) :: K) (⟨w.heap.size, t, .is u⟩ :: L) Φ E' (a.put (some d) (.slice (some ⟨w.heap.size, 0, none⟩) n n)) (w.alloc (.cells u.cells t)) := by
  have hk := Keeps.alloc w (.cells u.cells t)
  have hev : Ev E w (fun b => E b ∨ b = w.heap.size) (w.alloc (.cells u.cells t)) := ⟨hk.of_noX, fun b hb => ⟨fun h => h.elim id (fun e => absurd hb (by omega)), .inl⟩⟩
  refine ⟨fun b => E b ∨ b = w.heap.size, hs.put (dst := some d) (T := .is (.slice (some ⟨w.heap.size, 0, none⟩) n n)) hev ?_ rfl (fun d' e => by injection e with e; omega) ?_ ?_ (hs.keeps.step hk fun _ => False.elim) ?_⟩
  · rintro b (hb | rfl)
    · rw [size_alloc]; have := hs.wf b hb; omega
    · rw [size_alloc]; omega
  · intro o ho
    rcases List.mem_cons.1 ho with rfl | ho
    · exact ⟨.inr rfl, u, heap_alloc_at w _, rfl⟩
    · exact Own.keep0 (hs.l o ho) hev hk
  · rw [List.map_cons, List.nodup_cons]
    refine ⟨fun h => ?_, hs.ld⟩
    obtain ⟨m, hm, e⟩ := List.mem_map.1 h
    have := hs.wf _ (hs.l m hm).1
    rw [e] at this
    exact absurd this (Nat.lt_irrefl _)
  · intro o ho
    rcases List.mem_cons.1 ho with rfl | ho
    · exact .inr hs.keeps.size
    · exact hs.may o ho
theorem made1 (z : Value) (n : Nat) : madeCells #[z] n = (List.replicate n z).toArray := by
  unfold madeCells
  apply Array.ext
  · simp
  · intro i h1 h2
    have : i % 1 = 0 := by omega
    simp [Nat.mod_one]
theorem JO.mkSl1 {d : Nat} {t e ty : TypeId} {pos : String} {after : Array Edge} {l cp : Operand} {z : Value} {bytes n : Nat} {k k' : IntKind} {m m' : Int} (hu : P.underlying t = some (.slice e)) (hi : (P.info? e).map (fun i => (i.zero, i.size, i.bytes)) = some (some z, 1, bytes)) (hz : z.cells = #[z])
    (hl : opTy K l = some (.is (.int k m))) (hc : opTy K cp = some (.is (.int k' m'))) (h1 : m = (n : Int)) (h2 : m' = (n : Int)) (hb : bytes * n ≤ 281474976710656) (h63 : n ≤ 9223372036854775807) (hd : Nat.blt d c.n = true)
    (hn : ∀ b, JO P c ((d, .is (.slice (some ⟨b, 0, none⟩) n n)) :: K) (⟨b, e, .is (.agg (List.replicate n z).toArray)⟩ :: L) Φ ops rest Q) : JO P c K L Φ ops (⟨some d, .makeSlice t l cp, ty, pos, after, none⟩ :: rest) Q := by
  subst h1 h2
  refine ⟨?_⟩
  intro E a w hs
  refine wpList_plain rfl fun K' hK => ?_
  obtain ⟨i, hi', hiz⟩ := Option.map_eq_some_iff.1 hi
  simp only [Prod.mk.injEq] at hiz
  obtain ⟨z1, z2, z3⟩ := hiz
  have e1 : a.eval l = .int k n := opTy_eval hs hl
  have e2 : a.eval cp = .int k' n := opTy_eval hs hc
  have hr := run_make (P := P) w t e i z hu hi' z1 k k' (n : Int) (n : Int) (by omega) (Int.le_refl _) (by have h3 : ((bytes * n : Nat) : Int) ≤ 281474976710656 := (by omega); rw [z3]; rwa [Int.natCast_mul] at h3) (by omega)
  rw [z2, hz, Nat.mul_one, Int.toNat_natCast, made1] at hr
  obtain ⟨E', h⟩ := hs.newS (t := e) (u := .agg (List.replicate n z).toArray) (n := n) (Nat.le_of_ble_eq_true hd)
  unfold Oper.wp
  have hrun : (execOp a.eval ⟨some d, .makeSlice t l cp, ty, pos, after, none⟩).run P w = .ok (.value (.slice (some ⟨w.heap.size, 0, none⟩) n n)) (w.alloc (.cells (List.replicate n z).toArray e)) := by
    simp [execOp, e1, e2, hr]
  rw [hrun]
  exact hK _ _ ((hn _).out E' _ _ h)
end
section
variable {P : Program} {L : List Own} {Φ : List (World → Prop)} {H : Know} {dst : Option Nat} {ty : TypeId} {pos : String} {after : Array Edge} {g : Option (Nat × Bool)}
theorem ob_saddv {xt yt : TypeId} {x y : Operand} {s t u : ByteArray} (hx : H x (.is (.string s))) (hy : H y (.is (.string t))) (h : s.size + t.size ≤ 9223372036854775807) (hu : s ++ t = u) :
    Ob P L Φ H ⟨dst, .binOp .add xt x y yt, ty, pos, after, g⟩ (.is (.string u)) := hu ▸ ob_sadd hx hy h
end
end Go.Vc

set_option maxRecDepth 20000
namespace Go.Vc
open Go
section
variable {P : Program} {L : List Own} {Φ : List (World → Prop)} {H : Know} {dst : Option Nat} {ty : TypeId} {pos : String} {after : Array Edge} {g : Option (Nat × Bool)}
theorem ob_convIIe {s t : TypeId} {x : Operand} {k ku : IntKind} {a cc : Int} (hu0 : ∃ d, P.underlying s = some d) (hu : P.underlying t = some (.int k)) (hx : H x (.is (.int ku a))) (hc : k.wrap a = cc) :
    Ob P L Φ H ⟨dst, .convert s t x, ty, pos, after, g⟩ (.is (.int k cc)) := hc ▸ ob_convII hu0 hu hx
end
end Go.Vc

set_option maxRecDepth 20000
namespace Go.Vc
open Go
def repL (c : UInt8) (new : List UInt8) (s : List UInt8) : List UInt8 := s.flatMap fun b => if b == c then new else [b]
theorem repL_cons (c : UInt8) (new : List UInt8) (b : UInt8) (s : List UInt8) : repL c new (b :: s) = (if b == c then new else [b]) ++ repL c new s := rfl
theorem idx_one_hit (c : UInt8) (s : List UInt8) : Lib.index (c :: s) [c] = 0 := by
  unfold Lib.index
  simp [List.isPrefixOf]
theorem idx_one_miss {b c : UInt8} (h : (b == c) = false) (s : List UInt8) : Lib.index (b :: s) [c] = if Lib.index s [c] == -1 then -1 else Lib.index s [c] + 1 := by
  conv => lhs; unfold Lib.index
  have : (c == b) = false := by
    rw [beq_eq_false_iff_ne] at h ⊢
    exact fun e => h e.symm
  simp [List.isPrefixOf, this]
theorem count_one_hit (c : UInt8) (s : List UInt8) : Lib.count (c :: s) [c] = Lib.count s [c] + 1 := by
  rw [Lib.count_hit (i := 0) (by simp) (idx_one_hit c s)]
  show 1 + Lib.count s [c] = _
  omega
theorem count_one_miss {b c : UInt8} (h : (b == c) = false) (s : List UInt8) : Lib.count (b :: s) [c] = Lib.count s [c] := by
  have hi := idx_one_miss h s
  by_cases hm : Lib.index s [c] = -1
  · rw [hm] at hi
    rw [Lib.count_miss (by simpa using hi), Lib.count_miss hm]
  · have hge := Lib.index_ge s [c]
    obtain ⟨k, hk⟩ : ∃ k : Nat, Lib.index s [c] = k := ⟨(Lib.index s [c]).toNat, by omega⟩
    rw [if_neg (by simpa using hm), hk] at hi
    rw [Lib.count_hit (i := k + 1) (by simp) (by rw [hi]; rfl), Lib.count_hit (by simp) hk, show k + 1 + [c].length = (k + [c].length) + 1 by omega, List.drop_succ_cons]
theorem repK_miss {b c : UInt8} (h : (b == c) = false) (new : List UInt8) : ∀ (k : Nat) (s : List UInt8), Lib.replaceK [c] new k (b :: s) = b :: Lib.replaceK [c] new k s
  | 0, _ => rfl
  | k + 1, s => by
    have hi := idx_one_miss h s
    by_cases hm : Lib.index s [c] = -1
    · rw [hm] at hi
      rw [Lib.replaceK, if_pos (by rw [hi]; rfl), Lib.replaceK, if_pos (by rw [hm]; rfl)]
    · have hge := Lib.index_ge s [c]
      obtain ⟨j, hj⟩ : ∃ j : Nat, Lib.index s [c] = j := ⟨(Lib.index s [c]).toNat, by omega⟩
      rw [if_neg (by simpa using hm), hj] at hi
      rw [Lib.replaceK_hit [c] new k _ (j + 1) (by rw [hi]; rfl), Lib.replaceK_hit [c] new k _ j hj, show j + 1 + [c].length = (j + [c].length) + 1 by omega, List.drop_succ_cons, List.take_succ_cons]
      rfl
theorem repK_one (c : UInt8) (new : List UInt8) : ∀ s : List UInt8, Lib.replaceK [c] new (Lib.count s [c]) s = repL c new s
  | [] => rfl
  | b :: s => by
    have ih := repK_one c new s
    by_cases h : (b == c) = true
    · have e : b = c := by simpa using h
      subst e
      rw [count_one_hit, Lib.replaceK_hit [b] new _ _ 0 (idx_one_hit b s), repL_cons, if_pos h, ← ih]
      rfl
    · have h : (b == c) = false := by simpa using h
      rw [count_one_miss h, repK_miss h, ih, repL_cons, if_neg (by rw [h]; simp)]
      rfl
theorem replaceAll_one (c : UInt8) (new s : List UInt8) (h : ([c] == new) = false) : Lib.replaceAll s [c] new = repL c new s := by
  unfold Lib.replaceAll Lib.replace Lib.replaceNum
  rw [if_neg (by rw [h]; simp), if_pos (Or.inl (by decide))]
  exact repK_one c new s
theorem count_one_le (c : UInt8) : ∀ s : List UInt8, Lib.count s [c] ≤ s.length
  | [] => Nat.zero_le _
  | b :: s => by
    have ih := count_one_le c s
    by_cases h : (b == c) = true
    · have e : b = c := by simpa using h
      subst e
      rw [count_one_hit, List.length_cons]
      omega
    · rw [count_one_miss (by simpa using h), List.length_cons]
      omega
theorem repL_len (c : UInt8) {new : List UInt8} (hn : new.length ≤ 2) : ∀ s : List UInt8, (repL c new s).length ≤ 2 * s.length
  | [] => Nat.zero_le _
  | b :: s => by
    have ih := repL_len c hn s
    rw [repL_cons, List.length_append, List.length_cons]
    split <;> simp <;> omega
end Go.Vc

namespace Go.Vc
open Go
def SlC {α : Type} (enc : α → List Value) (sz : Nat) (xs : List α) (v : Value) (w : World) : Prop := ∃ a len cap, v = .slice a len cap ∧ len ≤ cap ∧ RowG enc sz xs a len w
theorem SlC.g {α : Type} {enc : α → List Value} {sz : Nat} {xs : List α} {v : Value} {w : World} (h : SlC enc sz xs v w) : SlG enc sz xs v w := by
  obtain ⟨a, len, cap, e, _, hr⟩ := h
  exact ⟨a, len, cap, e, hr⟩
section
variable {α : Type} {enc : α → List Value} {sz : Nat} {P : Program} {L : List Own} {Φ : List (World → Prop)}
theorem Sub.cg {xs : List α} : Sub L Φ (.rep (SlC enc sz xs)) (.rep (SlG enc sz xs)) := fun E v w hf h => fun w' hk => (h w' hk).g
theorem Sub.slNilC : Sub L Φ (.is (.slice none 0 0)) (.rep (SlC enc sz [])) := fun E v w hf e => by
  rw [show v = _ from e]
  exact fun w' _ => ⟨none, 0, 0, rfl, Nat.le_refl _, rfl, fun h => absurd rfl h⟩
theorem Sub.slFactC {xs : List α} {a : Option Addr} {len cap : Nat} (h : RowG enc sz xs a len ∈ Φ) (hc : len ≤ cap) : Sub L Φ (.is (.slice a len cap)) (.rep (SlC enc sz xs)) := fun E v w hf e => by
  rw [show v = _ from e]
  exact fun w' hk => ⟨a, len, cap, rfl, hc, hf.2 _ h w' hk⟩
theorem sliceO_adC {xs : List α} {st : Option (Nat × List Value)} {cap : Nat} (h : Grows enc sz xs st cap) : ∃ cap', xs.length ≤ cap' ∧ sliceO st xs.length cap = .slice (adO st) xs.length cap' := by
  cases st with
  | none =>
    have : xs = [] := h
    subst this
    exact ⟨0, Nat.le_refl _, rfl⟩
  | some p => exact ⟨cap, h.2.1, rfl⟩
theorem Sub.slOC {xs : List α} {cap : Nat} {st : Option (Nat × List Value)} (hG : Grows enc sz xs st cap) (h : RowG enc sz xs (adO st) xs.length ∈ Φ) : Sub L Φ (.is (sliceO st xs.length cap)) (.rep (SlC enc sz xs)) := by
  obtain ⟨cap', hc, e⟩ := sliceO_adC hG
  rw [e]
  exact Sub.slFactC h hc
variable {c : Ctx} {K : List (Nat × Ty)} {Q : Exit → Act → World → Prop}
theorem J.openSlC {x : Code} {s : Nat} {xs : List α} (h : look K s = some (.rep (SlC enc sz xs)))
    (hj : ∀ a len cap b o, xs.length = len → (len ≠ 0 → a = some ⟨b, o, none⟩) → len ≤ cap → J P c ((s, .is (.slice a len cap)) :: K) L (RowG enc sz xs a len :: Φ) x Q) : J P c K L Φ x Q := by
  refine J.open_ h ?_
  rintro v ⟨w, a, len, cap, rfl, hc, hl, hk⟩
  obtain ⟨b, o, hbo⟩ : ∃ b o, len ≠ 0 → a = some ⟨b, o, none⟩ := by
    by_cases hn : len = 0
    · exact ⟨0, 0, fun h => absurd hn h⟩
    · obtain ⟨b, o, e, _⟩ := hk hn; exact ⟨b, o, fun _ => e⟩
  refine J.fact (RowG enc sz xs a len) (fun E w hG _ => ?_) (J.subΦ (Φ' := RowG enc sz xs a len :: Φ) (fun F hF => ?_) (hj a len cap b o hl hbo hc))
  · intro w' hk'
    obtain ⟨a', len', cap', e, _, hK⟩ := hG _ List.mem_cons_self w' hk'
    injection e with e1 e2 e3
    subst e1 e2
    exact hK
  · rcases List.mem_cons.1 hF with rfl | hF
    · exact List.mem_cons_self
    · exact List.mem_cons_of_mem _ (List.mem_cons_of_mem _ hF)
theorem JO.openSlC {ops : Array Oper} {l : List Oper} {s : Nat} {xs : List α} (h : look K s = some (.rep (SlC enc sz xs)))
    (hj : ∀ a len cap b o, xs.length = len → (len ≠ 0 → a = some ⟨b, o, none⟩) → len ≤ cap → JO P c ((s, .is (.slice a len cap)) :: K) L (RowG enc sz xs a len :: Φ) ops l Q) : JO P c K L Φ ops l Q := by
  refine JO.open_ h ?_
  rintro v ⟨w, a, len, cap, rfl, hc, hl, hk⟩
  obtain ⟨b, o, hbo⟩ : ∃ b o, len ≠ 0 → a = some ⟨b, o, none⟩ := by
    by_cases hn : len = 0
    · exact ⟨0, 0, fun h => absurd hn h⟩
    · obtain ⟨b, o, e, _⟩ := hk hn; exact ⟨b, o, fun _ => e⟩
  refine JO.fact (RowG enc sz xs a len) (fun E w hG _ => ?_) (JO.subF (fun F hF => ?_) (hj a len cap b o hl hbo hc))
  · intro w' hk'
    obtain ⟨a', len', cap', e, _, hK⟩ := hG _ List.mem_cons_self w' hk'
    injection e with e1 e2 e3
    subst e1 e2 e3
    exact hK
  · rcases List.mem_cons.1 hF with rfl | hF
    · exact List.mem_cons_self
    · exact List.mem_cons_of_mem _ (List.mem_cons_of_mem _ hF)
end
section
variable {P : Program} {c : Ctx} {K : List (Nat × Ty)} {L : List Own} {Φ : List (World → Prop)} {Q : Exit → Act → World → Prop} {ops : Array Oper} {rest : List Oper}
theorem JO.buildOwn {d : Nat} {t e ty : TypeId} {pos : String} {after : Array Edge} {n sz : Nat} {xs : List (Nat × Operand)} {vs : List (Nat × Value)} {z cs : List Value} (hsh : SlShape P t e sz z) (hn : 0 < n) (hsm : n * sz ≤ 16777216) (hp : PartsIs (Kn K) xs vs) (hzl : z.length = sz)
    (hok : fillOK (fun i => some (i * sz, sz)) (n * sz) vs = true) (hc : fillV (fun i => some (i * sz, sz)) (zeros z (n * sz)) vs = cs) (hd : Nat.blt d c.n = true)
    (hj : ∀ b, JO P c ((d, .is (sliceO (some (b, cs)) n n)) :: K) (ownO (some (b, cs)) e L) Φ ops rest Q) : JO P c K L Φ ops (⟨some d, .buildSlice t n xs.toArray, ty, pos, after, none⟩ :: rest) Q := by
  refine ⟨?_⟩
  intro E a w hs
  refine wpList_plain rfl fun K' hK => ?_
  have hm := hp.map (ρ := a.eval) (w := w) (E := E) fun x T _ hT => opTy_eval hs hT
  have hb := run_buildSlice' n w hsh hn hsm hzl hok hc
  obtain ⟨E', h⟩ := hs.newS (t := e) (u := .agg cs.toArray) (n := n) (Nat.le_of_ble_eq_true hd)
  unfold Oper.wp
  have hrun : (execOp a.eval ⟨some d, .buildSlice t n xs.toArray, ty, pos, after, none⟩).run P w = .ok (.value (.slice (some ⟨w.heap.size, 0, none⟩) n n)) (w.alloc (.cells cs.toArray e)) := by
    simp only [execOp]
    rw [show (xs.toArray.map fun (i, x) => (i, a.eval x)) = vs.toArray by rw [List.map_toArray]; exact congrArg List.toArray hm]
    simp [hb]
  rw [hrun]
  exact hK _ _ ((hj _).out E' _ _ h)
theorem JO.apX {α : Type} {en : α → List Value} {sz : Nat} {L' : List Own} {d : Nat} {ty t tx e : TypeId} {pos : String} {after : Array Edge} {s x : Operand} {bytes cap : Nat} {xs : List α} (ys : List α) {st : Option (Nat × List Value)} {TX : Ty} {C : Option (Nat × List Value) → List Own}
    (hT : ApTy P t e sz bytes) (hen : ∀ x, (en x).length = sz) (hC : Cx e L st C L') (hG : Grows en sz xs st cap) (h0 : opTy K s = some (.is (sliceO st xs.length cap))) (hx : opTy K x = some TX) (hS : ∀ L, SrcOf P L Φ sz tx TX ys.length (ys.flatMap en)) (hy : xs ≠ [] ∨ ys ≠ []) (hfit : (xs.length + ys.length) * bytes ≤ 140737488355328) (h63 : xs.length + ys.length ≤ 9223372036854775807) (hd : Nat.blt d c.n = true)
    (hn : ∀ (st' : Option (Nat × List Value)) (cap' : Nat), Grows en sz (xs ++ ys) st' cap' → JO P c ((d, .is (sliceO st' (xs ++ ys).length cap')) :: K) (C st') Φ ops rest Q) :
    JO P c K L Φ ops (⟨some d, .call { callee := .builtin .append, args := #[s, x], argTypes := #[t, tx] }, ty, pos, after, none⟩ :: rest) Q := by
  by_cases hy' : ys = []
  · have hxs := hy.resolve_right (fun h => h hy')
    refine JO.subL hC.tl.perm ?_
    cases st with
    | none => exact absurd hG hxs
    | some p =>
      obtain ⟨b, cs⟩ := p
      obtain ⟨h1, h2, h3⟩ := hG
      refine JO.ap hT h0 hx (hS _) h1 h2 hfit h63 hd fun b' cap' cs' k1 k2 k3 => ?_
      have := hn (some (b', cs')) cap' ⟨k1, by rw [List.length_append]; exact k2, by rw [List.length_append, k3, h3, List.flatMap_append]⟩
      have h4 := JO.subL (hC.back (some (b', cs'))) this
      simpa [sliceO, ownO] using h4
  · exact JO.apP ys hT hen hC hG h0 hx hS hy' hfit h63 hd hn
end
theorem byteCells_eq (s : ByteArray) : byteCells s = s.data.toList.flatMap bC := by
  unfold byteCells
  induction s.data.toList with
  | nil => rfl
  | cons b l ih => rw [List.map_cons, List.flatMap_cons, ih]; rfl
theorem src_str {P : Program} {L : List Own} {Φ : List (World → Prop)} {tx : TypeId} {s : ByteArray} {bs : List UInt8} (hk : P.underlying tx = some .string) (hb : s.data.toList = bs) : SrcOf P L Φ 1 tx (.is (.string s)) bs.length (bs.flatMap bC) := fun E w v _ _ h => by
  rw [show v = _ from h]
  have := Src.ofString (P := P) w hk s
  rw [byteCells_eq, hb] at this
  have e : s.size = bs.length := by rw [← hb]; simp
  rwa [e] at this
theorem src_slC {α : Type} {enc : α → List Value} {sz : Nat} {P : Program} {L : List Own} {Φ : List (World → Prop)} {tx e' : TypeId} {xs : List α} (hsz : ∀ x, (enc x).length = sz) (hp : 0 < sz) (h1 : ∀ x, ∀ u ∈ enc x, u.oneCell' = true) (hk : P.underlying tx = some (.slice e')) : SrcOf P L Φ sz tx (.rep (SlC enc sz xs)) xs.length (xs.flatMap enc) := fun E w v hL hF h =>
  src_sl hsz hp h1 hk E w v hL hF (fun w' hk => (h w' hk).g)
theorem src_slF {α : Type} {enc : α → List Value} {sz : Nat} {P : Program} {L : List Own} {Φ : List (World → Prop)} {tx e' : TypeId} {xs : List α} {a : Option Addr} {len cap : Nat} (hsz : ∀ x, (enc x).length = sz) (hp : 0 < sz) (h1 : ∀ x, ∀ u ∈ enc x, u.oneCell' = true) (hk : P.underlying tx = some (.slice e')) (hF : RowG enc sz xs a len ∈ Φ) : SrcOf P L Φ sz tx (.is (.slice a len cap)) xs.length (xs.flatMap enc) := fun E w v hL hΦ h =>
  src_sl hsz hp h1 hk E w v hL hΦ (by rw [show v = _ from h]; exact fun w' hk => ⟨a, len, cap, rfl, hΦ _ hF w' hk⟩)
theorem bC_one (b : UInt8) : ∀ u ∈ bC b, u.oneCell' = true := fun u h => by
  simp only [bC, List.mem_singleton] at h
  subst h
  rfl
abbrev adS (a : Option Addr) (l m sz : Nat) : Option Addr := if m = l then a else a.map (·.add (l * sz))
theorem rowG_part {α : Type} {enc : α → List Value} {sz : Nat} {xs : List α} {a : Option Addr} {len cap : Nat} {w : World} (h : RowG enc sz xs a len w) (hc : len ≤ cap) (l n : Nat) (hn : l + n ≤ len) : RowG enc sz ((xs.drop l).take n) (adS a l cap sz) n w := by
  obtain ⟨hl, hk⟩ := h
  refine ⟨by rw [List.length_take, List.length_drop]; omega, fun hne => ?_⟩
  obtain ⟨b, o, ha, hr⟩ := hk (by omega)
  refine ⟨b, o + l * sz, ?_, fun i x hx => ?_⟩
  · unfold adS
    rw [if_neg (by omega), ha, Option.map_some, add_at]
  · rw [List.getElem?_take] at hx
    split at hx
    · rw [List.getElem?_drop] at hx
      have := hr _ x hx
      rwa [show o + sz * (l + i) = o + l * sz + sz * i by rw [Nat.mul_add, Nat.mul_comm sz l]; omega] at this
    · cases hx
section
variable {P : Program} {L : List Own} {Φ : List (World → Prop)} {H : Know} {dst : Option Nat} {ty : TypeId} {pos : String} {after : Array Edge} {g : Option (Nat × Bool)}
theorem el_size {t e : TypeId} {sz : Nat} {w : World} (hu : P.underlying t = some (.slice e)) (hs : elSize P t = some sz) : P.underlying t = some (.slice (P.elem t)) ∧ (sizeOf (P.elem t)).run P w = .ok sz w := by
  have hel : P.elem t = e := by unfold Program.elem; rw [hu]
  refine ⟨by rw [hel]; exact hu, ?_⟩
  unfold elSize at hs
  rw [hu] at hs
  rw [hel]
  simp only at hs
  cases hi' : P.info? e with
  | none => rw [hi'] at hs; cases hs
  | some i => rw [hi', Option.map_some, Option.some.injEq] at hs; simp [Go.sizeOf, typeInfo, hi', hs]
theorem ob_sliceLo {t e : TypeId} {x lo : Operand} {a : Option Addr} {len cap sz : Nat} {k : IntKind} {n : Int} (hu : P.underlying t = some (.slice e)) (hs : elSize P t = some sz) (hx : H x (.is (.slice a len cap))) (hl : H lo (.is (.int k n))) (h0 : 0 ≤ n) (h1 : n ≤ len) :
    Ob P L Φ H ⟨dst, .slice t x (some lo) none none, ty, pos, after, g⟩ (.is (.slice (adS a n.toNat cap sz) (len - n.toNat) (cap - n.toNat))) :=
  ob_is fun E w ρ hp => by
    have e1 : ρ x = .slice a len cap := hp.x x _ (by simp [Op.operands]) hx
    have e2 : ρ lo = .int k n := hp.x lo _ (by simp [Op.operands]) hl
    obtain ⟨hu', hsz⟩ := el_size (w := w) hu hs
    simp only [execOp, e1, e2, Option.map_some, Option.map_none]
    have h := run_slice_l (P := P) w t a len cap hu' k n h0 h1
    have hsl : (Instr.sliceAt t (.slice a len cap) (some (.int k n)) none none).run P w = .ok (.slice (adS a n.toNat cap sz) (len - n.toNat) (cap - n.toNat)) w := by
      rw [run_sliceAt_slice (P := P) w t _ _ _ _ hu', h, hsz, Result.andThen_ok]
      rfl
    simp [hsl]
theorem ob_sliceLH {t e : TypeId} {x lo hi : Operand} {a : Option Addr} {len cap sz : Nat} {k k' : IntKind} {n m : Int} (hu : P.underlying t = some (.slice e)) (hs : elSize P t = some sz) (hx : H x (.is (.slice a len cap))) (hl : H lo (.is (.int k n))) (hh : H hi (.is (.int k' m))) (h0 : 0 ≤ n) (h1 : n ≤ m) (h2 : m ≤ cap) :
    Ob P L Φ H ⟨dst, .slice t x (some lo) (some hi) none, ty, pos, after, g⟩ (.is (.slice (adS a n.toNat cap sz) (m.toNat - n.toNat) (cap - n.toNat))) :=
  ob_is fun E w ρ hp => by
    have e1 : ρ x = .slice a len cap := hp.x x _ (by simp [Op.operands]) hx
    have e2 : ρ lo = .int k n := hp.x lo _ (by simp [Op.operands]) hl
    have e3 : ρ hi = .int k' m := hp.x hi _ (by simp [Op.operands]) hh
    obtain ⟨hu', hsz⟩ := el_size (w := w) hu hs
    simp only [execOp, e1, e2, e3, Option.map_some, Option.map_none]
    have h := run_slice_lh (P := P) w t a len cap hu' k k' n m h0 h1 h2
    have hsl : (Instr.sliceAt t (.slice a len cap) (some (.int k n)) (some (.int k' m)) none).run P w = .ok (.slice (adS a n.toNat cap sz) (m.toNat - n.toNat) (cap - n.toNat)) w := by
      rw [run_sliceAt_slice (P := P) w t _ _ _ _ hu', h, hsz, Result.andThen_ok]
      rfl
    simp [hsl]
end
end Go.Vc

namespace Go.Vc
open Go
section
variable {P : Program} {L : List Own} {Φ : List (World → Prop)} {H : Know} {dst : Option Nat} {ty : TypeId} {pos : String} {after : Array Edge} {g : Option (Nat × Bool)}
variable {xt yt : TypeId} {x y : Operand} {k k' : IntKind} {a b v : Int}
theorem ob_addv (hx : H x (.is (.int k a))) (hy : H y (.is (.int k b))) (h : k.wrap (a + b) = v) : Ob P L Φ H ⟨dst, .binOp .add xt x y yt, ty, pos, after, g⟩ (.is (.int k v)) := h ▸ ob_add hx hy
theorem ob_subv (hx : H x (.is (.int k a))) (hy : H y (.is (.int k b))) (h : k.wrap (a - b) = v) : Ob P L Φ H ⟨dst, .binOp .sub xt x y yt, ty, pos, after, g⟩ (.is (.int k v)) := h ▸ ob_sub hx hy
theorem ob_mulv (hx : H x (.is (.int k a))) (hy : H y (.is (.int k b))) (h : k.wrap (a * b) = v) : Ob P L Φ H ⟨dst, .binOp .mul xt x y yt, ty, pos, after, g⟩ (.is (.int k v)) := h ▸ ob_mul hx hy
theorem ob_shrv (hx : H x (.is (.int k a))) (hy : H y (.is (.int k' b))) (hb : 0 ≤ b) (h : a.fdiv (2 ^ (min b.toNat k.bits)) = v) : Ob P L Φ H ⟨dst, .binOp .shr xt x y yt, ty, pos, after, g⟩ (.is (.int k v)) := h ▸ ob_shr hx hy (decide_eq_true hb)
theorem ob_shlv (hx : H x (.is (.int k a))) (hy : H y (.is (.int k' b))) (hb : 0 ≤ b) (h : k.wrap (a * 2 ^ (min b.toNat k.bits)) = v) : Ob P L Φ H ⟨dst, .binOp .shl xt x y yt, ty, pos, after, g⟩ (.is (.int k v)) := h ▸ ob_shl hx hy (decide_eq_true hb)
theorem ob_orv (hx : H x (.is (.int k a))) (hy : H y (.is (.int k b))) (h : k.wrap (BitVec.ofInt k.bits a ||| BitVec.ofInt k.bits b).toNat = v) : Ob P L Φ H ⟨dst, .binOp .or xt x y yt, ty, pos, after, g⟩ (.is (.int k v)) := h ▸ ob_or hx hy
theorem ob_xorv (hx : H x (.is (.int k a))) (hy : H y (.is (.int k b))) (h : k.wrap (BitVec.ofInt k.bits a ^^^ BitVec.ofInt k.bits b).toNat = v) : Ob P L Φ H ⟨dst, .binOp .xor xt x y yt, ty, pos, after, g⟩ (.is (.int k v)) := h ▸ ob_xor hx hy
theorem ob_quov (hx : H x (.is (.int k a))) (hy : H y (.is (.int k b))) (hb : b ≠ 0) (h : k.wrap (a.tdiv b) = v) : Ob P L Φ H ⟨dst, .binOp .quo xt x y yt, ty, pos, after, g⟩ (.is (.int k v)) := h ▸ ob_quo hx hy hb
theorem ob_remv (hx : H x (.is (.int k a))) (hy : H y (.is (.int k b))) (hb : b ≠ 0) (h : a.tmod b = v) : Ob P L Φ H ⟨dst, .binOp .rem xt x y yt, ty, pos, after, g⟩ (.is (.int k v)) := h ▸ ob_rem hx hy hb
end
theorem wrap_u64 (n : Int) : IntKind.u64.wrap n = n % 18446744073709551616 := by
  first | exact IntKind.wrap_u64 n | (unfold IntKind.wrap; rfl) | simp [IntKind.wrap]
theorem wrap_u8 (n : Int) : IntKind.u8.wrap n = n % 256 := by
  first | exact IntKind.wrap_u8 n | (unfold IntKind.wrap; rfl) | simp [IntKind.wrap]
theorem bv_toNat {a : Nat} (h : a < 2 ^ 64) : (BitVec.ofInt 64 (a : Int)).toNat = a := by
  rw [BitVec.toNat_ofInt]
  have : ((2 ^ 64 : Nat) : Int) = 18446744073709551616 := by decide
  omega
theorem or64 {a b : Nat} (ha : a < 2 ^ 64) (hb : b < 2 ^ 64) : IntKind.u64.wrap ((BitVec.ofInt 64 (a : Int) ||| BitVec.ofInt 64 (b : Int)).toNat : Int) = ((a ||| b : Nat) : Int) := by
  rw [BitVec.toNat_or, bv_toNat ha, bv_toNat hb, wrap_u64]
  have := Nat.or_lt_two_pow ha hb
  omega
theorem xor64 {a b : Nat} (ha : a < 2 ^ 64) (hb : b < 2 ^ 64) : IntKind.u64.wrap ((BitVec.ofInt 64 (a : Int) ^^^ BitVec.ofInt 64 (b : Int)).toNat : Int) = ((a ^^^ b : Nat) : Int) := by
  rw [BitVec.toNat_xor, bv_toNat ha, bv_toNat hb, wrap_u64]
  have := Nat.xor_lt_two_pow ha hb
  omega
theorem or_add (k a : Nat) {b : Nat} (h : b < 2 ^ k) : 2 ^ k * a ||| b = 2 ^ k * a + b := (Nat.two_pow_add_eq_or_of_lt h a).symm
theorem xor_top {y : Nat} (h : y < 2 ^ 63) : y ^^^ 2 ^ 63 = y + 2 ^ 63 := by
  have h1 : y ^^^ 2 ^ 63 = 2 ^ 63 * 1 ||| y := by
    apply Nat.eq_of_testBit_eq
    intro i
    rw [Nat.testBit_xor, Nat.testBit_or, Nat.mul_one, Nat.testBit_two_pow]
    by_cases hi : 63 = i
    · subst hi
      rw [Nat.testBit_lt_two_pow h]
      simp
    · simp [hi]
  rw [h1, or_add 63 1 h]
  omega
theorem xor_half {u : Nat} (h : u < 18446744073709551616) : u ^^^ 9223372036854775808 = (u + 9223372036854775808) % 18446744073709551616 := by
  by_cases hu : u < 9223372036854775808
  · have := xor_top (y := u) (by simpa using hu)
    have e : (2 ^ 63 : Nat) = 9223372036854775808 := by decide
    rw [e] at this
    omega
  · obtain ⟨y, rfl⟩ : ∃ y, u = y + 9223372036854775808 := ⟨u - 9223372036854775808, by omega⟩
    have hy : y < 9223372036854775808 := by omega
    have := xor_top (y := y) (by simpa using hy)
    have e : (2 ^ 63 : Nat) = 9223372036854775808 := by decide
    rw [e] at this
    rw [← this, Nat.xor_assoc, Nat.xor_self, Nat.xor_zero]
    omega
end Go.Vc

namespace Go.Vc
open Go
structure CallMT (P : Program) (f : FuncId) (ety : TypeId) (T0 : Ty) (Φ0 : List (World → Prop)) (As : List Ty) (T1 R : Ty) : Prop where
  enter : ∀ args w, (callFunc f args).run P w = .ok (.enter f args) w
  calls : ∀ (E : Nat → Prop) (w : World) (b : Nat) (vs : List Value), (∀ b, E b → b < w.heap.size) → (⟨b, ety, T0⟩ : Own).at E w → (∀ F ∈ Φ0, Pers E w F) → TyAll E w As vs →
    Calls P f (.pointer (some ⟨b, 0, none⟩) :: vs).toArray w fun e w' => ∃ v, e = .returned v ∧ Keeps (fun q => q = b) w w' ∧ (⟨b, ety, T1⟩ : Own).at E w' ∧ R.p E v w'
section
variable {P : Program} {L : List Own} {Φ : List (World → Prop)} {H : Know} {dst : Option Nat} {ty : TypeId} {pos : String} {after : Array Edge} {g : Option (Nat × Bool)}
theorem run_callMT {f : FuncId} {ety : TypeId} {T0 T1 : Ty} {Φ0 : List (World → Prop)} {As : List Ty} {R : Ty} (hc : CallMT P f ety T0 Φ0 As T1 R) {M M' : List Own} {b : Nat} (hu : Upd M ⟨b, ety, T0⟩ ⟨b, ety, T1⟩ M') (hΦ : ∀ F ∈ Φ0, F ∈ Φ)
    {E : Nat → Prop} {w : World} {vs : List Value} (hw : ∀ b, E b → b < w.heap.size) (hf : ∀ F ∈ Φ, Pers E w F) (ht : TyAll E w As vs) (hM : ∀ m ∈ M, m.at E w) (hnd : (M.map (·.b)).Nodup) :
    Runs P ((callFunc f (.pointer (some ⟨b, 0, none⟩) :: vs).toArray).run P w) fun v w' => Keeps (fun b => b ∈ M.map (·.b)) w w' ∧ R.p E v w' ∧ ∀ m ∈ M', m.at E w' := by
  rw [hc.enter]
  have hE := (hM _ hu.mem).1
  refine Calls.mono (hc.calls E w b vs hw (hM _ hu.mem) (fun F hF => hf F (hΦ F hF)) ht) ?_
  rintro e w' ⟨v, rfl, hk, hb, hR⟩
  have hev : Ev E w E w' := Ev.of_keeps (hk.mono fun q _ e => by rw [e]; exact hE)
  exact ⟨hk.mono fun q _ e => by rw [e]; exact List.mem_map_of_mem hu.mem, hR, hu.all hnd (fun m hm hne => Own.keep (hM m hm) hev (hk.blk _ (lt_of_get (hM m hm).2.choose_spec.1) hne)) hb⟩
theorem obm_callT {f : FuncId} {p : Operand} {xs : List Operand} {ats : Array TypeId} {ety : TypeId} {T0 T1 : Ty} {Φ0 : List (World → Prop)} {As : List Ty} {R : Ty} {M M' : List Own} {b : Nat} (hf : H (.func f) (.is (.func (.func f) #[] #[]))) (hp' : H p (.is (.pointer (some ⟨b, 0, none⟩)))) (hc : CallMT P f ety T0 Φ0 As T1 R)
    (hu : Upd M ⟨b, ety, T0⟩ ⟨b, ety, T1⟩ M') (hΦ : ∀ F ∈ Φ0, F ∈ Φ) (ha : Args L Φ H xs As) :
    ObM P L Φ H M ⟨dst, .call { callee := .value (.func f), args := (p :: xs).toArray, argTypes := ats }, ty, pos, after, g⟩ R M' := fun E w ρ hp hM hnd => by
  have h1 : ρ (.func f) = .func (.func f) #[] #[] := hp.x _ _ (by simp [Op.operands, Call.operands]) hf
  have h2 : ρ p = .pointer (some ⟨b, 0, none⟩) := hp.x p _ (by simp [Op.operands, Call.operands]) hp'
  have hall := ha.all (ρ := ρ) (pre_facts hp) fun x T hx => hp.x x T (by simp [Op.operands, Call.operands, hx])
  have h3 := run_callMT hc hu hΦ hp.wf hp.f hall hM hnd
  simp only [execOp, resolve, h1, Deferred.ofValue, invoke, Sem.run_bind, Sem.run_pure, Result.andThen_ok, List.map_toArray, List.map_cons, h2]
  simpa using h3
def PostMT (X : Nat → Prop) (W : World) (b : Nat) (ety : TypeId) (T1 R : Ty) : Ending → World → Prop := fun e w' => ∃ v, e = .returned v ∧ Keeps (fun q => q = b) W w' ∧ (⟨b, ety, T1⟩ : Own).at X w' ∧ R.p X v w'
variable {K : List (Nat × Ty)} {fn : Func} {R T1 T : Ty} {n : Nat} {X : Nat → Prop} {W : World}
theorem JX.retMTOf {b : Nat} {ety : TypeId} (ho1 : T1.out = true) (ho : R.out = true) (hm : (⟨b, ety, T⟩ : Own) ∈ L) (hS : Sub L Φ T T1) (hXb : X b) (hr : ∀ a w E, SA ⟨n, X, fun q => q = b, W⟩ K L Φ E a w → ∃ v, (results fn a.tmps).run P w = .ok v w ∧ R.p E v w) : JX ⟨n, X, fun q => q = b, W⟩ K L Φ .ret (bodyPost P fn (PostMT X W b ety T1 R)) := by
  refine ⟨?_⟩
  intro E a w hs
  obtain ⟨v, h1, h2⟩ := hr a w E hs
  obtain ⟨q1, V, q2, q3⟩ := hs.l _ hm
  exact ⟨hs.d, v, h1, v, rfl, hs.keeps, ⟨hXb, V, q2, Ty.weak (fun b _ => hs.x b) ho1 (hS E V w ⟨hs.l, hs.f⟩ q3)⟩, Ty.weak (fun b _ => hs.x b) ho h2⟩
theorem JX.retMT0 {b : Nat} {ety : TypeId} (hres : fn.results = #[]) (ho1 : T1.out = true) (hXb : X b) (hm : (⟨b, ety, T⟩ : Own) ∈ L) (hS : Sub L Φ T T1) : JX ⟨n, X, fun q => q = b, W⟩ K L Φ .ret (bodyPost P fn (PostMT X W b ety T1 (.is (.tuple #[])))) :=
  JX.retMTOf ho1 rfl hm hS hXb fun a w E hs => ⟨_, results_none hres _ _ _, rfl⟩
theorem JX.retMT1 {b : Nat} {ety : TypeId} {t : Nat} {T' : Ty} (hres : fn.results = #[.tmp t]) (ho1 : T1.out = true) (ho : R.out = true) (hXb : X b) (hm : (⟨b, ety, T⟩ : Own) ∈ L) (hS : Sub L Φ T T1) (h : look K t = some T') (hR : Sub L Φ T' R) : JX ⟨n, X, fun q => q = b, W⟩ K L Φ .ret (bodyPost P fn (PostMT X W b ety T1 R)) :=
  JX.retMTOf ho1 ho hm hS hXb fun a w E hs => ⟨_, results_tmp hres _ _ _, hR E _ w ⟨hs.l, hs.f⟩ (hs.k t _ h)⟩
theorem JX.retMTC {b : Nat} {ety : TypeId} {s b' m : Nat} {t ety' : TypeId} {cs : Array Value} {V : Value} (hres : fn.results = #[.cell s t]) (ho1 : T1.out = true) (hXb : X b) (hm : (⟨b, ety, T⟩ : Own) ∈ L) (hS : Sub L Φ T T1) (h : look K s = some (.is (.pointer (some ⟨b', 0, none⟩)))) (hs' : szOf P t = some (some m)) (hm' : ⟨b', ety', .is (.agg cs)⟩ ∈ L) (hn : cs.size = m) (he : .agg cs = V) :
    JX ⟨n, X, fun q => q = b, W⟩ K L Φ .ret (bodyPost P fn (PostMT X W b ety T1 (.is V))) := by
  subst he
  exact JX.retMTOf ho1 rfl hm hS hXb fun a w E hs => by
    obtain ⟨v, h1, h2⟩ := res_cell (P := P) hs' (hs.l _ hm') (agg_is hn)
    have e : a.tmps.getD s undef = .pointer (some ⟨b', 0, none⟩) := hs.k s _ h
    rw [Array.getD_eq_getD_getElem?] at e
    exact ⟨v, by simp [results, hres, Array.getD_eq_getD_getElem?, e, asAddr, h1], h2⟩
theorem CallMT.of {f : FuncId} {x : Code} {ety : TypeId} {T0 : Ty} {Φ0 : List (World → Prop)} {As : List Ty} (hf : P.funcs[f]? = some fn) (hb : fn.body = some x) (hn : fn.ntmps = n) (hl : Nat.ble (As.length + 1) n = true) (he : ∀ args w, (callFunc f args).run P w = .ok (.enter f args) w)
    (h : ∀ (E : Nat → Prop) (W : World) (b : Nat), E b → J P ⟨n, E, fun q => q = b, W⟩ ((0, .is (.pointer (some ⟨b, 0, none⟩))) :: params 1 As) [⟨b, ety, T0⟩] Φ0 x (bodyPost P fn (PostMT E W b ety T1 R))) : CallMT P f ety T0 Φ0 As T1 R :=
  ⟨he, fun E w b vs hw hb0 hΦ ht => by
    refine calls_of_wp hf hb ?_
    rw [hn]
    refine (h E w b hb0.1).out E _ w ?_
    have h0 : TyAll E w (.is (.pointer (some ⟨b, 0, none⟩)) :: As) (.pointer (some ⟨b, 0, none⟩) :: vs) := ⟨rfl, ht⟩
    have hs := sa_start (n := n) hw h0 (Nat.le_of_ble_eq_true hl)
    refine ⟨hs.n, hs.d, hw, hs.k, ?_, by simp, hΦ, fun _ h => h, hw, .refl _ _, fun o ho => ?_⟩
    · intro o ho
      rcases List.mem_cons.1 ho with rfl | ho
      · exact hb0
      · cases ho
    · rcases List.mem_cons.1 ho with rfl | ho
      · exact .inl rfl
      · cases ho⟩
end
section
variable {P : Program} {c : Ctx} {K : List (Nat × Ty)} {L L' : List Own} {Φ : List (World → Prop)} {Q : Exit → Act → World → Prop}
theorem Upd.same {M M' : List Own} {o o' : Own} (h : Upd M o o' M') (e : o'.b = o.b) : M'.map (·.b) = M.map (·.b) := by
  induction h with
  | here => simp [e]
  | there _ ih => simp [ih e]
theorem SA.coerO {E : Nat → Prop} {a : Act} {w : World} {b : Nat} {e : TypeId} {T T' : Ty} (hu : Upd L ⟨b, e, T⟩ ⟨b, e, T'⟩ L') (hS : Sub L Φ T T') (hs : SA c K L Φ E a w) : SA c K L' Φ E a w := by
  have hat : (⟨b, e, T'⟩ : Own).at E w := by
    obtain ⟨h1, v, h2, h3⟩ := hs.l _ hu.mem
    exact ⟨h1, v, h2, hS E v w ⟨hs.l, hs.f⟩ h3⟩
  have hmap : L'.map (·.b) = L.map (·.b) := hu.same rfl
  refine ⟨hs.n, hs.d, hs.wf, hs.k, hu.all hs.ld (fun m hm _ => hs.l m hm) hat, by rw [hmap]; exact hs.ld, hs.f, hs.x, hs.xs, hs.keeps, fun o ho => ?_⟩
  have : o.b ∈ L.map (·.b) := by rw [← hmap]; exact List.mem_map_of_mem ho
  obtain ⟨m, hm, e'⟩ := List.mem_map.1 this
  rw [← e']
  exact hs.may m hm
theorem J.coerO {x : Code} {b : Nat} {e : TypeId} {T T' : Ty} (hu : Upd L ⟨b, e, T⟩ ⟨b, e, T'⟩ L') (hS : Sub L Φ T T') (h : J P c K L' Φ x Q) : J P c K L Φ x Q := ⟨fun E a w hs => h.out E a w (hs.coerO hu hS)⟩
theorem JO.coerO {ops : Array Oper} {l : List Oper} {b : Nat} {e : TypeId} {T T' : Ty} (hu : Upd L ⟨b, e, T⟩ ⟨b, e, T'⟩ L') (hS : Sub L Φ T T') (h : JO P c K L' Φ ops l Q) : JO P c K L Φ ops l Q := ⟨fun E a w hs => h.out E a w (hs.coerO hu hS)⟩
theorem J.openAt {x : Code} {b : Nat} {e : TypeId} {R : Value → World → Prop} {C : Ty → List Own} (hu : ∀ T, Upd L ⟨b, e, .rep R⟩ ⟨b, e, T⟩ (C T)) (hj : ∀ v, (∃ w, R v w) → J P c K (C (.is v)) (R v :: Φ) x Q) : J P c K L Φ x Q := by
  refine ⟨fun E a w hs => ?_⟩
  obtain ⟨h1, v, h2, h3⟩ := hs.l _ (hu .any).mem
  have h3' : Pers E w (R v) := h3
  have hs2 : SA c K L (R v :: Φ) E a w := ⟨hs.n, hs.d, hs.wf, hs.k, hs.l, hs.ld, fun F hF => by
    rcases List.mem_cons.1 hF with rfl | hF
    · exact h3'
    · exact hs.f F hF, hs.x, hs.xs, hs.keeps, hs.may⟩
  have hb : w.heap[b]? = some (.cells v.cells e (0, 0)) := h2
  refine (hj v ⟨w, h3'.now⟩).out E a w ?_
  have hat : (⟨b, e, .is v⟩ : Own).at E w := ⟨h1, v, h2, rfl⟩
  have hup := hu (.is v)
  refine ⟨hs2.n, hs2.d, hs2.wf, hs2.k, hup.all hs2.ld (fun m hm _ => hs2.l m hm) hat, by rw [hup.same rfl]; exact hs2.ld, hs2.f, hs2.x, hs2.xs, hs2.keeps, fun o ho => ?_⟩
  have : o.b ∈ L.map (·.b) := by rw [← hup.same rfl]; exact List.mem_map_of_mem ho
  obtain ⟨m, hm, e'⟩ := List.mem_map.1 this
  rw [← e']
  exact hs2.may m hm
end
end Go.Vc

namespace Go.Vc
open Go
section
variable {P : Program} {c : Ctx} {K : List (Nat × Ty)} {L : List Own} {Φ : List (World → Prop)} {Q : Exit → Act → World → Prop} {ops : Array Oper} {rest : List Oper}
theorem JO.buildOwn0 {d : Nat} {t e ty : TypeId} {pos : String} {after : Array Edge} {sz : Nat} {z : List Value} (hsh : SlShape P t e sz z) (hd : Nat.blt d c.n = true)
    (hj : ∀ b, JO P c ((d, .is (sliceO (some (b, [])) 0 0)) :: K) (ownO (some (b, [])) e L) Φ ops rest Q) : JO P c K L Φ ops (⟨some d, .buildSlice t 0 #[], ty, pos, after, none⟩ :: rest) Q := by
  refine ⟨?_⟩
  intro E a w hs
  refine wpList_plain rfl fun K' hK => ?_
  obtain ⟨E', h⟩ := hs.newS (t := e) (u := .agg #[]) (n := 0) (Nat.le_of_ble_eq_true hd)
  obtain ⟨ie, zv, h1, h2, h3, h4⟩ := hsh.hi
  unfold Oper.wp
  have hrun : (execOp a.eval ⟨some d, .buildSlice t 0 #[], ty, pos, after, none⟩).run P w = .ok (.value (.slice (some ⟨w.heap.size, 0, none⟩) 0 0)) (w.alloc (.cells #[] e)) := by
    have h0 : Array.range 0 = #[] := by decide
    simp [h0, execOp, Instr.buildSlice, run_underlying hsh.hu, sizeOf, typeInfo, h1, Instr.fill, newRow]
  rw [hrun]
  exact hK _ _ ((hj _).out E' _ _ h)
theorem JO.apS {α : Type} {en : α → List Value} {sz : Nat} {L' : List Own} {d : Nat} {ty t tx e : TypeId} {pos : String} {after : Array Edge} {s x : Operand} {bytes cap : Nat} {xs : List α} (ys : List α) {p : Nat × List Value} {TX : Ty} {C : Option (Nat × List Value) → List Own}
    (hT : ApTy P t e sz bytes) (hC : Cx e L (some p) C L') (hG : Grows en sz xs (some p) cap) (h0 : opTy K s = some (.is (sliceO (some p) xs.length cap))) (hx : opTy K x = some TX) (hS : ∀ L, SrcOf P L Φ sz tx TX ys.length (ys.flatMap en)) (hfit : (xs.length + ys.length) * bytes ≤ 140737488355328) (h63 : xs.length + ys.length ≤ 9223372036854775807) (hd : Nat.blt d c.n = true)
    (hn : ∀ (p' : Nat × List Value) (cap' : Nat), Grows en sz (xs ++ ys) (some p') cap' → JO P c ((d, .is (sliceO (some p') (xs ++ ys).length cap')) :: K) (C (some p')) Φ ops rest Q) :
    JO P c K L Φ ops (⟨some d, .call { callee := .builtin .append, args := #[s, x], argTypes := #[t, tx] }, ty, pos, after, none⟩ :: rest) Q := by
  refine JO.subL hC.tl.perm ?_
  obtain ⟨b, cs⟩ := p
  obtain ⟨h1, h2, h3⟩ := hG
  refine JO.ap hT h0 hx (hS _) h1 h2 hfit h63 hd fun b' cap' cs' k1 k2 k3 => ?_
  have := hn (b', cs') cap' ⟨k1, by rw [List.length_append]; exact k2, by rw [List.length_append, k3, h3, List.flatMap_append]⟩
  have h4 := JO.subL (hC.back (some (b', cs'))) this
  simpa [sliceO, ownO] using h4
end
section
variable {L : List Own} {Φ : List (World → Prop)} {α : Type} {en : α → List Value} {sz : Nat}
theorem Sub.newSlC {xs : List α} {cs : List Value} {e : TypeId} {n cap : Nat} (hsz : ∀ x, (en x).length = sz) (hn : xs.length = n) (hc : xs.flatMap en = cs) (hcap : n ≤ cap) :
    Sub L Φ (.newSl (.cells cs.toArray e (0, 0)) n cap) (.rep (SlC en sz xs)) := fun E v w hf h => by
  have h2 := Sub.newSlG (L := L) (Φ := Φ) (cap := cap) (e := e) hsz hn hc E v w hf h
  obtain ⟨b, rfl, _, _⟩ := h
  intro w' hk
  obtain ⟨a, len, cap', e1, hr⟩ := h2 w' hk
  injection e1 with q1 q2 q3
  subst q1 q2 q3
  exact ⟨_, _, _, rfl, hcap, hr⟩
end
theorem veq_iff (a b : V3) : veq a.k a.n a.s b.k b.n b.s = true ↔ a = b := by
  unfold veq
  rw [Bool.and_eq_true, Bool.and_eq_true, beq_iff_eq, beq_iff_eq]
  constructor
  · rintro ⟨h1, h2, h3⟩
    have h3 : a.s = b.s := by
      unfold seq at h3
      rw [ByteArray.toList_eq, ByteArray.toList_eq, beq_iff_eq] at h3
      cases ha : a.s; cases hb : b.s
      rw [ha, hb] at h3
      simpa using h3
    cases a; cases b; simp_all
  · rintro rfl
    exact ⟨rfl, rfl, by unfold seq; simp⟩
end Go.Vc

namespace Go.Vc
open Go
def FreshW (N : Nat) (e : TypeId) (a : Option Addr) (len cap sz : Nat) (w : World) : Prop := len ≠ 0 → ∃ b cs, a = some ⟨b, 0, none⟩ ∧ N ≤ b ∧ w.heap[b]? = some (.cells cs e (0, 0)) ∧ cs.size = cap * sz
def SlW {α : Type} (N : Nat) (e : TypeId) (en : α → List Value) (sz : Nat) (xs : List α) (v : Value) (w : World) : Prop := ∃ a len cap, v = .slice a len cap ∧ len ≤ cap ∧ (len = 0 → a = none ∧ cap = 0) ∧ RowG en sz xs a len w ∧ FreshW N e a len cap sz w
def NSl {α : Type} (N : Nat) (en : α → List Value) (sz : Nat) (xs : List α) (v : Value) (w : World) : Prop := N ≤ w.heap.size ∧ SlC en sz xs v w
def capO (st : Option (Nat × List Value)) (cap : Nat) : Nat := match st with | none => 0 | some _ => cap
section
variable {α : Type} {en : α → List Value} {sz : Nat} {P : Program} {c : Ctx} {K K' : List (Nat × Ty)} {L L' : List Own} {Φ Φ0 : List (World → Prop)} {Q : Exit → Act → World → Prop}
theorem Sub.ofNSl {N : Nat} {xs : List α} : Sub L Φ (.rep (NSl N en sz xs)) (.rep (SlC en sz xs)) := fun E v w hf ht => fun w' hk => (ht w' hk).2
theorem Sub.nsl {N : Nat} {xs : List α} {T : Ty} (h : Sub L Φ T (.rep (SlC en sz xs))) (hN : (fun w : World => N ≤ w.heap.size) ∈ Φ) : Sub L Φ T (.rep (NSl N en sz xs)) := fun E v w hf ht => fun w' hk => ⟨hf.2 _ hN w' hk, h E v w hf ht w' hk⟩
theorem Grows.sl {xs : List α} {st : Option (Nat × List Value)} {cap : Nat} (h : Grows en sz xs st cap) : sliceO st xs.length cap = .slice (adO st) xs.length (capO st cap) ∧ xs.length ≤ capO st cap := by
  cases st with
  | none =>
    have : xs = [] := h
    subst this
    exact ⟨rfl, Nat.le_refl _⟩
  | some p => exact ⟨rfl, h.2.1⟩
theorem J.freezeOW {xs : List α} {cap N : Nat} {x : Code} {st : Option (Nat × List Value)} {e : TypeId} (hN : N ≤ c.W0.heap.size) (hen : ∀ x, (en x).length = sz) (hG : Grows en sz xs st cap) (hTl : Tl e L st L') (h0 : ∀ q, ¬ c.X0 q) (hK : K.all (fun p => p.2.out) = true) (hL : L'.all (fun o => o.T.out) = true)
    (h : J P c K L' (FreshW N e (adO st) xs.length (capO st cap) sz :: RowG en sz xs (adO st) xs.length :: Φ) x Q) : J P c K L Φ x Q := by
  refine J.subL (L' := ownO st e L') (fun o ho => (hTl.perm.mem_iff).1 ho) (fun hn => ((hTl.perm.map _).nodup_iff).2 hn) ?_
  cases st with
  | none =>
    have hG : xs = [] := hG
    subst hG
    exact J.fact (RowG en sz [] (adO none) ([] : List α).length) (fun E w _ _ => fun w' _ => ⟨rfl, fun h => absurd rfl h⟩) (J.fact (FreshW N e (adO none) ([] : List α).length (capO none cap) sz) (fun E w _ _ => fun w' _ h => absurd rfl h) h)
  | some p =>
    obtain ⟨b, cs⟩ := p
    obtain ⟨h1, h2, h3⟩ := hG
    refine ⟨fun E a w hs => ?_⟩
    have hbW : c.W0.heap.size ≤ b := (hs.may _ List.mem_cons_self).resolve_left (h0 b)
    refine (J.freeze (P := P) (Q := Q) (x := x) (b := b) (e := e) (cs := cs) h0 hK hL ?_).out E a w hs
    refine J.fact (RowG en sz xs (adO (some (b, cs))) xs.length) (fun E w hF _ => fun w' hk => ?_) (J.fact (FreshW N e (adO (some (b, cs))) xs.length (capO (some (b, cs)) cap) sz) (fun E w hF _ => fun w' hk _ => ?_) (J.subΦ (fun F hF => ?_) h))
    · have hh := hF _ List.mem_cons_self w' hk
      obtain ⟨a, len, cap', e1, hr⟩ := sl_of_heap hen rfl h3 hh cap
      injection e1 with e1 e2 e3
      subst e1 e2
      exact hr
    · have hh : w'.heap[b]? = some (.cells cs.toArray e (0, 0)) := hF _ (List.mem_cons_of_mem _ List.mem_cons_self) w' hk
      exact ⟨b, cs.toArray, rfl, Nat.le_trans hN hbW, hh, by simp only [List.size_toArray]; exact h1⟩
    · rcases List.mem_cons.1 hF with rfl | hF
      · exact List.mem_cons_self
      · rcases List.mem_cons.1 hF with rfl | hF
        · exact List.mem_cons_of_mem _ List.mem_cons_self
        · exact List.mem_cons_of_mem _ (List.mem_cons_of_mem _ (List.mem_cons_of_mem _ hF))
theorem Sub.slW {N : Nat} {e : TypeId} {xs : List α} {st : Option (Nat × List Value)} {cap : Nat} (hG : Grows en sz xs st cap) (hne : xs = [] → st = none) (hR : RowG en sz xs (adO st) xs.length ∈ Φ) (hF : FreshW N e (adO st) xs.length (capO st cap) sz ∈ Φ) : Sub L Φ (.is (sliceO st xs.length cap)) (.rep (SlW N e en sz xs)) := by
  obtain ⟨h1, h2⟩ := hG.sl
  rw [h1]
  refine fun E v w hf e1 => ?_
  rw [show v = _ from e1]
  exact fun w' hk => ⟨adO st, xs.length, capO st cap, rfl, h2, fun h0 => by rw [hne (List.length_eq_zero_iff.1 h0)]; exact ⟨rfl, rfl⟩, hf.2 _ hR w' hk, hf.2 _ hF w' hk⟩
theorem Sub.slWNil {N : Nat} {e : TypeId} : Sub L Φ (.is (.slice none 0 0)) (.rep (SlW N e en sz [])) := fun E v w hf e1 => by
  rw [show v = _ from e1]
  exact fun w' _ => ⟨none, 0, 0, rfl, Nat.le_refl _, fun _ => ⟨rfl, rfl⟩, ⟨rfl, fun h => absurd rfl h⟩, fun h => absurd rfl h⟩
theorem J.openSlW {x : Code} {s N : Nat} {e : TypeId} {xs : List α} (h : look K s = some (.rep (SlW N e en sz xs)))
    (hj : ∀ a len cap b o, xs.length = len → (len ≠ 0 → a = some ⟨b, o, none⟩) → len ≤ cap → (len = 0 → a = none ∧ cap = 0) → J P c ((s, .is (.slice a len cap)) :: K) L (FreshW N e a len cap sz :: RowG en sz xs a len :: Φ) x Q) : J P c K L Φ x Q := by
  refine J.open_ h ?_
  rintro v ⟨w, a, len, cap, rfl, hc, h00, ⟨hl, hk⟩, _⟩
  obtain ⟨b, o, hbo⟩ : ∃ b o, len ≠ 0 → a = some ⟨b, o, none⟩ := by
    by_cases hn : len = 0
    · exact ⟨0, 0, fun h => absurd hn h⟩
    · obtain ⟨b, o, e, _⟩ := hk hn; exact ⟨b, o, fun _ => e⟩
  refine J.fact (RowG en sz xs a len) (fun E w hG _ => ?_) (J.fact (FreshW N e a len cap sz) (fun E w hG _ => ?_) (J.subΦ (Φ' := FreshW N e a len cap sz :: RowG en sz xs a len :: Φ) (fun F hF => ?_) (hj a len cap b o hl hbo hc h00)))
  · intro w' hk'
    obtain ⟨a', len', cap', e1, _, _, hK, _⟩ := hG _ List.mem_cons_self w' hk'
    injection e1 with e1 e2 e3
    subst e1 e2
    exact hK
  · intro w' hk'
    obtain ⟨a', len', cap', e1, _, _, _, hK⟩ := hG _ (List.mem_cons_of_mem _ List.mem_cons_self) w' hk'
    injection e1 with e1 e2 e3
    subst e1 e2 e3
    exact hK
  · rcases List.mem_cons.1 hF with rfl | hF
    · exact List.mem_cons_self
    · rcases List.mem_cons.1 hF with rfl | hF
      · exact List.mem_cons_of_mem _ List.mem_cons_self
      · exact List.mem_cons_of_mem _ (List.mem_cons_of_mem _ (List.mem_cons_of_mem _ hF))
theorem row_cells {xs : List α} {b len : Nat} {cs : Array Value} {e : TypeId} {w : World} (hsz : ∀ x, (en x).length = sz) (hp : 0 < sz) (hr : RowG en sz xs (some ⟨b, 0, none⟩) len w) (hb : w.heap[b]? = some (.cells cs e (0, 0))) : cs.toList.take (len * sz) = xs.flatMap en := by
  have hlen := flat_len (xs := xs) hsz
  apply List.ext_getElem?
  intro j
  by_cases hj : j < len * sz
  · have hj2 : j < (xs.flatMap en).length := by rw [hlen, hr.1]; exact hj
    have hu := List.getElem?_eq_getElem hj2
    obtain ⟨x, hx, hu2⟩ := flat_at hsz hp hu
    have h1 := rowG_get hr hx _ _ hu2
    rw [Nat.zero_add, Nat.div_add_mod] at h1
    rw [List.getElem?_take, if_pos hj, hu]
    have h2 : w.cell? ⟨b, j, none⟩ = cs[j]? := by simp [World.cell?, hb]
    rw [h2] at h1
    simpa using h1
  · rw [List.getElem?_eq_none (by rw [List.length_take]; omega), List.getElem?_eq_none (by rw [hlen, hr.1]; omega)]
theorem J.claimW {x : Code} {E0 : Nat → Prop} {w0 : World} {e : TypeId} {a : Option Addr} {xs : List α} {len cap : Nat} (hsz : ∀ x, (en x).length = sz) (hp : 0 < sz) (hint : ∀ x, ∃ k m, (en x)[0]? = some (.int k m)) (hlc : len ≤ cap) (h00 : len = 0 → a = none ∧ cap = 0) (hxl : xs.length = len)
    (hW : c.W0.heap.size ≤ w0.heap.size) (h0 : ∀ F ∈ Φ0, Pers E0 w0 F) (hK : ∀ s T, look K' s = some T → look K s = some T) (hKi : K'.all (fun p => p.2.isIs) = true)
    (hL : Has L L') (hLi : L'.all (fun o => o.T.isIs) = true) (hF : FreshW w0.heap.size e a len cap sz ∈ Φ) (hR : RowG en sz xs a len ∈ Φ) (hM : Keeps E0 w0 ∈ Φ)
    (h : ∀ st, Grows en sz xs st cap → Value.slice a len cap = sliceO st len cap → J P c K' (ownO st e L') (Keeps E0 w0 :: Φ0) x Q) : J P c K L Φ x Q := by
  refine ⟨fun E a' w hs => ?_⟩
  have hsub : SA c K' L' Φ E a' w := hs.sub hK hL.mem (hL.nodup hs.ld) (fun _ h => h)
  have hkp := hs.f _ hM
  by_cases hn : len = 0
  · obtain ⟨rfl, rfl⟩ := h00 hn
    subst hn
    have hx0 : xs = [] := List.length_eq_zero_iff.1 hxl
    refine (h none hx0 rfl).out E a' w ⟨hsub.n, hsub.d, hsub.wf, hsub.k, hsub.l, hsub.ld, fun F hF => ?_, hsub.x, hsub.xs, hsub.keeps, hsub.may⟩
    rcases List.mem_cons.1 hF with rfl | hF
    · exact hkp
    · exact fun w' hk => h0 F hF w' (hkp w' hk)
  · obtain ⟨b, cs, rfl, hN, hb, hc⟩ := (hs.f _ hF).now hn
    have hE : ¬ E b := not_excl (o := 0) (fun w' hk => by
      have hr := hs.f _ hR w' hk
      obtain ⟨y, hy⟩ : ∃ y, xs[0]? = some y := ⟨xs[0]'(by omega), List.getElem?_eq_getElem _⟩
      obtain ⟨k, m, hkm⟩ := hint y
      exact ⟨k, m, by simpa using rowG_get hr hy 0 _ hkm⟩)
    have hG : Grows en sz xs (some (b, cs.toList)) cap := ⟨by simpa using hc, by rw [hxl]; exact hlc, by rw [hxl]; exact row_cells hsz hp (hs.f _ hR).now hb⟩
    refine (h (some (b, cs.toList)) hG rfl).out (fun q => E q ∨ q = b) a' w ⟨hsub.n, hsub.d, ?_, ?_, ?_, ?_, ?_, fun q hq => .inl (hsub.x q hq), hsub.xs, hsub.keeps, ?_⟩
    · rintro q (hq | rfl)
      · exact hsub.wf q hq
      · exact lt_of_get hb
    · intro s T hl
      obtain ⟨v, rfl⟩ := look_is hKi s T hl
      exact hsub.k s _ hl
    · intro o ho
      rcases List.mem_cons.1 ho with rfl | ho
      · exact ⟨.inr rfl, .agg cs, by simpa [Value.cells] using hb, rfl⟩
      · obtain ⟨h1, v, h2, h3⟩ := hsub.l o ho
        have := List.all_eq_true.1 hLi o ho
        cases hT : o.T with
        | is u => rw [hT] at h3; exact ⟨.inl h1, v, h2, by rw [hT]; exact h3⟩
        | _ => rw [hT] at this; simp [Ty.isIs] at this
    · show ((⟨b, e, .is (.agg cs.toList.toArray)⟩ : Own) :: L' |>.map (·.b)).Nodup
      rw [List.map_cons, List.nodup_cons]
      refine ⟨fun hm => ?_, hsub.ld⟩
      obtain ⟨m, hm, e'⟩ := List.mem_map.1 hm
      have e'' : m.b = b := e'
      exact hE (e'' ▸ (hsub.l m hm).1)
    · intro F hF
      have hkp' := keeps_claim hkp hN
      rcases List.mem_cons.1 hF with rfl | hF
      · exact hkp'
      · exact fun w' hk => h0 F hF w' (hkp' w' hk)
    · intro o ho
      rcases List.mem_cons.1 ho with rfl | ho
      · exact .inr (Nat.le_trans hW hN)
      · exact hsub.may o ho
end
end Go.Vc

namespace Go.Vc
open Go
structure EndL {Z : Type} (L0 : List Own) (Zp : Z → Prop) (L1 : Z → List Own) (R : Z → Ty) (E : Nat → Prop) (w : World) (z : Z) (E' : Nat → Prop) (v : Value) (w' : World) : Prop where
  zp : Zp z
  k : Keeps (fun q => q ∈ L0.map (·.b)) w w'
  same : ∀ b, b < w.heap.size → (E' b ↔ E b)
  wf : ∀ b, E' b → b < w'.heap.size
  l : ∀ o ∈ L1 z, o.at E' w'
  nd : ((L1 z).map (·.b)).Nodup
  inn : ∀ o ∈ L1 z, o.b ∈ L0.map (·.b) ∨ w.heap.size ≤ o.b
  r : (R z).p E' v w'
structure CallL (P : Program) (f : FuncId) {Z : Type} (L0 : List Own) (Φ0 : List (World → Prop)) (As : List Ty) (Zp : Z → Prop) (L1 : Z → List Own) (R : Z → Ty) : Prop where
  enter : ∀ args w, (callFunc f args).run P w = .ok (.enter f args) w
  calls : ∀ (E : Nat → Prop) (w : World) (vs : List Value), (∀ b, E b → b < w.heap.size) → (∀ o ∈ L0, o.at E w) → (L0.map (·.b)).Nodup → (∀ F ∈ Φ0, Pers E w F) → TyAll E w As vs →
    Calls P f vs.toArray w fun e w' => ∃ v z E', e = .returned v ∧ EndL L0 Zp L1 R E w z E' v w'
section
variable {P : Program} {c : Ctx} {K : List (Nat × Ty)} {L Lr L0 : List Own} {Φ Φ0 : List (World → Prop)} {Q : Exit → Act → World → Prop} {Z : Type} {Zp : Z → Prop} {L1 : Z → List Own} {R : Z → Ty} {f : FuncId} {As : List Ty}
theorem run_callL (hc : CallL P f L0 Φ0 As Zp L1 R) (hΦ : ∀ F ∈ Φ0, F ∈ Φ) {E : Nat → Prop} {w : World} {vs : List Value} (hw : ∀ b, E b → b < w.heap.size) (hf : ∀ F ∈ Φ, Pers E w F) (ht : TyAll E w As vs) (hM : ∀ m ∈ L0, m.at E w) (hnd : (L0.map (·.b)).Nodup) :
    Runs P ((callFunc f vs.toArray).run P w) fun v w' => ∃ z E', EndL L0 Zp L1 R E w z E' v w' := by
  rw [hc.enter]
  refine Calls.mono (hc.calls E w vs hw hM hnd (fun F hF => hf F (hΦ F hF)) ht) ?_
  rintro e w' ⟨v, z, E', rfl, h⟩
  exact ⟨z, E', h⟩
theorem JO.stepL {ops : Array Oper} {o : Oper} {rest : List Oper} (hg : o.guard = none) (hd : ∀ d, o.dst = some d → d < c.n) (hL : L.Perm (L0 ++ Lr))
    (h : ∀ E w ρ, Pre L Φ (Kn K) o E w ρ → (L0.map (·.b)).Nodup → Runs P ((execOp ρ o).run P w) fun v w' => ∃ z E', EndL L0 Zp L1 R E w z E' v w')
    (hn : ∀ z, Zp z → JO P c (putK o.dst (R z) K) (L1 z ++ Lr) Φ ops rest Q) : JO P c K L Φ ops (o :: rest) Q := by
  refine ⟨?_⟩
  intro E a w hs
  refine wpList_plain hg fun K' hK => ?_
  unfold Oper.wp
  have hnd : ((L0 ++ Lr).map (·.b)).Nodup := ((hL.map _).nodup_iff).1 hs.ld
  rw [List.map_append, List.nodup_append] at hnd
  refine Runs.upon (h E w a.eval ⟨hs.wf, hs.l, hs.f, fun x T' _ hx => opTy_eval hs hx⟩ hnd.1) fun v w' ⟨z, E', he⟩ => hK _ _ ((hn z he.zp).out E' _ _ ?_)
  have hin : ∀ o ∈ L0, o ∈ L := fun o ho => hL.mem_iff.2 (List.mem_append_left _ ho)
  have hir : ∀ o ∈ Lr, o ∈ L := fun o ho => hL.mem_iff.2 (List.mem_append_right _ ho)
  have hsub : ∀ b, b ∈ L0.map (·.b) → E b := fun b hb => by obtain ⟨m, hm, rfl⟩ := List.mem_map.1 hb; exact (hs.l m (hin m hm)).1
  have hmay : ∀ b, b ∈ L0.map (·.b) → c.X0 b ∨ c.W0.heap.size ≤ b := fun b hb => by obtain ⟨m, hm, rfl⟩ := List.mem_map.1 hb; exact hs.may m (hin m hm)
  have hev : Ev E w E' w' := ⟨he.k.mono (fun b _ => hsub b), he.same⟩
  refine hs.put hev he.wf he.r hd ?_ ?_ (hs.keeps.step he.k hmay) ?_
  · intro o ho
    rcases List.mem_append.1 ho with ho | ho
    · exact he.l o ho
    · have h1 := hs.l o (hir o ho)
      exact Own.keep h1 hev (he.k.blk _ (hs.wf _ h1.1) fun hm => hnd.2.2 _ hm _ (List.mem_map_of_mem ho) rfl)
  · rw [List.map_append, List.nodup_append]
    refine ⟨he.nd, hnd.2.1, fun b hb b' hb' e => ?_⟩
    subst e
    obtain ⟨m, hm, rfl⟩ := List.mem_map.1 hb
    obtain ⟨m', hm', e'⟩ := List.mem_map.1 hb'
    rcases he.inn m hm with h1 | h1
    · exact hnd.2.2 _ h1 _ hb' rfl
    · have := hs.wf m'.b (hs.l m' (hir m' hm')).1
      have e2 : m'.b = m.b := e'
      omega
  · intro o ho
    rcases List.mem_append.1 ho with ho | ho
    · rcases he.inn o ho with h1 | h1
      · exact hmay _ h1
      · exact .inr (Nat.le_trans hs.keeps.size h1)
    · exact hs.may o (hir o ho)
theorem JO.callL {ops : Array Oper} {rest : List Oper} {dst : Option Nat} {ty : TypeId} {pos : String} {after : Array Edge} {xs : List Operand} {ats : Array TypeId} (hc : CallL P f L0 Φ0 As Zp L1 R) (hd : ∀ d, dst = some d → d < c.n) (hL : L.Perm (L0 ++ Lr)) (hΦ : ∀ F ∈ Φ0, F ∈ Φ) (ha : Args L Φ (Kn K) xs As)
    (hn : ∀ z, Zp z → JO P c (putK dst (R z) K) (L1 z ++ Lr) Φ ops rest Q) : JO P c K L Φ ops (⟨dst, .call { callee := .value (.func f), args := xs.toArray, argTypes := ats }, ty, pos, after, none⟩ :: rest) Q := by
  refine JO.stepL rfl hd hL (fun E w ρ hp hnd => ?_) hn
  have h1 : ρ (.func f) = .func (.func f) #[] #[] := hp.x (.func f) (.is (.func (.func f) #[] #[])) (by simp [Op.operands, Call.operands]) rfl
  have hall := ha.all (ρ := ρ) (pre_facts hp) fun x T hx => hp.x x T (by simp [Op.operands, Call.operands, hx])
  have h3 := run_callL hc hΦ hp.wf hp.f hall (fun m hm => hp.l m (hL.mem_iff.2 (List.mem_append_left _ hm))) hnd
  simp only [execOp, resolve, h1, Deferred.ofValue, invoke, Sem.run_bind, Sem.run_pure, Result.andThen_ok, List.map_toArray]
  simpa using h3
def Meth (P : Program) (t : TypeId) (name : String) (f : FuncId) : Prop := ∀ v w, (method (P.types.size + Made.depth) t v name).run P w = .ok (f, v) w
def methOf (P : Program) (t : TypeId) (name : String) : Option FuncId :=
  match P.info? t with
  | none => none
  | some i =>
    match i.methods.find? (·.name == name) with
    | none => none
    | some m =>
      match m.func, m.path.isEmpty, P.underlying t with
      | some (f, true), true, some (.pointer _) => some f
      | _, _, _ => none
theorem Meth.of {t : TypeId} {name : String} (h : methOf P t name = some f) : Meth P t name f := by
  intro v w
  unfold methOf at h
  cases hi : P.info? t with
  | none => rw [hi] at h; cases h
  | some i =>
    rw [hi] at h
    simp only at h
    cases hm : i.methods.find? (·.name == name) with
    | none => rw [hm] at h; cases h
    | some m =>
      rw [hm] at h
      simp only at h
      split at h
      · rename_i g e hfm hpm hum
        injection h with h
        subst h
        have hp0 : m.path.toList = [] := by
          have := Array.isEmpty_iff.1 hpm
          rw [this]
        have hfuel : P.types.size + Made.depth = (P.types.size + Made.depth - 1) + 1 := by
          have : 0 < Made.depth := by decide
          omega
        rw [hfuel]
        simp [method, typeInfo, hi, hm, hp0, follow, hfm, receiverAt, run_underlying hum, Place.get]
      · cases h
theorem JO.invL {ops : Array Oper} {rest : List Oper} {dst : Option Nat} {t : TypeId} {name : String} {V : Value} {y : Operand} {ty : TypeId} {pos : String} {after : Array Edge} {xs : List Operand} {ats : Array TypeId} (hy : opTy K y = some (.is (.iface t V))) (hm : methOf P t name = some f) (hc : CallL P f L0 Φ0 (.is V :: As) Zp L1 R) (hd : ∀ d, dst = some d → d < c.n) (hL : L.Perm (L0 ++ Lr)) (hΦ : ∀ F ∈ Φ0, F ∈ Φ) (ha : Args L Φ (Kn K) xs As)
    (hn : ∀ z, Zp z → JO P c (putK dst (R z) K) (L1 z ++ Lr) Φ ops rest Q) : JO P c K L Φ ops (⟨dst, .call { callee := .invoke y name, args := xs.toArray, argTypes := ats }, ty, pos, after, none⟩ :: rest) Q := by
  refine JO.stepL rfl hd hL (fun E w ρ hp hnd => ?_) hn
  have h1 : ρ y = .iface t V := hp.x y (.is (.iface t V)) (by simp [Op.operands, Call.operands]) hy
  have hall := ha.all (ρ := ρ) (pre_facts hp) fun x T hx => hp.x x T (by simp [Op.operands, Call.operands, hx])
  have h3 := run_callL (vs := V :: xs.map ρ) hc hΦ hp.wf hp.f ⟨rfl, hall⟩ (fun m hm => hp.l m (hL.mem_iff.2 (List.mem_append_left _ hm))) hnd
  have h2 := Meth.of hm V w
  simp only [execOp, resolve, h1, invoke, Sem.run_bind, Sem.run_pure, Result.andThen_ok, List.map_toArray]
  have h4 : List.take xs.length (List.map ρ xs) = List.map ρ xs := List.take_of_length_le (by simp)
  simpa [callMethod, h2, h4] using h3
def PostL (X : Nat → Prop) (W : World) (L0 : List Own) (Zp : Z → Prop) (L1 : Z → List Own) (R : Z → Ty) : Ending → World → Prop := fun e w' => ∃ v z E', e = .returned v ∧ EndL L0 Zp L1 R X W z E' v w'
variable {fn : Func} {n : Nat} {X : Nat → Prop} {W : World}
theorem JX.retLOf (z : Z) (hz : Zp z) (hL : L.Perm (L1 z ++ Lr)) (hol : (L1 z).all (fun o => o.T.out) = true) (hor : (R z).out = true) (hL0 : ∀ b, b ∈ L0.map (·.b) → X b)
    (hr : ∀ a w E, SA ⟨n, X, fun q => q ∈ L0.map (·.b), W⟩ K L Φ E a w → ∃ v, (results fn a.tmps).run P w = .ok v w ∧ (R z).p E v w) : JX ⟨n, X, fun q => q ∈ L0.map (·.b), W⟩ K L Φ .ret (bodyPost P fn (PostL X W L0 Zp L1 R)) := by
  refine ⟨?_⟩
  intro E a w hs
  obtain ⟨v, h1, h2⟩ := hr a w E hs
  have hin : ∀ o ∈ L1 z, o ∈ L := fun o ho => hL.mem_iff.2 (List.mem_append_left _ ho)
  have hnd : ((L1 z ++ Lr).map (·.b)).Nodup := ((hL.map _).nodup_iff).1 hs.ld
  rw [List.map_append, List.nodup_append] at hnd
  have hsub : ∀ b, b < w.heap.size → (X b ∨ b ∈ (L1 z).map (·.b)) → E b := fun b _ hb => by
    rcases hb with hb | hb
    · exact hs.x b hb
    · obtain ⟨m, hm, rfl⟩ := List.mem_map.1 hb
      exact (hs.l m (hin m hm)).1
  refine ⟨hs.d, v, h1, v, z, fun b => X b ∨ b ∈ (L1 z).map (·.b), rfl, hz, hs.keeps, fun b hb => ⟨fun h => ?_, .inl⟩, fun b hb => ?_, fun o ho => ?_, hnd.1, fun o ho => hs.may o (hin o ho), Ty.weak hsub hor h2⟩
  · rcases h with h | h
    · exact h
    · obtain ⟨m, hm, rfl⟩ := List.mem_map.1 h
      rcases hs.may m (hin m hm) with h3 | h3
      · exact hL0 _ h3
      · exact absurd hb (Nat.not_lt.2 h3)
  · rcases hb with hb | hb
    · exact hs.wf b (hs.x b hb)
    · obtain ⟨m, hm, rfl⟩ := List.mem_map.1 hb
      exact hs.wf _ (hs.l m (hin m hm)).1
  · obtain ⟨h3, V, h4, h5⟩ := hs.l o (hin o ho)
    exact ⟨.inr (List.mem_map_of_mem ho), V, h4, Ty.weak hsub (List.all_eq_true.1 hol o ho) h5⟩
theorem JX.retL0 (hres : fn.results = #[]) (z : Z) (hz : Zp z) (hL : L.Perm (L1 z ++ Lr)) (hol : (L1 z).all (fun o => o.T.out) = true) (hL0 : ∀ b, b ∈ L0.map (·.b) → X b) (hR : R z = .is (.tuple #[])) : JX ⟨n, X, fun q => q ∈ L0.map (·.b), W⟩ K L Φ .ret (bodyPost P fn (PostL X W L0 Zp L1 R)) :=
  JX.retLOf z hz hL hol (by rw [hR]; rfl) hL0 fun a w E hs => ⟨_, results_none hres _ _ _, by rw [hR]; rfl⟩
theorem JX.retL1 {t : Nat} {T : Ty} (hres : fn.results = #[.tmp t]) (z : Z) (hz : Zp z) (hL : L.Perm (L1 z ++ Lr)) (hol : (L1 z).all (fun o => o.T.out) = true) (hor : (R z).out = true) (hL0 : ∀ b, b ∈ L0.map (·.b) → X b) (h : look K t = some T) (hR : Sub L Φ T (R z)) : JX ⟨n, X, fun q => q ∈ L0.map (·.b), W⟩ K L Φ .ret (bodyPost P fn (PostL X W L0 Zp L1 R)) :=
  JX.retLOf z hz hL hol hor hL0 fun a w E hs => ⟨_, results_tmp hres _ _ _, hR E _ w ⟨hs.l, hs.f⟩ (hs.k t _ h)⟩
theorem CallL.of {x : Code} (hf : P.funcs[f]? = some fn) (hb : fn.body = some x) (hn : fn.ntmps = n) (hl : Nat.ble As.length n = true) (he : ∀ args w, (callFunc f args).run P w = .ok (.enter f args) w)
    (h : ∀ (E : Nat → Prop) (W : World), (∀ b, b ∈ L0.map (·.b) → E b) → J P ⟨n, E, fun q => q ∈ L0.map (·.b), W⟩ (params 0 As) L0 Φ0 x (bodyPost P fn (PostL E W L0 Zp L1 R))) : CallL P f L0 Φ0 As Zp L1 R :=
  ⟨he, fun E w vs hw hM hnd hΦ ht => by
    refine calls_of_wp hf hb ?_
    rw [hn]
    refine (h E w (fun b hb => by obtain ⟨m, hm, rfl⟩ := List.mem_map.1 hb; exact (hM m hm).1)).out E _ w ?_
    have hs := sa_start (n := n) hw ht (Nat.le_of_ble_eq_true hl)
    exact ⟨hs.n, hs.d, hw, hs.k, hM, hnd, hΦ, fun _ h => h, hw, .refl _ _, fun o ho => .inl (List.mem_map_of_mem ho)⟩⟩
end
end Go.Vc
