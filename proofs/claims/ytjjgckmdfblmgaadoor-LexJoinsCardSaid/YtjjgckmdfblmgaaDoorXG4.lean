/- The program logic, part 5. No condition. -/
import Derived.Test.YtjjgckmdfblmgaaDoorXG3
import Derived.Laws.MakeOwn
import Derived.Lib.Replace
import Derived.Lib.CountLaws
namespace Go.Vc
open Go
section
variable {P : Program} {c : Ctx} {K : List (Nat × Ty)} {L : List Own} {Φ : List (World → Prop)} {Q : Exit → Act → World → Prop} {ops : Array Oper} {rest : List Oper} {op : Op} {ty : TypeId} {pos : String} {after : Array Edge} {T : Ty} {d i s : Nat} {b : Bool}
def yv : Value → Option Bool
  | .bool b => some b
  | _ => none
theorem yield_of {a : Act} {v : Value} (hi : (ops[i]?).bind (·.dst) = some s) (hs : s < a.tmps.size) (hv : a.tmps.getD s undef = v) : yielded ops a.tmps i = yv v := by
  unfold yielded
  rw [hi]
  have : a.tmps[s]? = some v := by
    rw [Array.getD_eq_getD_getElem?] at hv
    rw [Array.getElem?_eq_getElem hs] at hv ⊢
    exact congrArg some hv
  simp only [Option.bind_some, this]
  cases v <;> rfl
theorem JO.gDo {o : Oper} (hg : o.guard = some (i, b)) (hi : (ops[i]?).bind (·.dst) = some s) (hn : Nat.blt s c.n = true) (hk : look K s = some (.is (.bool b))) (h : JO P c K L Φ ops ({ o with guard := none } :: rest) Q) : JO P c K L Φ ops (o :: rest) Q :=
  ⟨fun E a w hs => by
    have h1 := h.out E a w hs
    have hy := yield_of (ops := ops) (i := i) hi (by rw [hs.n]; exact Nat.le_of_ble_eq_true hn) (hs.k s _ hk)
    unfold wpList at h1 ⊢
    rw [if_pos (by simp [Region.wanted])] at h1
    rw [if_pos (by simp [Region.wanted, hg, hy, yv])]
    exact h1⟩
theorem SA.undef_ {E : Nat → Prop} {a : Act} {w : World} {dst : Option Nat} (hs : SA c K L Φ E a w) (hd : ∀ d, dst = some d → d < c.n) : SA c (putK dst (.is undef) K) L Φ E (a.put dst undef) w :=
  hs.put (.refl _ _) hs.wf rfl hd hs.l hs.ld hs.keeps hs.may
theorem JO.gSkip (hi : (ops[i]?).bind (·.dst) = some s) (hn : Nat.blt s c.n = true) (hk : look K s = some (.is (.bool !b))) (hd : Nat.blt d c.n = true) (h : JO P c ((d, .is undef) :: K) L Φ ops rest Q) : JO P c K L Φ ops (⟨some d, op, ty, pos, after, some (i, b)⟩ :: rest) Q :=
  ⟨fun E a w hs => by
    have hy := yield_of (ops := ops) (i := i) hi (by rw [hs.n]; exact Nat.le_of_ble_eq_true hn) (hs.k s _ hk)
    unfold wpList
    rw [if_neg (by simp [Region.wanted, hy, yv])]
    exact h.out E _ _ (hs.undef_ (dst := some d) (fun d' e => by injection e with e; subst e; exact Nat.le_of_ble_eq_true hd))⟩
theorem JO.gSkipU (hi : (ops[i]?).bind (·.dst) = some s) (hn : Nat.blt s c.n = true) (hk : look K s = some (.is undef)) (hd : Nat.blt d c.n = true) (h : JO P c ((d, .is undef) :: K) L Φ ops rest Q) : JO P c K L Φ ops (⟨some d, op, ty, pos, after, some (i, b)⟩ :: rest) Q :=
  ⟨fun E a w hs => by
    have hy := yield_of (ops := ops) (i := i) hi (by rw [hs.n]; exact Nat.le_of_ble_eq_true hn) (hs.k s _ hk)
    unfold wpList
    rw [if_neg (by simp [Region.wanted, hy, undef, yv])]
    exact h.out E _ _ (hs.undef_ (dst := some d) (fun d' e => by injection e with e; subst e; exact Nat.le_of_ble_eq_true hd))⟩
theorem JO.freeze {b : Nat} {e : TypeId} {cs : List Value} (h0 : ∀ q, ¬ c.X0 q) (hK : K.all (fun p => p.2.out) = true) (hL : L.all (fun o => o.T.out) = true) (h : JO P c K L (HeapIs b cs e :: Φ) ops rest Q) : JO P c K (⟨b, e, .is (.agg cs.toArray)⟩ :: L) Φ ops rest Q :=
  ⟨fun E a w hs => by
    obtain ⟨E', hs'⟩ := hs.freeze h0 (look_out hK) (fun o ho => List.all_eq_true.1 hL o ho)
    exact h.out E' a w hs'⟩
end
section
variable {P : Program} {L : List Own} {Φ : List (World → Prop)} {H : Know} {dst : Option Nat} {ty : TypeId} {pos : String} {after : Array Edge} {g : Option (Nat × Bool)} {xt yt : TypeId} {x y : Operand} {k : IntKind} {a b : Int} {v : Bool}
theorem ob_eqv (hx : H x (.is (.int k a))) (hy : H y (.is (.int k b))) (h : (a == b) = v) : Ob P L Φ H ⟨dst, .binOp .eql xt x y yt, ty, pos, after, g⟩ (.is (.bool v)) := h ▸ ob_eql hx hy
theorem ob_neqv (hx : H x (.is (.int k a))) (hy : H y (.is (.int k b))) (h : (!(a == b)) = v) : Ob P L Φ H ⟨dst, .binOp .neq xt x y yt, ty, pos, after, g⟩ (.is (.bool v)) := by
  have := ob_neq (P := P) (L := L) (Φ := Φ) (dst := dst) (ty := ty) (pos := pos) (after := after) (g := g) (xt := xt) (yt := yt) hx hy
  rwa [show (a != b) = v from h] at this
theorem Sub.slEmpty {α : Type} {en : α → List Value} {sz : Nat} {a : Option Addr} {cap : Nat} : Sub L Φ (.is (.slice a 0 cap)) (.rep (SlG en sz [])) := fun E v w hf e => by
  rw [show v = _ from e]
  exact fun w' _ => ⟨a, 0, cap, rfl, rfl, fun h => absurd rfl h⟩
end
theorem row_own {α : Type} {enc : α → List Value} {sz : Nat} {xs : List α} (hsz : ∀ x, (enc x).length = sz) {cs : List Value} {b n : Nat} {e : TypeId} {w : World} (hn : xs.length = n) (hc : cs.take (n * sz) = xs.flatMap enc) (h : HeapIs b cs e w) : RowG enc sz xs (some ⟨b, 0, none⟩) n w := by
  obtain ⟨a, len, cap, e1, hr⟩ := sl_of_heap hsz hn hc h 0
  injection e1 with e1 e2 e3
  subst e1 e2
  exact hr
end Go.Vc

namespace Go.Vc
open Go
section
variable {P : Program} {c : Ctx} {K : List (Nat × Ty)} {L : List Own} {Φ : List (World → Prop)} {Q : Exit → Act → World → Prop} {ops : Array Oper} {rest : List Oper}
theorem SA.newS {E : Nat → Prop} {a : Act} {w : World} {d : Nat} {t : TypeId} {u : Value} {n : Nat} (hs : SA c K L Φ E a w) (hd : d < c.n) :
    ∃ E', SA c ((d, .is (.slice (some ⟨w.heap.size, 0, none⟩) n n)) :: K) (⟨w.heap.size, t, .is u⟩ :: L) Φ E' (a.put (some d) (.slice (some ⟨w.heap.size, 0, none⟩) n n)) (w.alloc (.cells u.cells t)) := by
  have hk := Keeps.alloc w (.cells u.cells t)
  have hev : Ev E w (fun b => E b ∨ b = w.heap.size) (w.alloc (.cells u.cells t)) := ⟨hk.of_noX, fun b hb => ⟨fun h => h.elim id (fun e => absurd hb (by omega)), .inl⟩⟩
  refine ⟨fun b => E b ∨ b = w.heap.size, hs.put (dst := some d) (T := .is (.slice (some ⟨w.heap.size, 0, none⟩) n n)) hev ?_ rfl (fun d' e => by injection e with e; omega) ?_ ?_ (hs.keeps.step hk fun _ => False.elim) ?_⟩
  · rintro b (hb | rfl)
    · rw [size_alloc]; have := hs.wf b hb; omega
    · rw [size_alloc]; omega
  · intro o ho
    rcases List.mem_cons.1 ho with rfl | ho
    · exact ⟨.inr rfl, u, heap_alloc_at w _, rfl⟩
    · exact Own.keep0 (hs.l o ho) hev hk
  · rw [List.map_cons, List.nodup_cons]
    refine ⟨fun h => ?_, hs.ld⟩
    obtain ⟨m, hm, e⟩ := List.mem_map.1 h
    have := hs.wf _ (hs.l m hm).1
    rw [e] at this
    exact absurd this (Nat.lt_irrefl _)
  · intro o ho
    rcases List.mem_cons.1 ho with rfl | ho
    · exact .inr hs.keeps.size
    · exact hs.may o ho
theorem made1 (z : Value) (n : Nat) : madeCells #[z] n = (List.replicate n z).toArray := by
  unfold madeCells
  apply Array.ext
  · simp
  · intro i h1 h2
    have : i % 1 = 0 := by omega
    simp [Nat.mod_one]
theorem JO.mkSl1 {d : Nat} {t e ty : TypeId} {pos : String} {after : Array Edge} {l cp : Operand} {z : Value} {bytes n : Nat} {k k' : IntKind} {m m' : Int} (hu : P.underlying t = some (.slice e)) (hi : (P.info? e).map (fun i => (i.zero, i.size, i.bytes)) = some (some z, 1, bytes)) (hz : z.cells = #[z])
    (hl : opTy K l = some (.is (.int k m))) (hc : opTy K cp = some (.is (.int k' m'))) (h1 : m = (n : Int)) (h2 : m' = (n : Int)) (hb : bytes * n ≤ 281474976710656) (h63 : n ≤ 9223372036854775807) (hd : Nat.blt d c.n = true)
    (hn : ∀ b, JO P c ((d, .is (.slice (some ⟨b, 0, none⟩) n n)) :: K) (⟨b, e, .is (.agg (List.replicate n z).toArray)⟩ :: L) Φ ops rest Q) : JO P c K L Φ ops (⟨some d, .makeSlice t l cp, ty, pos, after, none⟩ :: rest) Q := by
  subst h1 h2
  refine ⟨?_⟩
  intro E a w hs
  refine wpList_plain rfl fun K' hK => ?_
  obtain ⟨i, hi', hiz⟩ := Option.map_eq_some_iff.1 hi
  simp only [Prod.mk.injEq] at hiz
  obtain ⟨z1, z2, z3⟩ := hiz
  have e1 : a.eval l = .int k n := opTy_eval hs hl
  have e2 : a.eval cp = .int k' n := opTy_eval hs hc
  have hr := run_make (P := P) w t e i z hu hi' z1 k k' (n : Int) (n : Int) (by omega) (Int.le_refl _) (by have h3 : ((bytes * n : Nat) : Int) ≤ 281474976710656 := (by omega); rw [z3]; rwa [Int.natCast_mul] at h3) (by omega)
  rw [z2, hz, Nat.mul_one, Int.toNat_natCast, made1] at hr
  obtain ⟨E', h⟩ := hs.newS (t := e) (u := .agg (List.replicate n z).toArray) (n := n) (Nat.le_of_ble_eq_true hd)
  unfold Oper.wp
  have hrun : (execOp a.eval ⟨some d, .makeSlice t l cp, ty, pos, after, none⟩).run P w = .ok (.value (.slice (some ⟨w.heap.size, 0, none⟩) n n)) (w.alloc (.cells (List.replicate n z).toArray e)) := by
    simp [execOp, e1, e2, hr]
  rw [hrun]
  exact hK _ _ ((hn _).out E' _ _ h)
end
section
variable {P : Program} {L : List Own} {Φ : List (World → Prop)} {H : Know} {dst : Option Nat} {ty : TypeId} {pos : String} {after : Array Edge} {g : Option (Nat × Bool)}
theorem ob_saddv {xt yt : TypeId} {x y : Operand} {s t u : ByteArray} (hx : H x (.is (.string s))) (hy : H y (.is (.string t))) (h : s.size + t.size ≤ 9223372036854775807) (hu : s ++ t = u) :
    Ob P L Φ H ⟨dst, .binOp .add xt x y yt, ty, pos, after, g⟩ (.is (.string u)) := hu ▸ ob_sadd hx hy h
end
end Go.Vc

set_option maxRecDepth 20000
namespace Go.Vc
open Go
section
variable {P : Program} {L : List Own} {Φ : List (World → Prop)} {H : Know} {dst : Option Nat} {ty : TypeId} {pos : String} {after : Array Edge} {g : Option (Nat × Bool)}
theorem ob_convIIe {s t : TypeId} {x : Operand} {k ku : IntKind} {a cc : Int} (hu0 : ∃ d, P.underlying s = some d) (hu : P.underlying t = some (.int k)) (hx : H x (.is (.int ku a))) (hc : k.wrap a = cc) :
    Ob P L Φ H ⟨dst, .convert s t x, ty, pos, after, g⟩ (.is (.int k cc)) := hc ▸ ob_convII hu0 hu hx
end
end Go.Vc

set_option maxRecDepth 20000
namespace Go.Vc
open Go
def repL (c : UInt8) (new : List UInt8) (s : List UInt8) : List UInt8 := s.flatMap fun b => if b == c then new else [b]
theorem repL_cons (c : UInt8) (new : List UInt8) (b : UInt8) (s : List UInt8) : repL c new (b :: s) = (if b == c then new else [b]) ++ repL c new s := rfl
theorem idx_one_hit (c : UInt8) (s : List UInt8) : Lib.index (c :: s) [c] = 0 := by
  unfold Lib.index
  simp [List.isPrefixOf]
theorem idx_one_miss {b c : UInt8} (h : (b == c) = false) (s : List UInt8) : Lib.index (b :: s) [c] = if Lib.index s [c] == -1 then -1 else Lib.index s [c] + 1 := by
  conv => lhs; unfold Lib.index
  have : (c == b) = false := by
    rw [beq_eq_false_iff_ne] at h ⊢
    exact fun e => h e.symm
  simp [List.isPrefixOf, this]
theorem count_one_hit (c : UInt8) (s : List UInt8) : Lib.count (c :: s) [c] = Lib.count s [c] + 1 := by
  rw [Lib.count_hit (i := 0) (by simp) (idx_one_hit c s)]
  show 1 + Lib.count s [c] = _
  omega
theorem count_one_miss {b c : UInt8} (h : (b == c) = false) (s : List UInt8) : Lib.count (b :: s) [c] = Lib.count s [c] := by
  have hi := idx_one_miss h s
  by_cases hm : Lib.index s [c] = -1
  · rw [hm] at hi
    rw [Lib.count_miss (by simpa using hi), Lib.count_miss hm]
  · have hge := Lib.index_ge s [c]
    obtain ⟨k, hk⟩ : ∃ k : Nat, Lib.index s [c] = k := ⟨(Lib.index s [c]).toNat, by omega⟩
    rw [if_neg (by simpa using hm), hk] at hi
    rw [Lib.count_hit (i := k + 1) (by simp) (by rw [hi]; rfl), Lib.count_hit (by simp) hk, show k + 1 + [c].length = (k + [c].length) + 1 by omega, List.drop_succ_cons]
theorem repK_miss {b c : UInt8} (h : (b == c) = false) (new : List UInt8) : ∀ (k : Nat) (s : List UInt8), Lib.replaceK [c] new k (b :: s) = b :: Lib.replaceK [c] new k s
  | 0, _ => rfl
  | k + 1, s => by
    have hi := idx_one_miss h s
    by_cases hm : Lib.index s [c] = -1
    · rw [hm] at hi
      rw [Lib.replaceK, if_pos (by rw [hi]; rfl), Lib.replaceK, if_pos (by rw [hm]; rfl)]
    · have hge := Lib.index_ge s [c]
      obtain ⟨j, hj⟩ : ∃ j : Nat, Lib.index s [c] = j := ⟨(Lib.index s [c]).toNat, by omega⟩
      rw [if_neg (by simpa using hm), hj] at hi
      rw [Lib.replaceK_hit [c] new k _ (j + 1) (by rw [hi]; rfl), Lib.replaceK_hit [c] new k _ j hj, show j + 1 + [c].length = (j + [c].length) + 1 by omega, List.drop_succ_cons, List.take_succ_cons]
      rfl
theorem repK_one (c : UInt8) (new : List UInt8) : ∀ s : List UInt8, Lib.replaceK [c] new (Lib.count s [c]) s = repL c new s
  | [] => rfl
  | b :: s => by
    have ih := repK_one c new s
    by_cases h : (b == c) = true
    · have e : b = c := by simpa using h
      subst e
      rw [count_one_hit, Lib.replaceK_hit [b] new _ _ 0 (idx_one_hit b s), repL_cons, if_pos h, ← ih]
      rfl
    · have h : (b == c) = false := by simpa using h
      rw [count_one_miss h, repK_miss h, ih, repL_cons, if_neg (by rw [h]; simp)]
      rfl
theorem replaceAll_one (c : UInt8) (new s : List UInt8) (h : ([c] == new) = false) : Lib.replaceAll s [c] new = repL c new s := by
  unfold Lib.replaceAll Lib.replace Lib.replaceNum
  rw [if_neg (by rw [h]; simp), if_pos (Or.inl (by decide))]
  exact repK_one c new s
theorem count_one_le (c : UInt8) : ∀ s : List UInt8, Lib.count s [c] ≤ s.length
  | [] => Nat.zero_le _
  | b :: s => by
    have ih := count_one_le c s
    by_cases h : (b == c) = true
    · have e : b = c := by simpa using h
      subst e
      rw [count_one_hit, List.length_cons]
      omega
    · rw [count_one_miss (by simpa using h), List.length_cons]
      omega
theorem repL_len (c : UInt8) {new : List UInt8} (hn : new.length ≤ 2) : ∀ s : List UInt8, (repL c new s).length ≤ 2 * s.length
  | [] => Nat.zero_le _
  | b :: s => by
    have ih := repL_len c hn s
    rw [repL_cons, List.length_append, List.length_cons]
    split <;> simp <;> omega
end Go.Vc
