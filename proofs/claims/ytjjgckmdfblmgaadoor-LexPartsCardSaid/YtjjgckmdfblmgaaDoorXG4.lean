/- The program logic, part 5. No condition. -/
import Derived.Test.YtjjgckmdfblmgaaDoorXG3
namespace Go.Vc
open Go
section
variable {P : Program} {c : Ctx} {K : List (Nat × Ty)} {L : List Own} {Φ : List (World → Prop)} {Q : Exit → Act → World → Prop} {ops : Array Oper} {rest : List Oper} {op : Op} {ty : TypeId} {pos : String} {after : Array Edge} {T : Ty} {d i s : Nat} {b : Bool}
def yv : Value → Option Bool
  | .bool b => some b
  | _ => none
theorem yield_of {a : Act} {v : Value} (hi : (ops[i]?).bind (·.dst) = some s) (hs : s < a.tmps.size) (hv : a.tmps.getD s undef = v) : yielded ops a.tmps i = yv v := by
  unfold yielded
  rw [hi]
  have : a.tmps[s]? = some v := by
    rw [Array.getD_eq_getD_getElem?] at hv
    rw [Array.getElem?_eq_getElem hs] at hv ⊢
    exact congrArg some hv
  simp only [Option.bind_some, this]
  cases v <;> rfl
theorem JO.gDo {o : Oper} (hg : o.guard = some (i, b)) (hi : (ops[i]?).bind (·.dst) = some s) (hn : Nat.blt s c.n = true) (hk : look K s = some (.is (.bool b))) (h : JO P c K L Φ ops ({ o with guard := none } :: rest) Q) : JO P c K L Φ ops (o :: rest) Q :=
  ⟨fun E a w hs => by
    have h1 := h.out E a w hs
    have hy := yield_of (ops := ops) (i := i) hi (by rw [hs.n]; exact Nat.le_of_ble_eq_true hn) (hs.k s _ hk)
    unfold wpList at h1 ⊢
    rw [if_pos (by simp [Region.wanted])] at h1
    rw [if_pos (by simp [Region.wanted, hg, hy, yv])]
    exact h1⟩
theorem SA.undef_ {E : Nat → Prop} {a : Act} {w : World} {dst : Option Nat} (hs : SA c K L Φ E a w) (hd : ∀ d, dst = some d → d < c.n) : SA c (putK dst (.is undef) K) L Φ E (a.put dst undef) w :=
  hs.put (.refl _ _) hs.wf rfl hd hs.l hs.ld hs.keeps hs.may
theorem JO.gSkip (hi : (ops[i]?).bind (·.dst) = some s) (hn : Nat.blt s c.n = true) (hk : look K s = some (.is (.bool !b))) (hd : Nat.blt d c.n = true) (h : JO P c ((d, .is undef) :: K) L Φ ops rest Q) : JO P c K L Φ ops (⟨some d, op, ty, pos, after, some (i, b)⟩ :: rest) Q :=
  ⟨fun E a w hs => by
    have hy := yield_of (ops := ops) (i := i) hi (by rw [hs.n]; exact Nat.le_of_ble_eq_true hn) (hs.k s _ hk)
    unfold wpList
    rw [if_neg (by simp [Region.wanted, hy, yv])]
    exact h.out E _ _ (hs.undef_ (dst := some d) (fun d' e => by injection e with e; subst e; exact Nat.le_of_ble_eq_true hd))⟩
theorem JO.gSkipU (hi : (ops[i]?).bind (·.dst) = some s) (hn : Nat.blt s c.n = true) (hk : look K s = some (.is undef)) (hd : Nat.blt d c.n = true) (h : JO P c ((d, .is undef) :: K) L Φ ops rest Q) : JO P c K L Φ ops (⟨some d, op, ty, pos, after, some (i, b)⟩ :: rest) Q :=
  ⟨fun E a w hs => by
    have hy := yield_of (ops := ops) (i := i) hi (by rw [hs.n]; exact Nat.le_of_ble_eq_true hn) (hs.k s _ hk)
    unfold wpList
    rw [if_neg (by simp [Region.wanted, hy, undef, yv])]
    exact h.out E _ _ (hs.undef_ (dst := some d) (fun d' e => by injection e with e; subst e; exact Nat.le_of_ble_eq_true hd))⟩
theorem JO.freeze {b : Nat} {e : TypeId} {cs : List Value} (h0 : ∀ q, ¬ c.X0 q) (hK : K.all (fun p => p.2.out) = true) (hL : L.all (fun o => o.T.out) = true) (h : JO P c K L (HeapIs b cs e :: Φ) ops rest Q) : JO P c K (⟨b, e, .is (.agg cs.toArray)⟩ :: L) Φ ops rest Q :=
  ⟨fun E a w hs => by
    obtain ⟨E', hs'⟩ := hs.freeze h0 (look_out hK) (fun o ho => List.all_eq_true.1 hL o ho)
    exact h.out E' a w hs'⟩
end
section
variable {P : Program} {L : List Own} {Φ : List (World → Prop)} {H : Know} {dst : Option Nat} {ty : TypeId} {pos : String} {after : Array Edge} {g : Option (Nat × Bool)} {xt yt : TypeId} {x y : Operand} {k : IntKind} {a b : Int} {v : Bool}
theorem ob_eqv (hx : H x (.is (.int k a))) (hy : H y (.is (.int k b))) (h : (a == b) = v) : Ob P L Φ H ⟨dst, .binOp .eql xt x y yt, ty, pos, after, g⟩ (.is (.bool v)) := h ▸ ob_eql hx hy
theorem ob_neqv (hx : H x (.is (.int k a))) (hy : H y (.is (.int k b))) (h : (!(a == b)) = v) : Ob P L Φ H ⟨dst, .binOp .neq xt x y yt, ty, pos, after, g⟩ (.is (.bool v)) := by
  have := ob_neq (P := P) (L := L) (Φ := Φ) (dst := dst) (ty := ty) (pos := pos) (after := after) (g := g) (xt := xt) (yt := yt) hx hy
  rwa [show (a != b) = v from h] at this
theorem Sub.slEmpty {α : Type} {en : α → List Value} {sz : Nat} {a : Option Addr} {cap : Nat} : Sub L Φ (.is (.slice a 0 cap)) (.rep (SlG en sz [])) := fun E v w hf e => by
  rw [show v = _ from e]
  exact fun w' _ => ⟨a, 0, cap, rfl, rfl, fun h => absurd rfl h⟩
end
theorem row_own {α : Type} {enc : α → List Value} {sz : Nat} {xs : List α} (hsz : ∀ x, (enc x).length = sz) {cs : List Value} {b n : Nat} {e : TypeId} {w : World} (hn : xs.length = n) (hc : cs.take (n * sz) = xs.flatMap enc) (h : HeapIs b cs e w) : RowG enc sz xs (some ⟨b, 0, none⟩) n w := by
  obtain ⟨a, len, cap, e1, hr⟩ := sl_of_heap hsz hn hc h 0
  injection e1 with e1 e2 e3
  subst e1 e2
  exact hr
end Go.Vc
