/- Order: lines in the queue's memory. No condition. -/
import Derived.Test.YtgpikmonklainaaXG5
import Derived.Test.YtgpikmonklainaaXOC
namespace Go.Od
open Go Go.Vc Go.Vl
structure LV where
  r : RV
  k : RV
def LV.c (p : LV) : List Value := [.slice p.r.a p.r.len p.r.cap, .slice p.k.a p.k.len p.k.cap]
abbrev LV.v (p : LV) : Value := .agg #[.slice p.r.a p.r.len p.r.cap, .slice p.k.a p.k.len p.k.cap]
abbrev LV.ln (p : LV) : Ln := (p.r.row, p.k.row)
theorem LV.c_len (p : LV) : p.c.length = 2 := rfl
theorem LV.c_one (p : LV) : ∀ u ∈ p.c, u.oneCell' = true := fun u h => by
  rcases List.mem_cons.1 h with rfl | h
  · rfl
  · rw [List.mem_singleton.1 h]; rfl
def rv0 : RV := ⟨[], none, 0, 0⟩
def lv0 : LV := ⟨rv0, rv0⟩
def LVF (U : List LV) (w : World) : Prop := ∀ p ∈ U, p.r.ok w ∧ p.k.ok w
abbrev St := Option (Nat × List Value) × Nat
def QL (tq tl : TypeId) (qb : Nat) (dv : Value) (n : Nat) (z : St) : List Own := ⟨qb, tq, .is (.agg [sliceO z.1 n z.2, dv].toArray)⟩ :: ownO z.1 tl []
abbrev GL (ls : List LV) (z : St) : Prop := Grows LV.c 2 ls z.1 z.2
theorem ql_out (tq tl : TypeId) (qb : Nat) (dv : Value) (n : Nat) (z : St) : (QL tq tl qb dv n z).all (fun o => o.T.out) = true := by
  unfold QL ownO
  obtain ⟨st, cap⟩ := z
  cases st <;> rfl
theorem flat_two (ls : List LV) (i : Nat) (hi : i < ls.length) : ((ls.flatMap LV.c).drop (2 * i)).take 2 = (ls.getD i lv0).c := by
  induction ls generalizing i with
  | nil => exact absurd hi (Nat.not_lt_zero _)
  | cons x xs ih =>
    cases i with
    | zero => rfl
    | succ i =>
      have := ih i (by simpa using hi)
      rw [List.flatMap_cons]
      have h2 : (x.c ++ xs.flatMap LV.c).drop (2 * (i + 1)) = (xs.flatMap LV.c).drop (2 * i) := by
        rw [show 2 * (i + 1) = x.c.length + 2 * i by rw [LV.c_len]; omega, List.drop_append]
        simp [LV.c_len]
      rw [h2, this]
      simp
theorem flat_set (ls : List LV) (i : Nat) (x : LV) (hi : i < ls.length) : (ls.set i x).flatMap LV.c = (ls.flatMap LV.c).take (2 * i) ++ x.c ++ (ls.flatMap LV.c).drop (2 * i + 2) := by
  induction ls generalizing i with
  | nil => exact absurd hi (Nat.not_lt_zero _)
  | cons y ys ih =>
    cases i with
    | zero => simp [LV.c]
    | succ i =>
      have := ih i (by simpa using hi)
      rw [List.set_cons_succ, List.flatMap_cons, List.flatMap_cons, this]
      rw [show 2 * (i + 1) = y.c.length + 2 * i by rw [LV.c_len]; omega, show y.c.length + 2 * i + 2 = y.c.length + (2 * i + 2) by omega]
      have t1 : y.c.take (y.c.length + 2 * i) = y.c := List.take_of_length_le (by omega)
      have t2 : y.c.drop (y.c.length + (2 * i + 2)) = [] := List.drop_eq_nil_of_le (by omega)
      rw [List.take_append, List.drop_append, t1, t2, Nat.add_sub_cancel_left, Nat.add_sub_cancel_left]
      simp
theorem flat_len2 (ls : List LV) : (ls.flatMap LV.c).length = 2 * ls.length := by
  induction ls with
  | nil => rfl
  | cons x xs ih => rw [List.flatMap_cons, List.length_append, ih, LV.c_len, List.length_cons]; omega
theorem gl_get {ls : List LV} {b cap : Nat} {cs : List Value} (h : GL ls (some (b, cs), cap)) {i : Nat} (hi : i < ls.length) : (cs.drop (2 * i)).take 2 = (ls.getD i lv0).c := by
  obtain ⟨h1, h2, h3⟩ := h
  rw [← flat_two ls i hi, ← h3, List.drop_take, List.take_take]
  congr 1
  omega
theorem gl_set {ls : List LV} {b cap : Nat} {cs : List Value} (h : GL ls (some (b, cs), cap)) {i : Nat} (hi : i < ls.length) (x : LV) : GL (ls.set i x) (some (b, cs.take (2 * i) ++ x.c ++ cs.drop (2 * i + 2)), cap) := by
  obtain ⟨h1, h2, h3⟩ := h
  refine ⟨?_, by rw [List.length_set]; exact h2, ?_⟩
  · rw [List.length_append, List.length_append, List.length_take, List.length_drop, LV.c_len]
    omega
  · rw [List.length_set, flat_set ls i x hi, ← h3]
    have e1 : min (2 * i) cs.length = 2 * i := by omega
    rw [List.take_append, List.take_append, List.length_append, List.length_take, e1, LV.c_len, List.take_take, List.take_take]
    have e2 : min (ls.length * 2) (2 * i) = 2 * i := by omega
    have e3 : min (2 * i) (ls.length * 2) = 2 * i := by omega
    rw [e2, e3, List.take_of_length_le (l := x.c) (by rw [LV.c_len]; omega), List.drop_take]
theorem gl_take {ls : List LV} {z : St} (h : GL ls z) (n : Nat) (hn : n ≤ ls.length) (hne : ls ≠ []) : GL (ls.take n) z := by
  obtain ⟨st, cap⟩ := z
  cases st with
  | none => exact absurd h hne
  | some p =>
    obtain ⟨b, cs⟩ := p
    obtain ⟨h1, h2, h3⟩ := h
    refine ⟨h1, by rw [List.length_take]; omega, ?_⟩
    have e : min n ls.length = n := by omega
    rw [List.length_take, e]
    have h4 : ls.flatMap LV.c = (ls.take n).flatMap LV.c ++ (ls.drop n).flatMap LV.c := by rw [← List.flatMap_append, List.take_append_drop]
    have h5 : (cs.take (ls.length * 2)).take (n * 2) = cs.take (n * 2) := by rw [List.take_take]; congr 1; omega
    rw [← h5, h3, h4, List.take_append_of_le_length (by rw [flat_len2, List.length_take]; omega), List.take_of_length_le (by rw [flat_len2, List.length_take]; omega)]
theorem line_neg (dn : List Bool) {a b : Ln} (ha : a.2.length = dn.length) (hb : b.2.length = dn.length) : lineC dn b a = -lineC dn a b := by
  rw [line_S dn b.2 a.2 b.1 a.1 hb ha, line_S dn a.2 b.2 a.1 b.1 ha hb]
  exact to_S.lex.neg _ _
theorem less_eq (dn : List Bool) {a b : Ln} (ha : a.2.length = dn.length) (hb : b.2.length = dn.length) : decide (0 < lineC dn a b) = ltL dn b a := by
  rw [ltL_eq hb ha, line_neg dn ha hb]
  by_cases h : 0 < lineC dn a b <;> simp [h] <;> omega
section
variable {P : Program} {L : List Own} {Φ : List (World → Prop)} {H : Know} {dst : Option Nat} {ty : TypeId} {pos : String} {after : Array Edge} {g : Option (Nat × Bool)}
theorem ob_ldLine {t tl : TypeId} {x : Operand} {b off i cap : Nat} {cs : List Value} {ls : List LV} (hs : szOf P t = some (some 2)) (hx : H x (.is (.pointer (some ⟨b, off, none⟩)))) (hm : ⟨b, tl, .is (.agg cs.toArray)⟩ ∈ L) (hG : GL ls (some (b, cs), cap)) (hi : i < ls.length) (ho : off = 2 * i) :
    Ob P L Φ H ⟨dst, .load t x, ty, pos, after, g⟩ (.is (ls.getD i lv0).v) := by
  subst ho
  refine ob_load hx ?_
  have := loads_ownN (Φ := Φ) (b := b) (off := 2 * i) (cs := (ls.getD i lv0).c) hs hm (by show (cs.toArray.toList.drop (2 * i)).take 2 = _; simpa using gl_get hG hi) rfl
  exact this
theorem obm_stLine {t tl : TypeId} {p x : Operand} {M M' : List Own} {b off i cap : Nat} {cs : List Value} {ls : List LV} {q : LV} (hs : (P.info? t).map (·.size) = some 2) (hp' : H p (.is (.pointer (some ⟨b, off, none⟩)))) (hx : H x (.is q.v)) (hG : GL ls (some (b, cs), cap)) (hi : i < ls.length) (ho : off = 2 * i)
    (hu : Upd M ⟨b, tl, .is (.agg cs.toArray)⟩ ⟨b, tl, .is (.agg (cs.take (2 * i) ++ q.c ++ cs.drop (2 * i + 2)).toArray)⟩ M') : ObM P L Φ H M ⟨none, .store t p x, ty, pos, after, g⟩ .any M' := by
  subst ho
  have hl : 2 * i + 2 ≤ cs.length := by
    obtain ⟨h1, h2, h3⟩ := hG
    omega
  exact obm_storeF (n := 2) hp' hx hu rfl rfl rfl (Nat.ble_eq_true_of_le hl) hs
end
end Go.Od
