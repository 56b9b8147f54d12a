/- Order: what is known of lines, in walks. No condition. -/
import Derived.Test.YtgpikmonklainaaXM1
import Derived.Test.YtgpikmonklainaaXG5
namespace Go.Od
open Go Go.Vc Go.Vl
def boC (b : Bool) : List Value := [.bool b]
section
variable {P : Program} {c : Ctx} {K : List (Nat × Ty)} {L : List Own} {Φ : List (World → Prop)} {Q : Exit → Act → World → Prop}
theorem J.knG {α : Type} {enc : α → List Value} {sz : Nat} {xs : List α} {a : Option Addr} {len : Nat} {x : Code} (hF : RowG enc sz xs a len ∈ Φ) (hj : ∀ b o, xs.length = len → (len ≠ 0 → a = some ⟨b, o, none⟩) → J P c K L Φ x Q) : J P c K L Φ x Q := by
  refine J.know (∃ b o, xs.length = len ∧ (len ≠ 0 → a = some ⟨b, o, none⟩)) (fun E w hG _ => ?_) (fun ⟨b, o, h1, h2⟩ => hj b o h1 h2)
  obtain ⟨h1, h2⟩ := (hG _ hF).now
  by_cases hn : len = 0
  · exact ⟨0, 0, h1, fun h => absurd hn h⟩
  · obtain ⟨b, o, e, _⟩ := h2 hn
    exact ⟨b, o, h1, fun _ => e⟩
end
theorem cmp_rng (a b : V3) : -1 ≤ cmpV a b ∧ cmpV a b ≤ 1 := by
  rcases tri_V a b with h | h | h
  · rw [cmp_lt h]; omega
  · rw [h, cmp_eq]; omega
  · rw [cmp_gt h]; omega
abbrev v3E : V3 := ⟨0, 0, e0⟩
def sgC (d : Bool) (x y : V3) : Int := bif d then -cmpV x y else cmpV x y
end Go.Od
namespace Go.Od
open Go Go.Vc Go.Vl
def okL (dn : List Bool) (p : Ln) : Bool := p.2.length == dn.length && p.1.all okV && p.2.all okV
def allOk (rows keys : List (List V3)) (dn : List Bool) : Bool := rows.length == keys.length && (rows.zip keys).all (okL dn)
def topO (rows keys : List (List V3)) (dn : List Bool) (limit : Int) : List (List V3) := if allOk rows keys dn then topRows limit dn (rows.zip keys) else []
def topE (rows keys : List (List V3)) (dn : List Bool) : Int := if allOk rows keys dn then 0 else 1
def lvs (rps kps : List RV) : List LV := List.zipWith LV.mk rps kps
def good (dn : List Bool) (l : List LV) : List LV := l.filter fun p => okL dn p.ln
structure Upto (dn : List Bool) (limit : Int) (ls : List LV) (i : Nat) (l : List LV) : Prop where
  h : l = heapOf (ltL dn) LV.ln lv0 limit (ls.take i)
  ok : ∀ p ∈ ls.take i, okL dn p.ln = true
section
variable {dn : List Bool} {limit : Int} {ls l : List LV} {i : Nat}
end
def frG (N : Nat) (tv ts : TypeId) : RvG := fun ps a len _ w => (len ≠ 0 → ∃ b, a = some ⟨b, 0, none⟩ ∧ HeapIs b (ps.flatMap RV.c) ts w) ∧ ∀ p ∈ ps, FreshW N tv p.a p.len p.cap 3 w
def DoneF (N : Nat) (tv : TypeId) (ps : List RV) (w : World) : Prop := RVF ps w ∧ ∀ p ∈ ps, FreshW N tv p.a p.len p.cap 3 w
def outC (k : Nat) (ps : List RV) : List Value := (List.replicate k rv0 ++ ps).flatMap RV.c
theorem flatC : ∀ ps : List RV, ps.flatMap RV.c = ps.map RV.v
  | [] => rfl
  | p :: ps => by rw [List.flatMap_cons, flatC ps]; rfl
section
variable {L : List Own} {Φ : List (World → Prop)} {P : Program} {c : Ctx} {K : List (Nat × Ty)} {Q : Exit → Act → World → Prop}
end
theorem getD_some {α : Type} {d : α} {l : List α} {i : Nat} (h : i < l.length) : l[i]? = some (l.getD i d) := by simp [List.getElem?_eq_getElem h]
theorem getD_mem {α : Type} {d : α} {l : List α} {i : Nat} (h : i < l.length) : l.getD i d ∈ l := List.mem_of_getElem? (getD_some h)
theorem drop_get {α : Type} {l : List α} {k : Nat} {x : α} (h : l[k]? = some x) : l.drop k = x :: l.drop (k + 1) := by
  obtain ⟨h1, h2⟩ := List.getElem?_eq_some_iff.1 h
  rw [List.drop_eq_getElem_cons h1, h2]
end Go.Od
namespace Go.Od
open Go Go.Vc Go.Vl
abbrev lnD : Ln := ([], [])
def bI : Option Nat → Int
  | none => -1
  | some j => j
section
variable {β : Type} {lt : β → β → Bool} {d : β} {xs : List β} {tk : List Bool} {i : Nat}
end
theorem splice_set {α : Type} (f : α → Value) (l : List α) (j : Nat) (x : α) (h : j < l.length) : splice (l.map f) j [f x] = (l.set j x).map f := by
  unfold splice
  rw [List.map_set, List.set_eq_take_append_cons_drop, if_pos (by simpa using h)]
  simp
section
variable {L : List Own} {Φ : List (World → Prop)} {P : Program}
theorem Sub.rowsO {ps rps : List RV} {rows : List (List V3)} {st : Option (Nat × List Value)} {cap : Nat} (hG : Grows RV.c 1 ps st cap) (hR : RowG RV.c 1 ps (adO st) ps.length ∈ Φ) (hF : RVF rps ∈ Φ) (hm : ∀ p ∈ ps, p ∈ rps) (hr : ps.map RV.row = rows) : Sub L Φ (.is (sliceO st ps.length cap)) (.rep (RowsR noG rows)) := by
  obtain ⟨h1, h2⟩ := hG.sl
  rw [h1]
  refine fun E v w hf e1 => ?_
  rw [show v = _ from e1]
  exact fun w' hk => ⟨ps, adO st, ps.length, capO st cap, hr, rfl, h2, hf.2 _ hR w' hk, fun p hp => hf.2 _ hF w' hk p (hm p hp), trivial⟩
theorem Sub.rowsNil : Sub L Φ (.is (.slice none 0 0)) (.rep (RowsR noG [])) := fun E v w hf e => by
  rw [show v = _ from e]
  exact fun w' _ => ⟨[], none, 0, 0, rfl, rfl, Nat.le_refl _, ⟨rfl, fun h => absurd rfl h⟩, (fun p hp => absurd hp List.not_mem_nil : RVF [] w'), trivial⟩
end
section
variable {P : Program} {L : List Own} {Φ : List (World → Prop)} {H : Know} {dst : Option Nat} {ty : TypeId} {pos : String} {after : Array Edge} {g : Option (Nat × Bool)}
theorem ob_lenG {α : Type} {en : α → List Value} {sz : Nat} {xs : List α} {st : Option (Nat × List Value)} {cap : Nat} {t e : TypeId} {x : Operand} (hG : Grows en sz xs st cap) (hu : P.underlying t = some (.slice e)) (hx : H x (.is (sliceO st xs.length cap))) : Ob P L Φ H ⟨dst, .call { callee := .builtin .len, args := #[x], argTypes := #[t] }, ty, pos, after, g⟩ (.is (.int .i64 (xs.length : Nat))) := by
  obtain ⟨h1, _⟩ := hG.sl
  rw [h1] at hx
  exact ob_len hu hx
end
end Go.Od
namespace Go.Od
open Go Go.Vc Go.Vl
theorem rv_of {row : List V3} {E : Nat → Prop} {v : Value} {w : World} (h : Pers E w (SlC V3.cells 3 row v)) : ∃ p : RV, v = p.v ∧ p.row = row ∧ Pers E w p.ok := by
  obtain ⟨a, len, cap, hv, _, _⟩ := h.now
  refine ⟨⟨row, a, len, cap⟩, hv, rfl, fun w' hk => ?_⟩
  obtain ⟨a', len', cap', e, h1, h2⟩ := h w' hk
  rw [hv] at e
  injection e with e1 e2 e3
  subst e1 e2 e3
  exact ⟨h1, h2⟩
section
variable {P : Program} {L : List Own} {Φ : List (World → Prop)} {H : Know} {dst : Option Nat} {ty : TypeId} {pos : String} {after : Array Edge} {g : Option (Nat × Bool)}
end
abbrev nV (n : Int) : V3 := ⟨1, n, e0⟩
theorem okV_n (n : Int) : okV (nV n) = true := by
  unfold okV
  simp [nV, seq_self]
theorem cmp_n (a b : Int) : cmpV (nV a) (nV b) = cI a b := by
  unfold cmpV
  simp only [cI_eq, cS_eq]
  by_cases h : cI a b = 0 <;> simp [h]
def awR : List (List V3) := [[nV 1], [nV 3], [nV 2]]
def awK : List (List V3) := [[nV 5], [nV 5], [nV 4]]
end Go.Od
namespace Go.Od
open Go Go.Vc Go.Vl
structure Swo (n : Nat) (lt : Nat → Nat → Bool) : Prop where
  asym : ∀ x y, x < n → y < n → lt x y = true → lt y x = false
  ntr : ∀ x y z, x < n → y < n → z < n → lt x y = false → lt y z = false → lt x z = false
theorem Swo.irr {n : Nat} {lt : Nat → Nat → Bool} (h : Swo n lt) {x : Nat} (hx : x < n) : lt x x = false := by
  cases e : lt x x with
  | false => rfl
  | true => rw [h.asym x x hx hx e] at e; cases e
abbrev Bd (n : Nat) (l : List Nat) : Prop := ∀ x ∈ l, x < n
theorem swp_far (U M V : List Nat) (x y : Nat) : swp 0 (U ++ x :: (M ++ y :: V)) U.length (U.length + 1 + M.length) = U ++ y :: (M ++ x :: V) := by
  unfold swp
  have e1 : (U ++ x :: (M ++ y :: V)).getD U.length 0 = x := by
    rw [List.getD_eq_getElem?_getD, List.getElem?_append_right (Nat.le_refl _), Nat.sub_self]
    rfl
  have e2 : (U ++ x :: (M ++ y :: V)).getD (U.length + 1 + M.length) 0 = y := by
    rw [List.getD_eq_getElem?_getD, List.getElem?_append_right (by omega), show U.length + 1 + M.length - U.length = M.length + 1 by omega, List.getElem?_cons_succ, List.getElem?_append_right (Nat.le_refl _), Nat.sub_self]
    rfl
  rw [e1, e2, List.set_append_right _ _ (Nat.le_refl _), Nat.sub_self, List.set_cons_zero, List.set_append_right _ _ (by omega), show U.length + 1 + M.length - U.length = M.length + 1 by omega, List.set_cons_succ, List.set_append_right _ _ (Nat.le_refl _), Nat.sub_self, List.set_cons_zero]
theorem swp_sym (l : List Nat) {i j : Nat} (h : i ≠ j) : swp 0 l i j = swp 0 l j i := by
  unfold swp
  rw [List.set_comm _ _ h]
theorem swp_up (U V : List Nat) (x y : Nat) : swp 0 (U ++ x :: y :: V) U.length (U.length + 1) = U ++ y :: x :: V := swp_far U [] V x y
theorem swp_dn (U V : List Nat) (x y : Nat) : swp 0 (U ++ x :: y :: V) (U.length + 1) U.length = U ++ y :: x :: V := by
  rw [swp_sym _ (by omega)]
  exact swp_up U V x y
section
variable {n : Nat} {lt : Nat → Nat → Bool} (h : Swo n lt)
include h
theorem srt_get {L : List Nat} (hb : Bd n L) (hS : Srt lt L) {i j : Nat} (hij : i ≤ j) (hj : j < L.length) : lt (L.getD j 0) (L.getD i 0) = false := by
  rw [getD_lt hj, getD_lt (show i < L.length by omega)]
  rcases Nat.lt_or_eq_of_le hij with hij | rfl
  · exact List.pairwise_iff_getElem.1 hS i j (by omega) hj hij
  · exact h.irr (hb _ (List.getElem_mem hj))
theorem srt_ins {P Q : List Nat} {x : Nat} (hP : Bd n P) (hQ : Bd n Q) (hx : x < n) (hS : Srt lt (P ++ Q)) (h1 : ∀ q ∈ Q, lt x q = true) (h2 : P = [] ∨ ∃ P' y, P = P' ++ [y] ∧ lt x y = false) : Srt lt (P ++ x :: Q) := by
  have hS' := List.pairwise_append.1 hS
  refine List.pairwise_append.2 ⟨hS'.1, List.pairwise_cons.2 ⟨fun q hq => h.asym x q hx (hQ q hq) (h1 q hq), hS'.2.1⟩, fun p hp q hq => ?_⟩
  rcases List.mem_cons.1 hq with rfl | hq
  · rcases h2 with rfl | ⟨P', y, rfl, hy⟩
    · cases hp
    · rcases List.mem_append.1 hp with hp' | hp'
      · exact h.ntr q y p hx (hP y (by simp)) (hP p hp) hy ((List.pairwise_append.1 hS'.1).2.2 p hp' y (by simp))
      · rw [List.mem_singleton.1 hp']; exact hy
  · exact hS'.2.2 p hp q hq
theorem merge_join {X Y Z1 Z2 : List Nat} {s t : Nat} (hXb : Bd n X) (hYb : Bd n Y) (hX : Srt lt X) (hY : Srt lt Y) (hs : s ≤ X.length) (ht : t ≤ Y.length) (p1 : Z1.Perm (X.take s ++ Y.take t)) (p2 : Z2.Perm (X.drop s ++ Y.drop t)) (s1 : Srt lt Z1) (s2 : Srt lt Z2)
    (c1 : s = 0 ∨ t = Y.length ∨ lt (Y.getD t 0) (X.getD (s - 1) 0) = false) (c2 : s = X.length ∨ t = 0 ∨ lt (X.getD s 0) (Y.getD (t - 1) 0) = false) : Srt lt (Z1 ++ Z2) ∧ (Z1 ++ Z2).Perm (X ++ Y) := by
  have hget : ∀ {L : List Nat} {i : Nat}, i < L.length → L.getD i 0 ∈ L := fun hi => getD_mem hi
  have tk : ∀ {L : List Nat} {k : Nat} {x : Nat}, x ∈ L.take k → ∃ i, i < k ∧ i < L.length ∧ L.getD i 0 = x := fun {L k x} hx => by
    obtain ⟨i, hi, rfl⟩ := List.mem_iff_getElem.1 hx
    rw [List.length_take] at hi
    exact ⟨i, by omega, by omega, by rw [getD_lt (by omega), List.getElem_take]⟩
  have dr : ∀ {L : List Nat} {k : Nat} {x : Nat}, x ∈ L.drop k → ∃ i, k ≤ i ∧ i < L.length ∧ L.getD i 0 = x := fun {L k x} hx => by
    obtain ⟨i, hi, rfl⟩ := List.mem_iff_getElem.1 hx
    rw [List.length_drop] at hi
    exact ⟨k + i, by omega, by omega, by rw [getD_lt (by omega), List.getElem_drop]⟩
  refine ⟨List.pairwise_append.2 ⟨s1, s2, fun a ha b hb => ?_⟩, ?_⟩
  · have ha := p1.mem_iff.1 ha
    have hb := p2.mem_iff.1 hb
    rcases List.mem_append.1 ha with ha | ha <;> rcases List.mem_append.1 hb with hb | hb
    · obtain ⟨i, h1, h2, rfl⟩ := tk ha
      obtain ⟨j, h3, h4, rfl⟩ := dr hb
      exact srt_get h hXb hX (by omega) h4
    · obtain ⟨i, h1, h2, rfl⟩ := tk ha
      obtain ⟨j, h3, h4, rfl⟩ := dr hb
      have hc : lt (Y.getD t 0) (X.getD (s - 1) 0) = false := by
        rcases c1 with c | c | c
        · omega
        · omega
        · exact c
      have k1 := srt_get h hYb hY (show t ≤ j by omega) h4
      have k2 := srt_get h hXb hX (show i ≤ s - 1 by omega) (by omega)
      exact h.ntr _ _ _ (hYb _ (hget h4)) (hXb _ (hget (by omega))) (hXb _ (hget h2)) (h.ntr _ _ _ (hYb _ (hget h4)) (hYb _ (hget (by omega))) (hXb _ (hget (by omega))) k1 hc) k2
    · obtain ⟨i, h1, h2, rfl⟩ := tk ha
      obtain ⟨j, h3, h4, rfl⟩ := dr hb
      have hc : lt (X.getD s 0) (Y.getD (t - 1) 0) = false := by
        rcases c2 with c | c | c
        · omega
        · omega
        · exact c
      have k1 := srt_get h hXb hX (show s ≤ j by omega) h4
      have k2 := srt_get h hYb hY (show i ≤ t - 1 by omega) (by omega)
      exact h.ntr _ _ _ (hXb _ (hget h4)) (hYb _ (hget (by omega))) (hYb _ (hget h2)) (h.ntr _ _ _ (hXb _ (hget h4)) (hXb _ (hget (by omega))) (hYb _ (hget (by omega))) k1 hc) k2
    · obtain ⟨i, h1, h2, rfl⟩ := tk ha
      obtain ⟨j, h3, h4, rfl⟩ := dr hb
      exact srt_get h hYb hY (by omega) h4
  · refine (p1.append p2).trans ?_
    have e1 : (X.take s ++ Y.take t ++ (X.drop s ++ Y.drop t)).Perm (X.take s ++ (X.drop s ++ (Y.take t ++ Y.drop t))) := by
      rw [List.append_assoc]
      refine List.Perm.append_left _ ?_
      rw [← List.append_assoc, ← List.append_assoc]
      exact List.perm_append_comm.append_right _
    refine e1.trans (List.Perm.of_eq ?_)
    rw [List.take_append_drop, ← List.append_assoc, List.take_append_drop]
theorem cut_mono {D : List Nat} {a m b p lo hi : Nat} (hD : Bd n D) (hb : b ≤ D.length) (hX : ∀ i j, a ≤ i → i ≤ j → j < m → lt (D.getD j 0) (D.getD i 0) = false) (hY : ∀ i j, m ≤ i → i ≤ j → j < b → lt (D.getD j 0) (D.getD i 0) = false)
    (hlo : a ≤ lo) (hhi : hi ≤ m) (hp1 : p - lo < b) (hp2 : m ≤ p + 1 - hi) (hp3 : hi ≤ p + 1) {i j : Nat} (h1 : lo ≤ i) (h2 : i ≤ j) (h3 : j < hi) (h4 : lt (D.getD (p - j) 0) (D.getD j 0) = false) : lt (D.getD (p - i) 0) (D.getD i 0) = false := by
  have hg : ∀ k, k < D.length → D.getD k 0 < n := fun k hk => hD _ (getD_mem hk)
  have k1 := hX i j (by omega) h2 (by omega)
  have k2 := hY (p - j) (p - i) (by omega) (by omega) (by omega)
  exact h.ntr _ _ _ (hg _ (by omega)) (hg _ (by omega)) (hg _ (by omega)) (h.ntr _ _ _ (hg _ (by omega)) (hg _ (by omega)) (hg _ (by omega)) k2 h4) k1
end
theorem getX (A X Y C : List Nat) {i : Nat} (h : i < X.length) : (A ++ X ++ Y ++ C).getD (A.length + i) 0 = X.getD i 0 := by
  rw [List.getD_eq_getElem?_getD, List.getD_eq_getElem?_getD, List.append_assoc, List.append_assoc, List.getElem?_append_right (by omega), Nat.add_sub_cancel_left, List.getElem?_append_left h]
theorem getY (A X Y C : List Nat) {i : Nat} (h : i < Y.length) : (A ++ X ++ Y ++ C).getD (A.length + X.length + i) 0 = Y.getD i 0 := by
  rw [List.getD_eq_getElem?_getD, List.getD_eq_getElem?_getD, List.append_assoc, List.getElem?_append_right (by rw [List.length_append]; omega), List.length_append, Nat.add_sub_cancel_left, List.getElem?_append_left h]
end Go.Od
namespace Go.Od
open Go Go.Vc Go.Vl
def iC (n : Nat) : Value := .int .i64 (n : Nat)
theorem nth_int {l : List Nat} {i off : Nat} (h : i < l.length) (e : off = i) : nth (Value.agg (l.map iC).toArray).cells.toList off = some (.int .i64 ((l.getD i 0 : Nat))) := by
  subst e
  rw [nth_eq]
  show (l.map iC).toArray.toList[off]? = _
  simp [iC, List.getElem?_eq_getElem h]
def insD (A S : List Nat) (x : Nat) (R : List Nat) (p : Nat) : List Nat := A ++ S.take p ++ x :: (S.drop p ++ R)
section
variable {A S R : List Nat} {x p : Nat}
theorem insD_len (hp : p ≤ S.length) : (insD A S x R p).length = A.length + S.length + 1 + R.length := by
  unfold insD
  simp only [List.length_append, List.length_cons, List.length_take, List.length_drop]
  omega
theorem insD_get (hp : p ≤ S.length) : (insD A S x R p).getD (A.length + p) 0 = x := by
  unfold insD
  rw [List.getD_eq_getElem?_getD, List.getElem?_append_right (by rw [List.length_append, List.length_take]; omega), List.length_append, List.length_take, show A.length + p - (A.length + min p S.length) = 0 by omega]
  rfl
theorem insD_cut (h0 : 0 < p) (hp : p ≤ S.length) : insD A S x R p = (A ++ S.take (p - 1)) ++ S.getD (p - 1) 0 :: x :: (S.drop p ++ R) := by
  unfold insD
  have e : S.take p = S.take (p - 1) ++ [S.getD (p - 1) 0] := by
    conv => lhs; rw [show p = (p - 1) + 1 by omega]
    rw [List.take_add_one, getD_some (d := 0) (by omega)]
    rfl
  rw [e]
  simp
theorem insD_cut1 (hp : p < S.length) : insD A S x R p = (A ++ S.take p) ++ x :: S.getD p 0 :: (S.drop (p + 1) ++ R) := by
  unfold insD
  rw [drop_get (getD_some (d := 0) hp)]
  simp
theorem insD_get1 (h0 : 0 < p) (hp : p ≤ S.length) : (insD A S x R p).getD (A.length + p - 1) 0 = S.getD (p - 1) 0 := by
  rw [insD_cut h0 hp, List.getD_eq_getElem?_getD, List.getElem?_append_right (by rw [List.length_append, List.length_take]; omega), List.length_append, List.length_take, show A.length + p - 1 - (A.length + min (p - 1) S.length) = 0 by omega]
  rfl
theorem insD_dn (h0 : 0 < p) (hp : p ≤ S.length) : swp 0 (insD A S x R p) (A.length + p) (A.length + p - 1) = insD A S x R (p - 1) := by
  have h := swp_dn (A ++ S.take (p - 1)) (S.drop p ++ R) (S.getD (p - 1) 0) x
  rw [show (A ++ S.take (p - 1)).length = A.length + p - 1 by rw [List.length_append, List.length_take]; omega, show A.length + p - 1 + 1 = A.length + p by omega, ← insD_cut h0 hp] at h
  rw [h, insD_cut1 (by omega), show p - 1 + 1 = p by omega]
theorem insD_up (hp : p < S.length) : swp 0 (insD A S x R p) (A.length + p) (A.length + p + 1) = insD A S x R (p + 1) := by
  have h := swp_up (A ++ S.take p) (S.drop (p + 1) ++ R) x (S.getD p 0)
  rw [show (A ++ S.take p).length = A.length + p by rw [List.length_append, List.length_take]; omega, ← insD_cut1 hp] at h
  rw [h, insD_cut (by omega) (by omega), show p + 1 - 1 = p by omega]
end
def Fn2 (P : Program) (fv : Value) (G : World → Prop) (n : Nat) (cf : Nat → Nat → Int) : Prop :=
  ∃ f fs cs, fv = .func (.func f) fs.toArray cs.toArray ∧ (∀ args w, (callFunc f args).run P w = .ok (.enter f args) w) ∧
    ∀ (i j : Nat), i < n → j < n → ∀ (E : Nat → Prop) (w : World), (∀ b, E b → b < w.heap.size) → Pers E w G → Calls P f (fs ++ [Value.int .i64 (i : Nat), Value.int .i64 (j : Nat)] ++ cs).toArray w fun e w' => ∃ r, e = .returned r ∧ Keeps noX w w' ∧ r = .int .i64 (cf i j)
section
variable {P : Program} {L : List Own} {Φ : List (World → Prop)} {H : Know} {dst : Option Nat} {ty : TypeId} {pos : String} {after : Array Edge} {g : Option (Nat × Bool)}
theorem ob_call2 {cal x y : Operand} {ats : Array TypeId} {fv : Value} {G : World → Prop} {n i j : Nat} {cf : Nat → Nat → Int} (hf : H cal (.is fv)) (hc : Fn2 P fv G n cf) (hG : G ∈ Φ) (hx : H x (.is (.int .i64 (i : Nat)))) (hy : H y (.is (.int .i64 (j : Nat)))) (hi : i < n) (hj : j < n) :
    Ob P L Φ H ⟨dst, .call { callee := .value cal, args := #[x, y], argTypes := ats }, ty, pos, after, g⟩ (.is (.int .i64 (cf i j))) := fun E w ρ hp => by
  obtain ⟨f, fs, cs, rfl, he, hk⟩ := hc
  have h1 : ρ cal = .func (.func f) fs.toArray cs.toArray := hp.x cal _ (by simp [Op.operands, Call.operands]) hf
  have h2 : ρ x = .int .i64 (i : Nat) := hp.x x _ (by simp [Op.operands, Call.operands]) hx
  have h2' : ρ y = .int .i64 (j : Nat) := hp.x y _ (by simp [Op.operands, Call.operands]) hy
  have h3 := hk i j hi hj E w hp.wf (hp.f _ hG)
  simp only [execOp, resolve, h1, Deferred.ofValue, invoke, Sem.run_bind, Sem.run_pure, Result.andThen_ok]
  rw [show fs.toArray ++ (#[x, y].map ρ) ++ cs.toArray = (fs ++ [Value.int .i64 (i : Nat), Value.int .i64 (j : Nat)] ++ cs).toArray by simp [h2, h2'], he]
  refine Calls.mono h3 ?_
  rintro e w' ⟨r, rfl, hk', hR⟩
  exact ⟨hk', hR⟩
variable {c : Ctx} {K : List (Nat × Ty)} {L' : List Own} {Q : Exit → Act → World → Prop}
theorem J.eqL {x : Code} (e : L = L') (h : J P c K L' Φ x Q) : J P c K L Φ x Q := e ▸ h
theorem JO.eqL {ops : Array Oper} {l : List Oper} (e : L = L') (h : JO P c K L' Φ ops l Q) : JO P c K L Φ ops l Q := e ▸ h
theorem JX.eqL {x : Exit} (e : L = L') (h : JX c K L' Φ x Q) : JX c K L Φ x Q := e ▸ h
end
def swD (A P M Q C : List Nat) (i : Nat) : List Nat := A ++ Q.take i ++ (P.drop i ++ (M ++ (P.take i ++ (Q.drop i ++ C))))
section
variable {A P M Q C : List Nat} {i : Nat}
theorem swD_zero : swD A P M Q C 0 = A ++ P ++ M ++ Q ++ C := by unfold swD; simp
theorem swD_end (hl : P.length = Q.length) (hi : i = P.length) : swD A P M Q C i = A ++ Q ++ M ++ P ++ C := by
  subst hi
  unfold swD
  rw [List.take_length, List.drop_length, hl, List.take_length, List.drop_length]
  simp
theorem swD_len (hl : P.length = Q.length) (hi : i ≤ P.length) : (swD A P M Q C i).length = A.length + P.length + M.length + Q.length + C.length := by
  unfold swD
  simp only [List.length_append, List.length_take, List.length_drop]
  omega
theorem swD_cut (hl : P.length = Q.length) (hi : i < P.length) : swD A P M Q C i = (A ++ Q.take i) ++ P.getD i 0 :: ((P.drop (i + 1) ++ M ++ P.take i) ++ Q.getD i 0 :: (Q.drop (i + 1) ++ C)) := by
  unfold swD
  rw [drop_get (getD_some (d := 0) hi), drop_get (l := Q) (getD_some (d := 0) (by omega))]
  simp
theorem swD_step (hl : P.length = Q.length) (hi : i < P.length) : swp 0 (swD A P M Q C i) (A.length + i) (A.length + P.length + M.length + i) = swD A P M Q C (i + 1) := by
  have h := swp_far (A ++ Q.take i) (P.drop (i + 1) ++ M ++ P.take i) (Q.drop (i + 1) ++ C) (P.getD i 0) (Q.getD i 0)
  rw [← swD_cut hl hi, show (A ++ Q.take i).length = A.length + i by rw [List.length_append, List.length_take]; omega, show A.length + i + 1 + (P.drop (i + 1) ++ M ++ P.take i).length = A.length + P.length + M.length + i by simp only [List.length_append, List.length_take, List.length_drop]; omega] at h
  rw [h]
  unfold swD
  rw [show Q.take (i + 1) = Q.take i ++ [Q.getD i 0] by rw [List.take_add_one, getD_some (d := 0) (by omega)]; rfl, show P.take (i + 1) = P.take i ++ [P.getD i 0] by rw [List.take_add_one, getD_some (d := 0) hi]; rfl]
  simp
end
section
variable {P : Program} {c : Ctx} {K : List (Nat × Ty)} {L : List Own} {Φ : List (World → Prop)} {Q : Exit → Act → World → Prop}
theorem J.cutZN {Z : Type} (Kf : Z → List (Nat × Ty)) (Lf : Z → List Own) (inv : Z → Prop) {x y : Code} (h : J P c K L Φ x (Exit.then (fun a w => ∃ z, inv z ∧ ∃ E, SA c (Kf z) (Lf z) Φ E a w) Q)) (hy : ∀ z, inv z → J P c (Kf z) (Lf z) Φ y Q) : J P c K L Φ x (Exit.then (y.wp P Q) Q) :=
  ⟨fun E a w hs => wp_mono (h.out E a w hs) fun e a w hq => by
    cases e with
    | normal =>
      obtain ⟨z, hz, E, hs⟩ := hq
      exact (hy z hz).out E a w hs
    | _ => exact hq⟩
theorem JX.midZ {Z : Type} {Kf : Z → List (Nat × Ty)} {Lf : Z → List Own} {inv : Z → Prop} {Φ' : List (World → Prop)} (z : Z) (hi : inv z) (ss : List Nat) (hK : Sel K ss (Kf z)) (hL : Has L (Lf z)) (hΦ : ∀ G ∈ Φ', G ∈ Φ) :
    JX c K L Φ .normal (Exit.then (fun a w => ∃ z, inv z ∧ ∃ E, SA c (Kf z) (Lf z) Φ' E a w) Q) :=
  ⟨fun E a w hs => ⟨z, hi, E, hs.sub hK.look hL.mem (hL.nodup hs.ld) hΦ⟩⟩
end
end Go.Od
